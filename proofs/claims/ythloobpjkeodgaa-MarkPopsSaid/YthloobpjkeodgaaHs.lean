/- The heap logic, part 19: regions that draw their order, where several things may come up at once: a way for each. No condition. -/
import Derived.Test.YthloobpjkeodgaaHr
import Derived.Orders
namespace Go.Proofs.Ythloobpjkeodgaa.H
open Go
set_option linter.unusedVariables false

section
variable {P : Program} {B : RO}
theorem storeH_frame {h h2 : Heap} {b : Nat} {ob : AObj} {a : Addr} {v : Value} (hb : h b = none) (hs : storeH h a v = some h2) : storeH (h.set b ob) a v = some (h2.set b ob) ∧ h2 b = none := by
  unfold storeH at hs ⊢
  by_cases hsp : a.spot.isSome = true
  · rw [if_pos hsp] at hs; cases hs
  rw [if_neg hsp] at hs ⊢
  cases e : h a.block with
  | none => rw [e] at hs; cases hs
  | some o =>
    have hne : a.block ≠ b := fun x => by rw [x, hb] at e; cases e
    rw [Heap.set_ne _ _ _ _ hne, e]
    rw [e] at hs
    cases o with
    | raw o => cases hs
    | vec t fs n =>
      simp only at hs ⊢
      split at hs
      · rename_i h1
        rw [if_pos h1]
        split at hs
        · cases hs
          exact ⟨by rw [Heap.set_comm _ _ _ _ _ hne], by rw [Heap.set_ne _ _ _ _ (Ne.symm hne)]; exact hb⟩
        · cases hs
      · rename_i h1
        rw [if_neg h1]
        split at hs
        · rename_i h2
          rw [if_pos h2]
          cases hs
          exact ⟨by rw [Heap.set_comm _ _ _ _ _ hne], by rw [Heap.set_ne _ _ _ _ (Ne.symm hne)]; exact hb⟩
        · cases hs
theorem semH_frame {α : Type} {s : Sem α} {b : Nat} {ob : AObj} {K : α → Heap → Prop} : ∀ {h : Heap}, h b = none → B b = none → semH P B s h K → semH P B s (h.set b ob) (fun a h' => ∃ h1, h1 b = none ∧ h' = h1.set b ob ∧ K a h1) := by
  induction s with
  | pure a => intro h hb _ hs; exact ⟨h, hb, rfl, hs⟩
  | load m a k ih => rintro h hb hB ⟨v, hv, hs⟩; exact ⟨v, (Wk.new hb hB).cell hv, ih v hb hB hs⟩
  | store m a v k ih =>
    rintro h hb hB ⟨h1, h2, hh, hs⟩
    obtain ⟨e1, e2⟩ := storeH_frame (ob := ob) hb hh
    exact ⟨h1, _, e1, ih e2 hB hs⟩
  | new o k ih =>
    intro h hb hB hs c h1 h2
    have hne : c ≠ b := fun x => by rw [x, Heap.set_same] at h1; cases h1
    rw [Heap.set_ne _ _ _ _ hne] at h1
    rw [Heap.set_comm _ _ _ _ _ (Ne.symm hne)]
    exact ih c (by rw [Heap.set_ne _ _ _ _ (Ne.symm hne)]; exact hb) hB (hs c h1 h2)
  | shape r k ih => rintro h hb hB ⟨s, hs, hk'⟩; exact ⟨s, (Wk.new hb hB).shape hs, ih s hb hB hk'⟩
  | freeze a n k ih =>
    rintro h hb hB ⟨⟨t, fs, m, h1, h1'⟩, h2, hs⟩
    exact ⟨⟨t, fs, m, (Wk.new hb hB).1 _ _ h1, h1'⟩, h2, ih hb hB hs⟩
  | frozen a k ih => intro h hb hB hs c h1; exact ih c hb hB (hs c (fun x hc => h1 x ((Wk.new hb hB).frozen hc)))
  | getObj r k ih => rintro h hb hB ⟨o, h1, h2, hs⟩; exact ⟨o, (Wk.new hb hB).1 _ _ h1, h2, ih o hb hB hs⟩
  | setObj r o k ih =>
    rintro h hb hB ⟨⟨o', h1, h1'⟩, h2, hs⟩
    have hne : r ≠ b := fun x => by rw [x, hb] at h1; cases h1
    refine ⟨⟨o', (Wk.new hb hB).1 _ _ h1, h1'⟩, h2, ?_⟩
    rw [Heap.set_comm _ _ _ _ _ (Ne.symm hne)]
    exact ih (by rw [Heap.set_ne _ _ _ _ (Ne.symm hne)]; exact hb) hB hs
  | choose q k ih =>
    intro h hb hB hs
    simp only [semH] at hs ⊢
    split
    · rename_i hf; rw [if_pos hf] at hs; exact ih 0 hb hB hs
    · rename_i hf; rw [if_neg hf] at hs; intro n; exact ih _ hb hB (hs n)
  | sys c k ih => intro h hb hB hs; exact hs.elim
  | program k ih => intro h hb hB hs; exact ih P hb hB hs
  | mark m k ih => intro h hb hB hs; exact ih hb hB hs
  | halt e => intro h hb hB hs; exact hs.elim

/-- A block of plain cells. -/
def PlainO (ob : AObj) : Prop := ∃ t vs n, ob = .vec t (plains vs) n
/-- A told block is set aside: the frame has it. -/
theorem Rel.aside {F : Fr} {h : Heap} {w : World} {b : Nat} {ob : AObj} (hb : h b = none) (hB : B b = none) (hp : PlainO ob) (R : Rel B F (h.set b ob) w) :
    ∃ o, F.blocks b = none ∧ Rel B (F.add b o) h w ∧ ∀ (h1 : Heap) (w' : World), Rel B (F.add b o) h1 w' → h1 b = none ∧ Rel B F (h1.set b ob) w' := by
  obtain ⟨own, R⟩ := R
  obtain ⟨t, vs, n, rfl⟩ := hp
  obtain ⟨hob, hle, cs, fr, h1, h2, h3, h4⟩ := R.obj b _ (Heap.set_same _ _ _)
  have hF : F.blocks b = none := by
    cases e : F.blocks b with
    | none => rfl
    | some o => have := (R.fr b o e).2.1; rw [Heap.set_same] at this; cases this
  refine ⟨.cells cs t fr, hF, ⟨own, R.os, R.tape, R.output, R.low, ?_, ?_, ?_, R.owned⟩, ?_⟩
  · intro c o hc
    simp only [Fr.add] at hc
    split at hc
    · rename_i e; cases hc; subst e; exact ⟨h1, hb, hob⟩
    · rename_i e
      have := R.fr c o hc
      rw [Heap.set_ne _ _ _ _ e] at this
      exact this
  · intro c o hc
    have hcb : c ≠ b := fun e => by rw [e, hB] at hc; cases hc
    have := R.ro c o hc
    rw [Heap.set_ne _ _ _ _ hcb] at this
    simp only [Fr.add, if_neg hcb]
    exact this
  · intro c o hc
    have hcb : c ≠ b := fun e => by rw [e, hb] at hc; cases hc
    exact R.obj c o (by rw [Heap.set_ne _ _ _ _ hcb]; exact hc)
  · rintro h1' w' ⟨own', R'⟩
    have hfb := R'.fr b (.cells cs t fr) (by simp [Fr.add])
    refine ⟨hfb.2.1, own', R'.os, R'.tape, R'.output, R'.low, ?_, ?_, ?_, R'.owned⟩
    · intro c o hc
      have hcb : c ≠ b := fun e => by rw [e, hF] at hc; cases hc
      have := R'.fr c o (by simp only [Fr.add, if_neg hcb]; exact hc)
      rw [Heap.set_ne _ _ _ _ hcb]
      exact this
    · intro c o hc
      have hcb : c ≠ b := fun e => by rw [e, hB] at hc; cases hc
      have := R'.ro c o hc
      simp only [Fr.add, if_neg hcb] at this
      rw [Heap.set_ne _ _ _ _ hcb]
      exact this
    · intro c o hc
      by_cases hcb : c = b
      · subst hcb
        rw [Heap.set_same] at hc
        cases hc
        exact ⟨hfb.2.2, hle, cs, fr, hfb.1, h2, h3, fun i v hi f hf => by
          have := h4 i v hi f hf
          simp only [plains, List.getElem?_map] at hf
          cases hx : vs[i]? with
          | none => rw [hx] at hf; cases hf
          | some x => rw [hx] at hf; cases hf; exact this⟩
      · rw [Heap.set_ne _ _ _ _ hcb] at hc
        exact R'.obj c o hc
theorem Ent.frame1 {h h' : Heap} {b : Nat} {ob : AObj} (hb : h b = none) (hB : B b = none) (hp : PlainO ob) (he : Ent B h h') : Ent B (h.set b ob) (h'.set b ob) := by
  refine ⟨fun c e => ?_, fun F w R => ?_⟩
  · have hcb : c ≠ b := fun x => by rw [x, Heap.set_same] at e; cases e
    rw [Heap.set_ne _ _ _ _ hcb] at e ⊢
    exact he.1 c e
  · obtain ⟨o, hF, R1, back⟩ := Rel.aside hb hB hp R
    exact (back h' w (he.2 _ _ R1)).2
theorem Spec.frame1 {f : FuncId} {args : Array Value} {h : Heap} {b : Nat} {ob : AObj} {Post : Value → Heap → Prop} (hb : h b = none) (hB : B b = none) (hp : PlainO ob) (hs : Spec P B f args h Post) :
    Spec P B f args (h.set b ob) (fun v h' => ∃ h1, h1 b = none ∧ h' = h1.set b ob ∧ Post v h1) := by
  intro F w R
  obtain ⟨o, hF, R1, back⟩ := Rel.aside hb hB hp R
  refine (hs (F.add b o) w R1).mono fun ed w' ⟨v, h', e, R2, hpost⟩ => ?_
  obtain ⟨k1, k2⟩ := back h' w' R2
  exact ⟨v, _, e, k2, h', k1, rfl, hpost⟩
theorem RoundSpec.frame1 {l : Nat} {f : FuncId} {tmps : Array Value} {assign body : Code} {h : Heap} {b : Nat} {ob : AObj} {K : Value → Heap → Prop} (hb : h b = none) (hB : B b = none) (hp : PlainO ob) (hs : RoundSpec P B l f tmps assign body h K) :
    RoundSpec P B l f tmps assign body (h.set b ob) (fun v h' => ∃ h1, h1 b = none ∧ h' = h1.set b ob ∧ K v h1) := by
  intro F w c cs R
  obtain ⟨o, hF, R1, back⟩ := Rel.aside hb hB hp R
  obtain ⟨v, w', h', s1, R2, hk⟩ := hs (F.add b o) w c cs R1
  obtain ⟨k1, k2⟩ := back h' w' R2
  exact ⟨v, w', _, s1, k2, h', k1, rfl, hk⟩
theorem After.frame1 {nx : Next} {h : Heap} {b : Nat} {ob : AObj} {K : Value → Heap → Prop} (hb : h b = none) (hB : B b = none) (hp : PlainO ob) (ha : After P B nx h K) : After P B nx (h.set b ob) (fun v h' => ∃ h1, h1 b = none ∧ h' = h1.set b ob ∧ K v h1) := by
  cases nx with
  | value v => exact ⟨h, hb, rfl, ha⟩
  | skip => exact ⟨h, hb, rfl, ha⟩
  | enter f args => exact Spec.frame1 hb hB hp ha
  | round l f tmps assign body => exact RoundSpec.frame1 hb hB hp ha
  | _ => exact ha.elim
/-- A call of a function value, beside a block that it doesn't know of. -/
theorem CallV.frame1 {f : Value} {args : List Value} {h : Heap} {b : Nat} {ob : AObj} {K : Value → Heap → Prop} (hb : h b = none) (hB : B b = none) (hp : PlainO ob) (hc : CallV P B f args h K) : CallV P B f args (h.set b ob) (fun v h' => ∃ h1, h1 b = none ∧ h' = h1.set b ob ∧ K v h1) := by
  refine semH_mono (fun nx h' ⟨h1, k1, k2, ha⟩ => ?_) (semH_frame (ob := ob) hb hB hc)
  subst k2
  exact ha.frame1 k1 hB hp
end

/-- The ways through a region: a quiet operation as early as it may; of others, whichever may come up. -/
inductive Ord where
  | nil
  | q (i : Nat) (t : Ord)
  | x (i : Nat) (t alt : Ord)
  | no

def okT (ops : Array Oper) (z : List Nat) : Ord → Nat → Array Bool → Option (List Nat) → Bool
  | .nil, n, listed, none => n == 0 && (Region.ready .any ops listed).isEmpty
  | .q i t, n + 1, listed, none => (Region.ready .any ops listed).contains i && Region.free .any ops listed i && lastWaits ops z i && needC z listed && okT ops z t n (listed.setIfInBounds i true) none
  | .x i t alt, n + 1, listed, none => match Region.ready .any ops listed with
    | r :: rs => r == i && okT ops z t n (listed.setIfInBounds i true) none && okT ops z alt (n + 1) listed (some rs)
    | [] => false
  | .x i t alt, n + 1, listed, some (r :: rs) => r == i && okT ops z t n (listed.setIfInBounds i true) none && okT ops z alt (n + 1) listed (some rs)
  | .no, _, _, some [] => true
  | _, _, _, _ => false

/-! The same check over numbers whose bits are what is listed: a quick one. -/
def maskOf : List Nat → Nat
  | [] => 0
  | j :: l => maskOf l ||| 2 ^ j
theorem maskOf_bit (l : List Nat) (j : Nat) : (maskOf l).testBit j = decide (j ∈ l) := by
  induction l with
  | nil => simp [maskOf]
  | cons i l ih =>
    rw [maskOf, Nat.testBit_or, ih, Nat.testBit_two_pow]
    by_cases h : i = j
    · subst h; simp
    · simp [h, Ne.symm h]
def needL (o : Oper) : List Nat := (o.after.toList.filter (Region.binds .any)).map (·.on)
def freeB (ops : Array Oper) (i j : Nat) : Bool := j == i || match ops[j]? with
  | some oj => oj.after.any (fun e => Region.binds .any e && e.on == i) || (match ops[i]? with | some oi => oi.apart ops oj | none => false)
  | none => true
def listBeq : List Nat → List Nat → Bool
  | [], [] => true
  | a :: l, b :: m => Nat.beq a b && listBeq l m
  | _, _ => false
theorem listBeq_eq : ∀ {l m : List Nat}, listBeq l m = true → l = m
  | [], [], _ => rfl
  | a :: l, b :: m, h => by
    simp only [listBeq, Bool.and_eq_true] at h
    rw [Nat.eq_of_beq_eq_true h.1, listBeq_eq h.2]
  | [], _ :: _, h => by cases h
  | _ :: _, [], h => by cases h
/-- The tables: what each waits for; for whom each is free; which may come ahead of the late ones; the late ones. -/
structure Tab where
  nt : List Nat
  ft : List Nat
  rt : List Nat
  zm : Nat
def orL (rt : List Nat) : List Nat → Nat
  | [] => 0
  | j :: l => orL rt l ||| rt.getD j 0
/-- A table of what each waits for, at once or by way of others: no more than it may have. -/
def rtOk (rt : List Nat) : List Oper → Nat → Bool
  | [], _ => true
  | o :: l, j => Nat.beq (rt.getD j 0 ||| (maskOf (needL o) ||| orL rt (needL o))) (maskOf (needL o) ||| orL rt (needL o)) && (needL o).all (fun e => Nat.blt e j) && rtOk rt l (j + 1)
def tabOk (l : List Oper) (z : List Nat) (T : Tab) : Bool :=
  listBeq (l.map fun o => maskOf (needL o)) T.nt && listBeq ((List.range l.length).map fun i => maskOf ((List.range l.length).filter (freeB l.toArray i))) T.ft &&
    rtOk T.rt l 0 && Nat.beq (maskOf z) T.zm && z.all (fun z => Nat.blt z l.length)
def readyA : List Nat → Nat → Nat → List Nat
  | [], _, _ => []
  | x :: xs, i, m => if (!m.testBit i && Nat.beq (x &&& m) x) = true then i :: readyA xs (i + 1) m else readyA xs (i + 1) m
def okM (n : Nat) (z : List Nat) (T : Tab) : Ord → Nat → Nat → Option (List Nat) → Bool
  | .nil, c, m, none => Nat.beq c 0 && (readyA T.nt 0 m).isEmpty
  | .q i t, c + 1, m, none => Nat.blt i n && !m.testBit i && Nat.beq (T.nt.getD i 0 &&& m) (T.nt.getD i 0) && Nat.beq (T.ft.getD i 0 ||| m) (2 ^ n - 1) && z.all (fun z => z != i && (T.rt.getD z 0).testBit i) && Nat.beq (T.zm &&& m) 0 && okM n z T t c (m ||| 2 ^ i) none
  | .x i t alt, c + 1, m, none => match readyA T.nt 0 m with
    | r :: rs => Nat.beq r i && okM n z T t c (m ||| 2 ^ i) none && okM n z T alt (c + 1) m (some rs)
    | [] => false
  | .x i t alt, c + 1, m, some (r :: rs) => Nat.beq r i && okM n z T t c (m ||| 2 ^ i) none && okM n z T alt (c + 1) m (some rs)
  | .no, _, _, some [] => true
  | _, _, _, _ => false
structure Rep (n : Nat) (listed : Array Bool) (m : Nat) : Prop where
  sz : listed.size = n
  bit : ∀ i, listed.getD i false = m.testBit i
theorem Rep.bitT {n : Nat} {listed : Array Bool} {m : Nat} (R : Rep n listed m) {i : Nat} (hi : i < n) : listed.getD i true = m.testBit i := by
  rw [← R.bit i]
  have : i < listed.size := by rw [R.sz]; exact hi
  simp [Array.getD, this]
theorem Rep.set {n : Nat} {listed : Array Bool} {m : Nat} (R : Rep n listed m) {i : Nat} (hi : i < n) : Rep n (listed.setIfInBounds i true) (m ||| 2 ^ i) := by
  refine ⟨by rw [Array.size_setIfInBounds]; exact R.sz, fun j => ?_⟩
  have hs : i < listed.size := by rw [R.sz]; exact hi
  rw [Nat.testBit_or, Nat.testBit_two_pow, ← R.bit j, Array.getD_eq_getD_getElem?, Array.getD_eq_getD_getElem?, Array.getElem?_setIfInBounds]
  by_cases h : i = j
  · subst h; simp [hs]
  · simp [h]
theorem readyA_eq (m : Nat) : ∀ (xs : List Nat) (s : Nat), readyA xs s m = (List.range' s xs.length).filter fun i => !m.testBit i && Nat.beq (xs.getD (i - s) 0 &&& m) (xs.getD (i - s) 0)
  | [], s => rfl
  | x :: xs, s => by
    rw [List.length_cons, List.range'_succ, List.filter_cons, readyA, readyA_eq m xs (s + 1)]
    have hc : (List.range' (s + 1) xs.length).filter (fun i => !m.testBit i && Nat.beq (xs.getD (i - (s + 1)) 0 &&& m) (xs.getD (i - (s + 1)) 0)) = (List.range' (s + 1) xs.length).filter fun i => !m.testBit i && Nat.beq ((x :: xs).getD (i - s) 0 &&& m) ((x :: xs).getD (i - s) 0) := by
      refine List.filter_congr fun i hi => ?_
      have := List.mem_range'_1.1 hi
      have e : i - s = (i - (s + 1)) + 1 := by omega
      rw [e]
      simp
    rw [hc, Nat.sub_self]
    rfl
theorem sub_mask {x m : Nat} : Nat.beq (x &&& m) x = true ↔ ∀ j, x.testBit j = true → m.testBit j = true := by
  rw [show (Nat.beq (x &&& m) x = true) = (x &&& m = x) from propext ⟨Nat.eq_of_beq_eq_true, fun e => by rw [e]; exact Nat.beq_refl x⟩]
  constructor
  · intro h j hj
    rw [← h, Nat.testBit_and, Bool.and_eq_true] at hj; exact hj.2
  · intro h
    apply Nat.eq_of_testBit_eq
    intro j
    rw [Nat.testBit_and]
    cases hx : x.testBit j
    · rfl
    · rw [h j hx]; rfl
section
variable {l : List Oper} {z : List Nat} {T : Tab} {listed : Array Bool} {m : Nat}
theorem tab_facts (hT : tabOk l z T = true) : (l.map fun o => maskOf (needL o)) = T.nt ∧ ((List.range l.length).map fun i => maskOf ((List.range l.length).filter (freeB l.toArray i))) = T.ft ∧ rtOk T.rt l 0 = true ∧ maskOf z = T.zm ∧ ∀ x ∈ z, x < l.length := by
  simp only [tabOk, Bool.and_eq_true] at hT
  obtain ⟨⟨⟨⟨a, b⟩, c⟩, d⟩, e⟩ := hT
  refine ⟨listBeq_eq a, listBeq_eq b, c, Nat.eq_of_beq_eq_true d, fun x hx => ?_⟩
  have := List.all_eq_true.1 e x hx
  exact Nat.lt_of_succ_le (Nat.le_of_ble_eq_true this)
theorem rtOk_at {rt : List Nat} : ∀ {l : List Oper} {j i : Nat} {o : Oper}, rtOk rt l j = true → l[i]? = some o → (∀ b, (rt.getD (j + i) 0).testBit b = true → b ∈ needL o ∨ ∃ e ∈ needL o, (rt.getD e 0).testBit b = true) ∧ ∀ e ∈ needL o, e < j + i
  | [], _, _, _, _, hi => by simp at hi
  | p :: l, j, i, o, h, hi => by
    simp only [rtOk, Bool.and_eq_true] at h
    obtain ⟨⟨h1, h2⟩, h3⟩ := h
    cases i with
    | zero =>
      simp at hi
      subst hi
      refine ⟨fun b hb => ?_, fun e he => Nat.lt_of_succ_le (Nat.le_of_ble_eq_true (List.all_eq_true.1 h2 e he))⟩
      have : (maskOf (needL p) ||| orL rt (needL p)).testBit b = true := by
        rw [← Nat.eq_of_beq_eq_true h1, Nat.testBit_or, Bool.or_eq_true]; exact .inl hb
      rw [Nat.testBit_or, Bool.or_eq_true, maskOf_bit, decide_eq_true_eq] at this
      rcases this with h | h
      · exact .inl h
      · right
        have key : ∀ m : List Nat, (orL rt m).testBit b = true → ∃ e ∈ m, (rt.getD e 0).testBit b = true := fun m => by
          induction m with
          | nil => intro h; simp [orL] at h
          | cons x m ih =>
            intro h
            rw [orL, Nat.testBit_or, Bool.or_eq_true] at h
            rcases h with h | h
            · obtain ⟨e, he, hh⟩ := ih h; exact ⟨e, by simp [he], hh⟩
            · exact ⟨x, by simp, h⟩
        exact key _ h
    | succ i =>
      have := rtOk_at (i := i) h3 (by simpa using hi)
      rw [show j + 1 + i = j + (i + 1) by omega] at this
      exact this
theorem mem_needL {o : Oper} {x : Nat} (h : x ∈ needL o) : ∃ e ∈ o.after, Region.binds .any e = true ∧ e.on = x := by
  obtain ⟨e, he, rfl⟩ := List.mem_map.1 h
  obtain ⟨h1, h2⟩ := List.mem_filter.1 he
  exact ⟨e, Array.mem_toList_iff.1 h1, h2, rfl⟩
theorem waits_succ {ops : Array Oper} : ∀ {n z i : Nat}, waits ops n z i = true → waits ops (n + 1) z i = true
  | 0, _, _, h => by cases h
  | n + 1, z, i, h => by
    rw [waits] at h ⊢
    cases ho : ops[z]? with
    | none => rw [ho] at h; cases h
    | some o =>
      rw [ho] at h
      simp only [Bool.or_eq_true, Array.any_eq_true', Bool.and_eq_true] at h ⊢
      rcases h with h | ⟨e, he, hb, hr⟩
      · exact .inl h
      · exact .inr ⟨e, he, hb, waits_succ hr⟩
theorem waits_mono {ops : Array Oper} {n m z i : Nat} (h : n ≤ m) (hw : waits ops n z i = true) : waits ops m z i = true := by
  induction h with
  | refl => exact hw
  | step _ ih => exact waits_succ ih
theorem rt_waits {rt : List Nat} (h : rtOk rt l 0 = true) (x : Nat) : x < l.length → ∀ i, (rt.getD x 0).testBit i = true → waits l.toArray (x + 1) x i = true := by
  induction x using Nat.strongRecOn with
  | _ x ih =>
    intro hx i hi
    have ho := List.getElem?_eq_getElem hx
    obtain ⟨h1, h2⟩ := rtOk_at h ho
    rw [Nat.zero_add] at h1 h2
    rw [waits, List.getElem?_toArray, ho]
    simp only [Bool.or_eq_true, Array.any_eq_true', Bool.and_eq_true, beq_iff_eq]
    rcases h1 i hi with h | ⟨e, he, hr⟩
    · obtain ⟨e, h1, h3, h4⟩ := mem_needL h
      exact .inl ⟨e, h1, h3, h4⟩
    · have hlt := h2 e he
      obtain ⟨e', h1, h3, rfl⟩ := mem_needL he
      exact .inr ⟨e', h1, h3, waits_mono (by omega) (ih _ hlt (by omega) i hr)⟩
theorem need_at (hT : tabOk l z T = true) {i : Nat} {o : Oper} (ho : l[i]? = some o) : T.nt.getD i 0 = maskOf (needL o) := by
  rw [← (tab_facts hT).1, List.getD_eq_getElem?_getD, List.getElem?_map, ho]; rfl
theorem ready_bit (hT : tabOk l z T = true) (R : Rep l.length listed m) {i : Nat} {o : Oper} (ho : l[i]? = some o) :
    (o.after.all fun e => !Region.binds .any e || listed.getD e.on false) = Nat.beq (T.nt.getD i 0 &&& m) (T.nt.getD i 0) := by
  rw [need_at hT ho, Bool.eq_iff_iff, sub_mask, Array.all_eq_true_iff_forall_mem]
  constructor
  · intro h j hj
    rw [maskOf_bit, decide_eq_true_eq] at hj
    obtain ⟨e, he, rfl⟩ := List.mem_map.1 hj
    obtain ⟨h1, h2⟩ := List.mem_filter.1 he
    have := h e (Array.mem_toList_iff.1 h1)
    rw [h2, R.bit] at this
    simpa using this
  · intro h e he
    cases hb : Region.binds .any e
    · rfl
    · rw [R.bit, h e.on (by rw [maskOf_bit, decide_eq_true_eq]; exact List.mem_map.2 ⟨e, List.mem_filter.2 ⟨Array.mem_toList_iff.2 he, hb⟩, rfl⟩)]; rfl
theorem ready_eq (hT : tabOk l z T = true) (R : Rep l.length listed m) : Region.ready .any l.toArray listed = readyA T.nt 0 m := by
  have hl : T.nt.length = l.length := by rw [← (tab_facts hT).1, List.length_map]
  rw [readyA_eq, hl, ← List.range_eq_range']
  unfold Region.ready
  rw [List.size_toArray]
  refine List.filter_congr fun i hi => ?_
  have hi' : i < l.length := List.mem_range.1 hi
  rw [R.bitT hi', Nat.sub_zero]
  congr 1
  rw [List.getElem?_toArray, List.getElem?_eq_getElem hi', Option.map_some, Option.getD_some]
  exact ready_bit hT R (List.getElem?_eq_getElem hi')
theorem okM_okT (hT : tabOk l z T = true) : ∀ (t : Ord) (c : Nat) (m : Nat) (listed : Array Bool) (rs : Option (List Nat)), Rep l.length listed m → (∀ r, rs = some r → ∀ x ∈ r, x < l.length) → okM l.length z T t c m rs = true → okT l.toArray z t c listed rs = true := by
  intro t
  induction t with
  | nil =>
    intro c m listed rs R hr h
    cases rs with
    | some r => simp [okM] at h
    | none =>
      simp only [okM, Bool.and_eq_true] at h
      simp only [okT, Bool.and_eq_true, beq_iff_eq]
      exact ⟨Nat.eq_of_beq_eq_true h.1, by rw [ready_eq hT R]; exact h.2⟩
  | q i t ih =>
    intro c m listed rs R hr h
    cases rs with
    | some r => simp [okM] at h
    | none =>
      cases c with
      | zero => simp [okM] at h
      | succ c =>
        simp only [okM, Bool.and_eq_true] at h
        obtain ⟨⟨⟨⟨⟨⟨h1, h2⟩, h3⟩, h4⟩, h5⟩, h6⟩, h7⟩ := h
        have hi : i < l.length := Nat.lt_of_succ_le (Nat.le_of_ble_eq_true h1)
        simp only [okT, Bool.and_eq_true]
        obtain ⟨f1, f2, f3, f4, f5⟩ := tab_facts hT
        refine ⟨⟨⟨⟨?_, ?_⟩, ?_⟩, ?_⟩, ih c _ _ none (R.set hi) (fun r e => by cases e) h7⟩
        · rw [List.contains_iff_mem, mem_ready]
          refine ⟨by rw [R.bitT hi]; simpa using h2, l[i], by rw [List.getElem?_toArray, List.getElem?_eq_getElem hi], fun e he hb => ?_⟩
          have := ready_bit hT R (List.getElem?_eq_getElem hi)
          rw [h3, Array.all_eq_true_iff_forall_mem] at this
          have := this e he
          rw [hb] at this; simpa using this
        · unfold Region.free
          rw [List.getElem?_toArray, List.getElem?_eq_getElem hi]
          simp only [List.all_eq_true, List.size_toArray, List.mem_range]
          intro j hj
          have hb : (T.ft.getD i 0 ||| m).testBit j = true := by
            rw [Nat.eq_of_beq_eq_true h4, Nat.testBit_two_pow_sub_one]; simpa using hj
          rw [Nat.testBit_or, ← f2, List.getD_eq_getElem?_getD, List.getElem?_map, List.getElem?_range hi] at hb
          simp only [Option.map_some, Option.getD_some, maskOf_bit, Bool.or_eq_true, decide_eq_true_eq, List.mem_filter, List.mem_range] at hb
          rw [R.bitT hj]
          rcases hb with ⟨_, hb⟩ | hb
          · unfold freeB at hb
            rw [List.getElem?_toArray, List.getElem?_toArray, List.getElem?_eq_getElem hi] at hb
            rw [Bool.or_eq_true] at hb
            rcases hb with hb | hb
            · simp [hb]
            · rw [List.getElem?_toArray]
              rw [Bool.or_eq_true]; exact .inr hb
          · simp [hb]
        · unfold lastWaits
          rw [List.all_eq_true] at h5 ⊢
          intro x hx
          have := h5 x hx
          rw [Bool.and_eq_true] at this ⊢
          exact ⟨this.1, waits_mono (by rw [List.size_toArray]; exact f5 x hx) (rt_waits f3 x (f5 x hx) i this.2)⟩
        · unfold needC
          rw [List.all_eq_true]
          intro x hx
          rw [R.bitT (f5 x hx)]
          have h0 : (T.zm &&& m).testBit x = false := by rw [Nat.eq_of_beq_eq_true h6]; simp
          rw [Nat.testBit_and, ← f4, maskOf_bit, decide_eq_true hx] at h0
          simpa using h0
  | x i t alt iht ihalt =>
    intro c m listed rs R hr h
    have hlt : ∀ r ∈ Region.ready .any l.toArray listed, r < l.length := fun r hm => by
      obtain ⟨_, o, ho, _⟩ := mem_ready.1 hm
      have := (Array.getElem?_eq_some_iff.1 ho).1
      simpa using this
    cases c with
    | zero => cases rs <;> simp [okM] at h
    | succ c =>
      cases rs with
      | none =>
        simp only [okM] at h
        simp only [okT]
        have e := ready_eq hT R
        rw [← e] at h
        cases hq : Region.ready .any l.toArray listed with
        | nil => rw [hq] at h; cases h
        | cons r rs =>
          rw [hq] at h
          simp only [Bool.and_eq_true] at h ⊢
          obtain ⟨⟨h1, h2⟩, h3⟩ := h
          have hri := Nat.eq_of_beq_eq_true h1
          subst hri
          exact ⟨⟨by simp, iht c _ _ none (R.set (hlt r (by rw [hq]; simp))) (fun _ e => by cases e) h2⟩, ihalt (c + 1) m listed (some rs) R (fun r' e x hx => hlt x (by rw [hq]; cases e; simp [hx])) h3⟩
      | some rr =>
        cases rr with
        | nil => simp [okM] at h
        | cons r rs =>
          simp only [okM, Bool.and_eq_true] at h
          simp only [okT, Bool.and_eq_true]
          obtain ⟨⟨h1, h2⟩, h3⟩ := h
          have hri := Nat.eq_of_beq_eq_true h1
          subst hri
          exact ⟨⟨by simp, iht c _ _ none (R.set (hr _ rfl r (by simp))) (fun _ e => by cases e) h2⟩, ihalt (c + 1) m listed (some rs) R (fun r' e x hx => hr _ rfl x (by cases e; simp [hx])) h3⟩
  | no =>
    intro c m listed rs R hr h
    cases rs with
    | none => cases c <;> simp [okM] at h
    | some r =>
      cases r with
      | nil => cases c <;> rfl
      | cons => cases c <;> simp [okM] at h
theorem rep0 (l : List Oper) : Rep l.length (Array.replicate l.length false) 0 := by
  refine ⟨by simp, fun i => ?_⟩
  simp [Array.getD_eq_getD_getElem?, Array.getElem?_replicate]
  split <;> rfl
end

section
variable {P : Program} {B : RO} {N : Nat} {ops : Array Oper} {k : List Item} {Φ : Lv → Env → Heap → Prop} {C : Heap → Prop} {z : List Nat}
def RunT (P : Program) (B : RO) (N : Nat) (ops : Array Oper) (k : List Item) (Φ : Lv → Env → Heap → Prop) (C : Heap → Prop) (z : List Nat) : Ord → Env → Heap → Prop
  | .nil, e, h => Run P B N k e h Φ
  | .q i t, e, h => ∃ o v, ops[i]? = some o ∧ YieldsC P B N ops C o v e ∧ RunT P B N ops k Φ C z t (updO e o.dst v) h
  | .x i t alt, e, h => OpH P B N ops i (fun e' h' => (z.contains i = false → C h') ∧ RunT P B N ops k Φ C z t e' h') e h ∧ RunT P B N ops k Φ C z alt e h
  | .no, _, _ => True

theorem RunT.joinJ {t t0 : Ord} {e0 : Env} {h0 : Heap} (J : Env → Heap → Prop) (hj : ∀ e h, J e h → RunT P B N ops k Φ C z t e h) (hx : (∀ e h, J e h → RunT P B N ops k Φ C z t e h) → RunT P B N ops k Φ C z t0 e0 h0) : RunT P B N ops k Φ C z t0 e0 h0 := hx hj
theorem RunT.env {t : Ord} {l : List (Nat × Value)} {e : Env} {h : Heap} (ha : Agree l e) (hr : RunT P B N ops k Φ C z t (updL l e) h) : RunT P B N ops k Φ C z t e h := by rwa [updL_eq ha] at hr
theorem RunT.any (hs : Region.noSelect ops = true) : ∀ (t : Ord),
    (∀ (n : Nat) (listed : Array Bool) (e : Env) (h : Heap), ClosedL ops listed → okT ops z t n listed none = true → (needC z listed = true → C h) → RunT P B N ops k Φ C z t e h → RunAny P B N ops k Φ C z n listed e h) ∧
    (∀ (n : Nat) (listed : Array Bool) (rs : List Nat) (e : Env) (h : Heap), ClosedL ops listed → okT ops z t n listed (some rs) = true → (∀ j ∈ rs, j ∈ Region.ready .any ops listed) → RunT P B N ops k Φ C z t e h → ∀ j ∈ rs, OpH P B N ops j (RunAny P B N ops k Φ C z (n - 1) (listed.setIfInBounds j true)) e h) := by
  have lateIn : ∀ {listed : Array Bool} {j : Nat}, j ∈ Region.ready .any ops listed → needC z (listed.setIfInBounds j true) = true → z.contains j = false := fun {listed j} hj' hn => by
    have hlt : j < listed.size := by
      have hun := (mem_ready.1 hj').1
      rcases Nat.lt_or_ge j listed.size with h' | h'
      · exact h'
      · simp [Array.getD, Nat.not_lt.2 h'] at hun
    cases hc : z.contains j with
    | false => rfl
    | true =>
      have hm : j ∈ z := by simpa using hc
      have := List.all_eq_true.1 hn j hm
      simp [Array.getD, hlt] at this
  intro t
  induction t with
  | nil =>
    refine ⟨fun n listed e h hcl hok hC hr => ?_, fun n listed rs e h hcl hok => by simp [okT] at hok⟩
    simp only [okT, Bool.and_eq_true, beq_iff_eq] at hok
    obtain ⟨rfl, h2⟩ := hok
    exact ⟨hC, by simpa using h2, hr⟩
  | no =>
    refine ⟨fun n listed e h hcl hok => by simp [okT] at hok, fun n listed rs e h hcl hok _ _ j hj => ?_⟩
    cases rs with
    | nil => cases hj
    | cons r rs => simp [okT] at hok
  | q i t ih =>
    refine ⟨fun n listed e h hcl hok hC hr => ?_, fun n listed rs e h hcl hok => by simp [okT] at hok⟩
    cases n with
    | zero => simp [okT] at hok
    | succ n =>
      simp only [okT, Bool.and_eq_true] at hok
      obtain ⟨⟨⟨⟨h1, h2⟩, h3⟩, h4⟩, h5⟩ := hok
      obtain ⟨o, v, ho, hy, hr⟩ := hr
      exact RunAny.first ho (Region.noSelect_spec hs) h3 n listed e h hcl (Region.free_spec ho h2) (by simpa using h1) hy (hC h4) h4 (ih.1 _ _ _ _ (hcl.set (by simpa using h1)) h5 (fun _ => hC h4) hr)
  | x i t alt iht iha =>
    have one : ∀ {n : Nat} {listed : Array Bool} {e : Env} {h : Heap}, ClosedL ops listed → i ∈ Region.ready .any ops listed → okT ops z t n (listed.setIfInBounds i true) none = true →
        OpH P B N ops i (fun e' h' => (z.contains i = false → C h') ∧ RunT P B N ops k Φ C z t e' h') e h → OpH P B N ops i (RunAny P B N ops k Φ C z n (listed.setIfInBounds i true)) e h := fun hcl hi hok ho =>
      ho.mono fun e' h' hh => iht.1 _ _ _ _ (hcl.set hi) hok (fun hn => hh.1 (lateIn hi hn)) hh.2
    refine ⟨fun n listed e h hcl hok hC hr => ?_, fun n listed rs e h hcl hok hrs hr j hj => ?_⟩
    · cases n with
      | zero => simp [okT] at hok
      | succ n =>
        simp only [okT] at hok
        cases hrd : Region.ready .any ops listed with
        | nil => rw [hrd] at hok; cases hok
        | cons r rs =>
          rw [hrd] at hok
          simp only [Bool.and_eq_true, beq_iff_eq] at hok
          obtain ⟨⟨rfl, h2⟩, h3⟩ := hok
          have hmem : r ∈ Region.ready .any ops listed := by rw [hrd]; simp
          refine ⟨hC, fun h0 => (by rw [hrd] at h0; cases h0), fun j hj => ?_⟩
          rw [hrd] at hj
          rcases List.mem_cons.1 hj with rfl | hj
          · exact one hcl hmem h2 hr.1
          · exact iha.2 (n + 1) listed rs e h hcl h3 (fun j' hj' => by rw [hrd]; exact List.mem_cons_of_mem _ hj') hr.2 j hj
    · cases n with
      | zero => cases rs <;> simp [okT] at hok
      | succ n =>
        cases rs with
        | nil => simp [okT] at hok
        | cons r rs =>
          simp only [okT, Bool.and_eq_true, beq_iff_eq] at hok
          obtain ⟨⟨rfl, h2⟩, h3⟩ := hok
          rcases List.mem_cons.1 hj with rfl | hj
          · exact one hcl (hrs j (by simp)) h2 hr.1
          · exact iha.2 (n + 1) listed rs e h hcl h3 (fun j' hj' => hrs j' (List.mem_cons_of_mem _ hj')) hr.2 j hj

theorem Run.drawT {id : Nat} {l : List Oper} {e : Env} {h : Heap} (C : Heap → Prop) (z : List Nat) (ord : Ord) (hm : P.follows .mixedOrders = true) (hs : (Region.noSelect l.toArray && okT l.toArray z ord l.length (Array.replicate l.length false) none) = true)
    (hC : C h) (hr : RunT P B N l.toArray k Φ C z ord e h) : Run P B N (.code (.region id l.toArray true) :: k) e h Φ := by
  simp only [Bool.and_eq_true] at hs
  refine Run.region_draw fun t => ?_
  simp only [Region.schedule, hm, Bool.true_or, if_true, Region.linearise]
  have := (RunT.any (C := C) (z := z) hs.1 ord).1 l.length (Array.replicate l.length false) e h (fun m om hm hl => by
    have hlt := (Array.getElem?_eq_some_iff.1 hm).1
    simp only [List.size_toArray] at hlt
    simp [Array.getD, hlt] at hl) hs.2 (fun _ => hC) hr
  simpa using RunAny.sound l.length t _ e h this
theorem Run.drawM {id : Nat} {l : List Oper} {e : Env} {h : Heap} (C : Heap → Prop) (z : List Nat) (T : Tab) (ord : Ord) (hm : P.follows .mixedOrders = true) (hs : (Region.noSelect l.toArray && tabOk l z T && okM l.length z T ord l.length 0 none) = true)
    (hC : C h) (hr : RunT P B N l.toArray k Φ C z ord e h) : Run P B N (.code (.region id l.toArray true) :: k) e h Φ := by
  simp only [Bool.and_eq_true] at hs
  refine Run.drawT C z ord hm ?_ hC hr
  rw [Bool.and_eq_true]
  exact ⟨hs.1.1, okM_okT hs.1.2 ord _ _ _ none (rep0 l) (fun r e => by cases e) hs.2⟩
theorem RunT.quiet {i : Nat} {t : Ord} {o : Oper} {v : Value} {e : Env} {h : Heap} (ho : ops[i]? = some o) (hd : (dstOK N o && noDefer o) = true) (hw : Region.wanted o (yieldE ops e) = true) (hq : ∀ h', C h' → QuietAt P B o e h' v) (hr : RunT P B N ops k Φ C z t (updO e o.dst v) h) : RunT P B N ops k Φ C z (.q i t) e h := by
  simp only [Bool.and_eq_true] at hd
  exact ⟨o, v, ho, ⟨hd.1, hd.2, .inl ⟨hw, hq⟩⟩, hr⟩
theorem RunT.skip {i : Nat} {t : Ord} {o : Oper} {e : Env} {h : Heap} (ho : ops[i]? = some o) (hd : (dstOK N o && noDefer o) = true) (hw : Region.wanted o (yieldE ops e) = false) (hr : RunT P B N ops k Φ C z t (updO e o.dst undef) h) : RunT P B N ops k Φ C z (.q i t) e h := by
  simp only [Bool.and_eq_true] at hd
  exact ⟨o, undef, ho, ⟨hd.1, hd.2, .inr ⟨hw, rfl⟩⟩, hr⟩
end
section
variable {P : Program} {B : RO} {h : Heap} {ρ : Operand → Value} {d : Option Nat} {ty : TypeId} {pos : String} {aft : Array Edge} {g : Option (Nat × Bool)} {K : Next → Heap → Prop}
theorem sem_capSl {x : Operand} {t : TypeId} (a : Option Addr) (n c : Nat) (hx : ρ x = .slice a n c) (ht : slT P t = true) (k : K (.value (.int .i64 c)) h) : semH P B (execOp ρ ⟨d, .call ⟨.builtin .cap, #[x], #[t]⟩, ty, pos, aft, g⟩) h K := by
  unfold slT at ht
  split at ht
  · rename_i e hu
    rw [exec_builtin #[ρ x] (by simp)]
    show semH P B (do pure (.value (← Builtin.cap_ #[t] ty #[ρ x]))) h K
    rw [semH_value, hx]
    simp only [Builtin.cap_, List.getElem?_toArray, List.getElem?_cons_zero]
    rw [semH_und hu]
    exact k
  · cases ht
/-- An array's cells, as a slice. -/
theorem sem_sliceArrI {t : TypeId} {x : Operand} {lo hi : Option Operand} {n e sz : Nat} {b : Bool} (A : Addr) (l hh : Int) (hx : ρ x = .pointer (some A)) (ht : arrB P t = some (n, e, sz, b)) (hl : lowOf ρ lo l) (hhi : highOf ρ hi hh n) (h0 : 0 ≤ l) (h1 : l ≤ hh) (h2 : hh ≤ n)
    (k : K (.value (.slice (some (if n = l.toNat then A else A.add (l.toNat * sz))) (hh.toNat - l.toNat) (n - l.toNat))) h) : semH P B (execOp ρ ⟨d, .slice t x lo hi none, ty, pos, aft, g⟩) h K := by
  unfold arrB at ht
  split at ht
  · rename_i n' e' hu
    split at ht
    · rename_i s' b' hs hb
      simp only [Option.some.injEq, Prod.mk.injEq] at ht
      obtain ⟨rfl, rfl, rfl, rfl⟩ := ht
      refine semH_value.2 ?_
      simp only [hx, Instr.sliceAt]
      rw [semH_und hu]
      have hbd : Instr.sliceBounds false n' n' (lo.map ρ) (hi.map ρ) none = pure (l.toNat, hh.toNat, n') := by
        unfold Instr.sliceBounds
        have e1 : (match hi.map ρ, (none : Option Value) with
            | some v, some _ => Instr.sliceBound v n' .slice3B
            | some v, none => Instr.sliceBound v n' .sliceAlen
            | none, none => pure n'
            | none, some _ => stuck "Slice: max without high") = (pure hh.toNat : Sem Nat) := by
          cases hi with
          | none =>
            have : hh = n' := hhi
            subst this
            simp
          | some y =>
            obtain ⟨kk, hy⟩ := hhi
            simp only [Option.map_some, hy, Instr.sliceBound, asIntOf, pure_bind]
            rw [if_pos ⟨by omega, by omega⟩]
        have e2 : (match lo.map ρ with
            | some v => Instr.sliceBound v hh.toNat .sliceB
            | none => pure 0) = (pure l.toNat : Sem Nat) := by
          cases lo with
          | none =>
            have : l = 0 := hl
            subst this
            rfl
          | some y =>
            obtain ⟨kk, hy⟩ := hl
            simp only [Option.map_some, hy, Instr.sliceBound, asIntOf, pure_bind]
            rw [if_pos ⟨by omega, by omega⟩]
        cases lo with
        | none =>
          have : l = 0 := hl
          subst this
          cases hi with
          | none =>
            have : hh = n' := hhi
            subst this
            simp
          | some y =>
            obtain ⟨kk, hy⟩ := hhi
            simp only [Option.map_some, Option.map_none, hy, Instr.sliceBound, asIntOf, pure_bind]
            simp
            rw [if_pos ⟨by omega, by omega⟩]
            rfl
        | some x =>
          obtain ⟨kx, hx'⟩ := hl
          cases hi with
          | none =>
            have : hh = n' := hhi
            subst this
            simp only [Option.map_some, Option.map_none, hx', Instr.sliceBound, asIntOf, pure_bind]
            simp
            rw [if_pos ⟨by omega, by omega⟩]
            rfl
          | some y =>
            obtain ⟨kk, hy⟩ := hhi
            simp only [Option.map_some, hx', hy, Instr.sliceBound, asIntOf, pure_bind]
            simp
            rw [if_pos ⟨by omega, by omega⟩]
            simp only [pure_bind]
            rw [if_pos ⟨by omega, by omega⟩]
            rfl
      simp only [Instr.sureAddr, pure_bind, Option.map_none, hbd]
      rw [semH_sz hs]
      rw [semH_pure]
      exact k
    · cases ht
  · cases ht
end
end Go.Proofs.Ythloobpjkeodgaa.H
