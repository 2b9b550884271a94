/- What the law's proof stands on, part 2. No condition. -/
import Derived.Test.YtgldgabefiialaaGreatProg
import Derived.KernelRfl
import Derived.Test.YtgldgabefiialaaGreatG1
namespace Go.Proofs.YtgldgabefiialaaGreat.H
open Go
set_option linter.unusedVariables false
section
variable {P : Program} {B : RO}
end
inductive Ord where
  | nil
  | q (i : Nat) (t : Ord)
  | x (i : Nat) (t alt : Ord)
  | no
def okT (ops : Array Oper) (z : List Nat) : Ord → Nat → Array Bool → Option (List Nat) → Bool
  | .nil, n, listed, none => n == 0 && (Region.ready .any ops listed).isEmpty
  | .q i t, n + 1, listed, none => (Region.ready .any ops listed).contains i && Region.free .any ops listed i && lastWaits ops z i && needC z listed && okT ops z t n (listed.setIfInBounds i true) none
  | .x i t alt, n + 1, listed, none => match Region.ready .any ops listed with
    | r :: rs => r == i && okT ops z t n (listed.setIfInBounds i true) none && okT ops z alt (n + 1) listed (some rs)
    | [] => false
  | .x i t alt, n + 1, listed, some (r :: rs) => r == i && okT ops z t n (listed.setIfInBounds i true) none && okT ops z alt (n + 1) listed (some rs)
  | .no, _, _, some [] => true
  | _, _, _, _ => false
def maskOf : List Nat → Nat
  | [] => 0
  | j :: l => maskOf l ||| 2 ^ j
theorem maskOf_bit (l : List Nat) (j : Nat) : (maskOf l).testBit j = decide (j ∈ l) := by
  induction l with
  | nil => simp [maskOf]
  | cons i l ih =>
    rw [maskOf, Nat.testBit_or, ih, Nat.testBit_two_pow]
    by_cases h : i = j
    · subst h; simp
    · simp [h, Ne.symm h]
def needL (o : Oper) : List Nat := (o.after.toList.filter (Region.binds .any)).map (·.on)
def freeB (ops : Array Oper) (i j : Nat) : Bool := j == i || match ops[j]? with
  | some oj => oj.after.any (fun e => Region.binds .any e && e.on == i) || (match ops[i]? with | some oi => oi.apart ops oj | none => false)
  | none => true
def listBeq : List Nat → List Nat → Bool
  | [], [] => true
  | a :: l, b :: m => Nat.beq a b && listBeq l m
  | _, _ => false
theorem listBeq_eq : ∀ {l m : List Nat}, listBeq l m = true → l = m
  | [], [], _ => rfl
  | a :: l, b :: m, h => by
    simp only [listBeq, Bool.and_eq_true] at h
    rw [Nat.eq_of_beq_eq_true h.1, listBeq_eq h.2]
  | [], _ :: _, h => by cases h
  | _ :: _, [], h => by cases h
structure Tab where
  nt : List Nat
  ft : List Nat
  rt : List Nat
  zm : Nat
def orL (rt : List Nat) : List Nat → Nat
  | [] => 0
  | j :: l => orL rt l ||| rt.getD j 0
def rtOk (rt : List Nat) : List Oper → Nat → Bool
  | [], _ => true
  | o :: l, j => Nat.beq (rt.getD j 0 ||| (maskOf (needL o) ||| orL rt (needL o))) (maskOf (needL o) ||| orL rt (needL o)) && (needL o).all (fun e => Nat.blt e j) && rtOk rt l (j + 1)
def tabOk (l : List Oper) (z : List Nat) (T : Tab) : Bool :=
  listBeq (l.map fun o => maskOf (needL o)) T.nt && listBeq ((List.range l.length).map fun i => maskOf ((List.range l.length).filter (freeB l.toArray i))) T.ft &&
    rtOk T.rt l 0 && Nat.beq (maskOf z) T.zm && z.all (fun z => Nat.blt z l.length)
def readyA : List Nat → Nat → Nat → List Nat
  | [], _, _ => []
  | x :: xs, i, m => if (!m.testBit i && Nat.beq (x &&& m) x) = true then i :: readyA xs (i + 1) m else readyA xs (i + 1) m
def okM (n : Nat) (z : List Nat) (T : Tab) : Ord → Nat → Nat → Option (List Nat) → Bool
  | .nil, c, m, none => Nat.beq c 0 && (readyA T.nt 0 m).isEmpty
  | .q i t, c + 1, m, none => Nat.blt i n && !m.testBit i && Nat.beq (T.nt.getD i 0 &&& m) (T.nt.getD i 0) && Nat.beq (T.ft.getD i 0 ||| m) (2 ^ n - 1) && z.all (fun z => z != i && (T.rt.getD z 0).testBit i) && Nat.beq (T.zm &&& m) 0 && okM n z T t c (m ||| 2 ^ i) none
  | .x i t alt, c + 1, m, none => match readyA T.nt 0 m with
    | r :: rs => Nat.beq r i && okM n z T t c (m ||| 2 ^ i) none && okM n z T alt (c + 1) m (some rs)
    | [] => false
  | .x i t alt, c + 1, m, some (r :: rs) => Nat.beq r i && okM n z T t c (m ||| 2 ^ i) none && okM n z T alt (c + 1) m (some rs)
  | .no, _, _, some [] => true
  | _, _, _, _ => false
structure Rep (n : Nat) (listed : Array Bool) (m : Nat) : Prop where
  sz : listed.size = n
  bit : ∀ i, listed.getD i false = m.testBit i
theorem Rep.bitT {n : Nat} {listed : Array Bool} {m : Nat} (R : Rep n listed m) {i : Nat} (hi : i < n) : listed.getD i true = m.testBit i := by
  rw [← R.bit i]
  have : i < listed.size := by rw [R.sz]; exact hi
  simp [Array.getD, this]
theorem Rep.set {n : Nat} {listed : Array Bool} {m : Nat} (R : Rep n listed m) {i : Nat} (hi : i < n) : Rep n (listed.setIfInBounds i true) (m ||| 2 ^ i) := by
  refine ⟨by rw [Array.size_setIfInBounds]; exact R.sz, fun j => ?_⟩
  have hs : i < listed.size := by rw [R.sz]; exact hi
  rw [Nat.testBit_or, Nat.testBit_two_pow, ← R.bit j, Array.getD_eq_getD_getElem?, Array.getD_eq_getD_getElem?, Array.getElem?_setIfInBounds]
  by_cases h : i = j
  · subst h; simp [hs]
  · simp [h]
theorem readyA_eq (m : Nat) : ∀ (xs : List Nat) (s : Nat), readyA xs s m = (List.range' s xs.length).filter fun i => !m.testBit i && Nat.beq (xs.getD (i - s) 0 &&& m) (xs.getD (i - s) 0)
  | [], s => rfl
  | x :: xs, s => by
    rw [List.length_cons, List.range'_succ, List.filter_cons, readyA, readyA_eq m xs (s + 1)]
    have hc : (List.range' (s + 1) xs.length).filter (fun i => !m.testBit i && Nat.beq (xs.getD (i - (s + 1)) 0 &&& m) (xs.getD (i - (s + 1)) 0)) = (List.range' (s + 1) xs.length).filter fun i => !m.testBit i && Nat.beq ((x :: xs).getD (i - s) 0 &&& m) ((x :: xs).getD (i - s) 0) := by
      refine List.filter_congr fun i hi => ?_
      have := List.mem_range'_1.1 hi
      have e : i - s = (i - (s + 1)) + 1 := by omega
      rw [e]
      simp
    rw [hc, Nat.sub_self]
    rfl
theorem sub_mask {x m : Nat} : Nat.beq (x &&& m) x = true ↔ ∀ j, x.testBit j = true → m.testBit j = true := by
  rw [show (Nat.beq (x &&& m) x = true) = (x &&& m = x) from propext ⟨Nat.eq_of_beq_eq_true, fun e => by rw [e]; exact Nat.beq_refl x⟩]
  constructor
  · intro h j hj
    rw [← h, Nat.testBit_and, Bool.and_eq_true] at hj; exact hj.2
  · intro h
    apply Nat.eq_of_testBit_eq
    intro j
    rw [Nat.testBit_and]
    cases hx : x.testBit j
    · rfl
    · rw [h j hx]; rfl
section
variable {l : List Oper} {z : List Nat} {T : Tab} {listed : Array Bool} {m : Nat}
theorem tab_facts (hT : tabOk l z T = true) : (l.map fun o => maskOf (needL o)) = T.nt ∧ ((List.range l.length).map fun i => maskOf ((List.range l.length).filter (freeB l.toArray i))) = T.ft ∧ rtOk T.rt l 0 = true ∧ maskOf z = T.zm ∧ ∀ x ∈ z, x < l.length := by
  simp only [tabOk, Bool.and_eq_true] at hT
  obtain ⟨⟨⟨⟨a, b⟩, c⟩, d⟩, e⟩ := hT
  refine ⟨listBeq_eq a, listBeq_eq b, c, Nat.eq_of_beq_eq_true d, fun x hx => ?_⟩
  have := List.all_eq_true.1 e x hx
  exact Nat.lt_of_succ_le (Nat.le_of_ble_eq_true this)
theorem rtOk_at {rt : List Nat} : ∀ {l : List Oper} {j i : Nat} {o : Oper}, rtOk rt l j = true → l[i]? = some o → (∀ b, (rt.getD (j + i) 0).testBit b = true → b ∈ needL o ∨ ∃ e ∈ needL o, (rt.getD e 0).testBit b = true) ∧ ∀ e ∈ needL o, e < j + i
  | [], _, _, _, _, hi => by simp at hi
  | p :: l, j, i, o, h, hi => by
    simp only [rtOk, Bool.and_eq_true] at h
    obtain ⟨⟨h1, h2⟩, h3⟩ := h
    cases i with
    | zero =>
      simp at hi
      subst hi
      refine ⟨fun b hb => ?_, fun e he => Nat.lt_of_succ_le (Nat.le_of_ble_eq_true (List.all_eq_true.1 h2 e he))⟩
      have : (maskOf (needL p) ||| orL rt (needL p)).testBit b = true := by
        rw [← Nat.eq_of_beq_eq_true h1, Nat.testBit_or, Bool.or_eq_true]; exact .inl hb
      rw [Nat.testBit_or, Bool.or_eq_true, maskOf_bit, decide_eq_true_eq] at this
      rcases this with h | h
      · exact .inl h
      · right
        have key : ∀ m : List Nat, (orL rt m).testBit b = true → ∃ e ∈ m, (rt.getD e 0).testBit b = true := fun m => by
          induction m with
          | nil => intro h; simp [orL] at h
          | cons x m ih =>
            intro h
            rw [orL, Nat.testBit_or, Bool.or_eq_true] at h
            rcases h with h | h
            · obtain ⟨e, he, hh⟩ := ih h; exact ⟨e, by simp [he], hh⟩
            · exact ⟨x, by simp, h⟩
        exact key _ h
    | succ i =>
      have := rtOk_at (i := i) h3 (by simpa using hi)
      rw [show j + 1 + i = j + (i + 1) by omega] at this
      exact this
theorem mem_needL {o : Oper} {x : Nat} (h : x ∈ needL o) : ∃ e ∈ o.after, Region.binds .any e = true ∧ e.on = x := by
  obtain ⟨e, he, rfl⟩ := List.mem_map.1 h
  obtain ⟨h1, h2⟩ := List.mem_filter.1 he
  exact ⟨e, Array.mem_toList_iff.1 h1, h2, rfl⟩
theorem waits_succ {ops : Array Oper} : ∀ {n z i : Nat}, waits ops n z i = true → waits ops (n + 1) z i = true
  | 0, _, _, h => by cases h
  | n + 1, z, i, h => by
    rw [waits] at h ⊢
    cases ho : ops[z]? with
    | none => rw [ho] at h; cases h
    | some o =>
      rw [ho] at h
      simp only [Bool.or_eq_true, Array.any_eq_true', Bool.and_eq_true] at h ⊢
      rcases h with h | ⟨e, he, hb, hr⟩
      · exact .inl h
      · exact .inr ⟨e, he, hb, waits_succ hr⟩
theorem waits_mono {ops : Array Oper} {n m z i : Nat} (h : n ≤ m) (hw : waits ops n z i = true) : waits ops m z i = true := by
  induction h with
  | refl => exact hw
  | step _ ih => exact waits_succ ih
theorem rt_waits {rt : List Nat} (h : rtOk rt l 0 = true) (x : Nat) : x < l.length → ∀ i, (rt.getD x 0).testBit i = true → waits l.toArray (x + 1) x i = true := by
  induction x using Nat.strongRecOn with
  | _ x ih =>
    intro hx i hi
    have ho := List.getElem?_eq_getElem hx
    obtain ⟨h1, h2⟩ := rtOk_at h ho
    rw [Nat.zero_add] at h1 h2
    rw [waits, List.getElem?_toArray, ho]
    simp only [Bool.or_eq_true, Array.any_eq_true', Bool.and_eq_true, beq_iff_eq]
    rcases h1 i hi with h | ⟨e, he, hr⟩
    · obtain ⟨e, h1, h3, h4⟩ := mem_needL h
      exact .inl ⟨e, h1, h3, h4⟩
    · have hlt := h2 e he
      obtain ⟨e', h1, h3, rfl⟩ := mem_needL he
      exact .inr ⟨e', h1, h3, waits_mono (by omega) (ih _ hlt (by omega) i hr)⟩
theorem need_at (hT : tabOk l z T = true) {i : Nat} {o : Oper} (ho : l[i]? = some o) : T.nt.getD i 0 = maskOf (needL o) := by
  rw [← (tab_facts hT).1, List.getD_eq_getElem?_getD, List.getElem?_map, ho]; rfl
theorem ready_bit (hT : tabOk l z T = true) (R : Rep l.length listed m) {i : Nat} {o : Oper} (ho : l[i]? = some o) :
    (o.after.all fun e => !Region.binds .any e || listed.getD e.on false) = Nat.beq (T.nt.getD i 0 &&& m) (T.nt.getD i 0) := by
  rw [need_at hT ho, Bool.eq_iff_iff, sub_mask, Array.all_eq_true_iff_forall_mem]
  constructor
  · intro h j hj
    rw [maskOf_bit, decide_eq_true_eq] at hj
    obtain ⟨e, he, rfl⟩ := List.mem_map.1 hj
    obtain ⟨h1, h2⟩ := List.mem_filter.1 he
    have := h e (Array.mem_toList_iff.1 h1)
    rw [h2, R.bit] at this
    simpa using this
  · intro h e he
    cases hb : Region.binds .any e
    · rfl
    · rw [R.bit, h e.on (by rw [maskOf_bit, decide_eq_true_eq]; exact List.mem_map.2 ⟨e, List.mem_filter.2 ⟨Array.mem_toList_iff.2 he, hb⟩, rfl⟩)]; rfl
theorem ready_eq (hT : tabOk l z T = true) (R : Rep l.length listed m) : Region.ready .any l.toArray listed = readyA T.nt 0 m := by
  have hl : T.nt.length = l.length := by rw [← (tab_facts hT).1, List.length_map]
  rw [readyA_eq, hl, ← List.range_eq_range']
  unfold Region.ready
  rw [List.size_toArray]
  refine List.filter_congr fun i hi => ?_
  have hi' : i < l.length := List.mem_range.1 hi
  rw [R.bitT hi', Nat.sub_zero]
  congr 1
  rw [List.getElem?_toArray, List.getElem?_eq_getElem hi', Option.map_some, Option.getD_some]
  exact ready_bit hT R (List.getElem?_eq_getElem hi')
theorem okM_okT (hT : tabOk l z T = true) : ∀ (t : Ord) (c : Nat) (m : Nat) (listed : Array Bool) (rs : Option (List Nat)), Rep l.length listed m → (∀ r, rs = some r → ∀ x ∈ r, x < l.length) → okM l.length z T t c m rs = true → okT l.toArray z t c listed rs = true := by
  intro t
  induction t with
  | nil =>
    intro c m listed rs R hr h
    cases rs with
    | some r => simp [okM] at h
    | none =>
      simp only [okM, Bool.and_eq_true] at h
      simp only [okT, Bool.and_eq_true, beq_iff_eq]
      exact ⟨Nat.eq_of_beq_eq_true h.1, by rw [ready_eq hT R]; exact h.2⟩
  | q i t ih =>
    intro c m listed rs R hr h
    cases rs with
    | some r => simp [okM] at h
    | none =>
      cases c with
      | zero => simp [okM] at h
      | succ c =>
        simp only [okM, Bool.and_eq_true] at h
        obtain ⟨⟨⟨⟨⟨⟨h1, h2⟩, h3⟩, h4⟩, h5⟩, h6⟩, h7⟩ := h
        have hi : i < l.length := Nat.lt_of_succ_le (Nat.le_of_ble_eq_true h1)
        simp only [okT, Bool.and_eq_true]
        obtain ⟨f1, f2, f3, f4, f5⟩ := tab_facts hT
        refine ⟨⟨⟨⟨?_, ?_⟩, ?_⟩, ?_⟩, ih c _ _ none (R.set hi) (fun r e => by cases e) h7⟩
        · rw [List.contains_iff_mem, mem_ready]
          refine ⟨by rw [R.bitT hi]; simpa using h2, l[i], by rw [List.getElem?_toArray, List.getElem?_eq_getElem hi], fun e he hb => ?_⟩
          have := ready_bit hT R (List.getElem?_eq_getElem hi)
          rw [h3, Array.all_eq_true_iff_forall_mem] at this
          have := this e he
          rw [hb] at this; simpa using this
        · unfold Region.free
          rw [List.getElem?_toArray, List.getElem?_eq_getElem hi]
          simp only [List.all_eq_true, List.size_toArray, List.mem_range]
          intro j hj
          have hb : (T.ft.getD i 0 ||| m).testBit j = true := by
            rw [Nat.eq_of_beq_eq_true h4, Nat.testBit_two_pow_sub_one]; simpa using hj
          rw [Nat.testBit_or, ← f2, List.getD_eq_getElem?_getD, List.getElem?_map, List.getElem?_range hi] at hb
          simp only [Option.map_some, Option.getD_some, maskOf_bit, Bool.or_eq_true, decide_eq_true_eq, List.mem_filter, List.mem_range] at hb
          rw [R.bitT hj]
          rcases hb with ⟨_, hb⟩ | hb
          · unfold freeB at hb
            rw [List.getElem?_toArray, List.getElem?_toArray, List.getElem?_eq_getElem hi] at hb
            rw [Bool.or_eq_true] at hb
            rcases hb with hb | hb
            · simp [hb]
            · rw [List.getElem?_toArray]
              rw [Bool.or_eq_true]; exact .inr hb
          · simp [hb]
        · unfold lastWaits
          rw [List.all_eq_true] at h5 ⊢
          intro x hx
          have := h5 x hx
          rw [Bool.and_eq_true] at this ⊢
          exact ⟨this.1, waits_mono (by rw [List.size_toArray]; exact f5 x hx) (rt_waits f3 x (f5 x hx) i this.2)⟩
        · unfold needC
          rw [List.all_eq_true]
          intro x hx
          rw [R.bitT (f5 x hx)]
          have h0 : (T.zm &&& m).testBit x = false := by rw [Nat.eq_of_beq_eq_true h6]; simp
          rw [Nat.testBit_and, ← f4, maskOf_bit, decide_eq_true hx] at h0
          simpa using h0
  | x i t alt iht ihalt =>
    intro c m listed rs R hr h
    have hlt : ∀ r ∈ Region.ready .any l.toArray listed, r < l.length := fun r hm => by
      obtain ⟨_, o, ho, _⟩ := mem_ready.1 hm
      have := (Array.getElem?_eq_some_iff.1 ho).1
      simpa using this
    cases c with
    | zero => cases rs <;> simp [okM] at h
    | succ c =>
      cases rs with
      | none =>
        simp only [okM] at h
        simp only [okT]
        have e := ready_eq hT R
        rw [← e] at h
        cases hq : Region.ready .any l.toArray listed with
        | nil => rw [hq] at h; cases h
        | cons r rs =>
          rw [hq] at h
          simp only [Bool.and_eq_true] at h ⊢
          obtain ⟨⟨h1, h2⟩, h3⟩ := h
          have hri := Nat.eq_of_beq_eq_true h1
          subst hri
          exact ⟨⟨by simp, iht c _ _ none (R.set (hlt r (by rw [hq]; simp))) (fun _ e => by cases e) h2⟩, ihalt (c + 1) m listed (some rs) R (fun r' e x hx => hlt x (by rw [hq]; cases e; simp [hx])) h3⟩
      | some rr =>
        cases rr with
        | nil => simp [okM] at h
        | cons r rs =>
          simp only [okM, Bool.and_eq_true] at h
          simp only [okT, Bool.and_eq_true]
          obtain ⟨⟨h1, h2⟩, h3⟩ := h
          have hri := Nat.eq_of_beq_eq_true h1
          subst hri
          exact ⟨⟨by simp, iht c _ _ none (R.set (hr _ rfl r (by simp))) (fun _ e => by cases e) h2⟩, ihalt (c + 1) m listed (some rs) R (fun r' e x hx => hr _ rfl x (by cases e; simp [hx])) h3⟩
  | no =>
    intro c m listed rs R hr h
    cases rs with
    | none => cases c <;> simp [okM] at h
    | some r =>
      cases r with
      | nil => cases c <;> rfl
      | cons => cases c <;> simp [okM] at h
theorem rep0 (l : List Oper) : Rep l.length (Array.replicate l.length false) 0 := by
  refine ⟨by simp, fun i => ?_⟩
  simp [Array.getD_eq_getD_getElem?, Array.getElem?_replicate]
  split <;> rfl
end
section
variable {P : Program} {B : RO} {N : Nat} {ops : Array Oper} {k : List Item} {Φ : Lv → Env → Heap → Prop} {C : Heap → Prop} {z : List Nat}
def RunT (P : Program) (B : RO) (N : Nat) (ops : Array Oper) (k : List Item) (Φ : Lv → Env → Heap → Prop) (C : Heap → Prop) (z : List Nat) : Ord → Env → Heap → Prop
  | .nil, e, h => Run P B N k e h Φ
  | .q i t, e, h => ∃ o v, ops[i]? = some o ∧ YieldsC P B N ops C o v e ∧ RunT P B N ops k Φ C z t (updO e o.dst v) h
  | .x i t alt, e, h => OpH P B N ops i (fun e' h' => (z.contains i = false → C h') ∧ RunT P B N ops k Φ C z t e' h') e h ∧ RunT P B N ops k Φ C z alt e h
  | .no, _, _ => True
theorem RunT.joinJ {t t0 : Ord} {e0 : Env} {h0 : Heap} (J : Env → Heap → Prop) (hj : ∀ e h, J e h → RunT P B N ops k Φ C z t e h) (hx : (∀ e h, J e h → RunT P B N ops k Φ C z t e h) → RunT P B N ops k Φ C z t0 e0 h0) : RunT P B N ops k Φ C z t0 e0 h0 := hx hj
theorem RunT.env {t : Ord} {l : List (Nat × Value)} {e : Env} {h : Heap} (ha : Agree l e) (hr : RunT P B N ops k Φ C z t (updL l e) h) : RunT P B N ops k Φ C z t e h := by rwa [updL_eq ha] at hr
theorem RunT.any (hs : Region.noSelect ops = true) : ∀ (t : Ord),
    (∀ (n : Nat) (listed : Array Bool) (e : Env) (h : Heap), ClosedL ops listed → okT ops z t n listed none = true → (needC z listed = true → C h) → RunT P B N ops k Φ C z t e h → RunAny P B N ops k Φ C z n listed e h) ∧
    (∀ (n : Nat) (listed : Array Bool) (rs : List Nat) (e : Env) (h : Heap), ClosedL ops listed → okT ops z t n listed (some rs) = true → (∀ j ∈ rs, j ∈ Region.ready .any ops listed) → RunT P B N ops k Φ C z t e h → ∀ j ∈ rs, OpH P B N ops j (RunAny P B N ops k Φ C z (n - 1) (listed.setIfInBounds j true)) e h) := by
  have lateIn : ∀ {listed : Array Bool} {j : Nat}, j ∈ Region.ready .any ops listed → needC z (listed.setIfInBounds j true) = true → z.contains j = false := fun {listed j} hj' hn => by
    have hlt : j < listed.size := by
      have hun := (mem_ready.1 hj').1
      rcases Nat.lt_or_ge j listed.size with h' | h'
      · exact h'
      · simp [Array.getD, Nat.not_lt.2 h'] at hun
    cases hc : z.contains j with
    | false => rfl
    | true =>
      have hm : j ∈ z := by simpa using hc
      have := List.all_eq_true.1 hn j hm
      simp [Array.getD, hlt] at this
  intro t
  induction t with
  | nil =>
    refine ⟨fun n listed e h hcl hok hC hr => ?_, fun n listed rs e h hcl hok => by simp [okT] at hok⟩
    simp only [okT, Bool.and_eq_true, beq_iff_eq] at hok
    obtain ⟨rfl, h2⟩ := hok
    exact ⟨hC, by simpa using h2, hr⟩
  | no =>
    refine ⟨fun n listed e h hcl hok => by simp [okT] at hok, fun n listed rs e h hcl hok _ _ j hj => ?_⟩
    cases rs with
    | nil => cases hj
    | cons r rs => simp [okT] at hok
  | q i t ih =>
    refine ⟨fun n listed e h hcl hok hC hr => ?_, fun n listed rs e h hcl hok => by simp [okT] at hok⟩
    cases n with
    | zero => simp [okT] at hok
    | succ n =>
      simp only [okT, Bool.and_eq_true] at hok
      obtain ⟨⟨⟨⟨h1, h2⟩, h3⟩, h4⟩, h5⟩ := hok
      obtain ⟨o, v, ho, hy, hr⟩ := hr
      exact RunAny.first ho (Region.noSelect_spec hs) h3 n listed e h hcl (Region.free_spec ho h2) (by simpa using h1) hy (hC h4) h4 (ih.1 _ _ _ _ (hcl.set (by simpa using h1)) h5 (fun _ => hC h4) hr)
  | x i t alt iht iha =>
    have one : ∀ {n : Nat} {listed : Array Bool} {e : Env} {h : Heap}, ClosedL ops listed → i ∈ Region.ready .any ops listed → okT ops z t n (listed.setIfInBounds i true) none = true →
        OpH P B N ops i (fun e' h' => (z.contains i = false → C h') ∧ RunT P B N ops k Φ C z t e' h') e h → OpH P B N ops i (RunAny P B N ops k Φ C z n (listed.setIfInBounds i true)) e h := fun hcl hi hok ho =>
      ho.mono fun e' h' hh => iht.1 _ _ _ _ (hcl.set hi) hok (fun hn => hh.1 (lateIn hi hn)) hh.2
    refine ⟨fun n listed e h hcl hok hC hr => ?_, fun n listed rs e h hcl hok hrs hr j hj => ?_⟩
    · cases n with
      | zero => simp [okT] at hok
      | succ n =>
        simp only [okT] at hok
        cases hrd : Region.ready .any ops listed with
        | nil => rw [hrd] at hok; cases hok
        | cons r rs =>
          rw [hrd] at hok
          simp only [Bool.and_eq_true, beq_iff_eq] at hok
          obtain ⟨⟨rfl, h2⟩, h3⟩ := hok
          have hmem : r ∈ Region.ready .any ops listed := by rw [hrd]; simp
          refine ⟨hC, fun h0 => (by rw [hrd] at h0; cases h0), fun j hj => ?_⟩
          rw [hrd] at hj
          rcases List.mem_cons.1 hj with rfl | hj
          · exact one hcl hmem h2 hr.1
          · exact iha.2 (n + 1) listed rs e h hcl h3 (fun j' hj' => by rw [hrd]; exact List.mem_cons_of_mem _ hj') hr.2 j hj
    · cases n with
      | zero => cases rs <;> simp [okT] at hok
      | succ n =>
        cases rs with
        | nil => simp [okT] at hok
        | cons r rs =>
          simp only [okT, Bool.and_eq_true, beq_iff_eq] at hok
          obtain ⟨⟨rfl, h2⟩, h3⟩ := hok
          rcases List.mem_cons.1 hj with rfl | hj
          · exact one hcl (hrs j (by simp)) h2 hr.1
          · exact iha.2 (n + 1) listed rs e h hcl h3 (fun j' hj' => hrs j' (List.mem_cons_of_mem _ hj')) hr.2 j hj
theorem Run.drawT {id : Nat} {l : List Oper} {e : Env} {h : Heap} (C : Heap → Prop) (z : List Nat) (ord : Ord) (hm : P.follows .mixedOrders = true) (hs : (Region.noSelect l.toArray && okT l.toArray z ord l.length (Array.replicate l.length false) none) = true)
    (hC : C h) (hr : RunT P B N l.toArray k Φ C z ord e h) : Run P B N (.code (.region id l.toArray true) :: k) e h Φ := by
  simp only [Bool.and_eq_true] at hs
  refine Run.region_draw fun t => ?_
  simp only [Region.schedule, hm, Bool.true_or, if_true, Region.linearise]
  have := (RunT.any (C := C) (z := z) hs.1 ord).1 l.length (Array.replicate l.length false) e h (fun m om hm hl => by
    have hlt := (Array.getElem?_eq_some_iff.1 hm).1
    simp only [List.size_toArray] at hlt
    simp [Array.getD, hlt] at hl) hs.2 (fun _ => hC) hr
  simpa using RunAny.sound l.length t _ e h this
theorem Run.drawM {id : Nat} {l : List Oper} {e : Env} {h : Heap} (C : Heap → Prop) (z : List Nat) (T : Tab) (ord : Ord) (hm : P.follows .mixedOrders = true) (hs : (Region.noSelect l.toArray && tabOk l z T && okM l.length z T ord l.length 0 none) = true)
    (hC : C h) (hr : RunT P B N l.toArray k Φ C z ord e h) : Run P B N (.code (.region id l.toArray true) :: k) e h Φ := by
  simp only [Bool.and_eq_true] at hs
  refine Run.drawT C z ord hm ?_ hC hr
  rw [Bool.and_eq_true]
  exact ⟨hs.1.1, okM_okT hs.1.2 ord _ _ _ none (rep0 l) (fun r e => by cases e) hs.2⟩
theorem RunT.quiet {i : Nat} {t : Ord} {o : Oper} {v : Value} {e : Env} {h : Heap} (ho : ops[i]? = some o) (hd : (dstOK N o && noDefer o) = true) (hw : Region.wanted o (yieldE ops e) = true) (hq : ∀ h', C h' → QuietAt P B o e h' v) (hr : RunT P B N ops k Φ C z t (updO e o.dst v) h) : RunT P B N ops k Φ C z (.q i t) e h := by
  simp only [Bool.and_eq_true] at hd
  exact ⟨o, v, ho, ⟨hd.1, hd.2, .inl ⟨hw, hq⟩⟩, hr⟩
theorem RunT.skip {i : Nat} {t : Ord} {o : Oper} {e : Env} {h : Heap} (ho : ops[i]? = some o) (hd : (dstOK N o && noDefer o) = true) (hw : Region.wanted o (yieldE ops e) = false) (hr : RunT P B N ops k Φ C z t (updO e o.dst undef) h) : RunT P B N ops k Φ C z (.q i t) e h := by
  simp only [Bool.and_eq_true] at hd
  exact ⟨o, undef, ho, ⟨hd.1, hd.2, .inr ⟨hw, rfl⟩⟩, hr⟩
end
section
variable {P : Program} {B : RO} {h : Heap} {ρ : Operand → Value} {d : Option Nat} {ty : TypeId} {pos : String} {aft : Array Edge} {g : Option (Nat × Bool)} {K : Next → Heap → Prop}
theorem sem_capSl {x : Operand} {t : TypeId} (a : Option Addr) (n c : Nat) (hx : ρ x = .slice a n c) (ht : slT P t = true) (k : K (.value (.int .i64 c)) h) : semH P B (execOp ρ ⟨d, .call ⟨.builtin .cap, #[x], #[t]⟩, ty, pos, aft, g⟩) h K := by
  unfold slT at ht
  split at ht
  · rename_i e hu
    rw [exec_builtin #[ρ x] (by simp)]
    show semH P B (do pure (.value (← Builtin.cap_ #[t] ty #[ρ x]))) h K
    rw [semH_value, hx]
    simp only [Builtin.cap_, List.getElem?_toArray, List.getElem?_cons_zero]
    rw [semH_und hu]
    exact k
  · cases ht
end
end Go.Proofs.YtgldgabefiialaaGreat.H
namespace Go.Proofs.YtgldgabefiialaaGreat.H
open Go
set_option linter.unusedVariables false
abbrev LE := List (Nat × Value)
def lk : LE → Nat → Option Value
  | [], _ => none
  | (t, v) :: l, s => bif Nat.beq s t then some v else lk l s
theorem lk_updL {e : Env} {s : Nat} {v : Value} : ∀ {L : LE}, lk L s = some v → updL L e s = v := by
  intro L
  induction L with
  | nil => intro h; cases h
  | cons p L ih =>
    obtain ⟨t, u⟩ := p
    intro h
    simp only [lk] at h
    simp only [updL, upd]
    cases hb : Nat.beq s t with
    | true => rw [hb] at h; simpa using h
    | false => rw [hb] at h; simpa using ih h
def lkO (L : LE) : Operand → Option Value
  | .tmp t => lk L t
  | .const v => some v
  | .global g => some (.pointer (some ⟨g, 0, none⟩))
  | .func f => some (.func (.func f) #[] #[])
theorem lkO_eval {e : Env} {L : LE} {x : Operand} {v : Value} (h : lkO L x = some v) : evalE (updL L e) x = v := by
  cases x with
  | tmp t => exact lk_updL h
  | const u => exact Option.some.inj h
  | global g => exact Option.some.inj h
  | func f => exact Option.some.inj h
def putO (L : LE) (d : Option Nat) (v : Value) : LE := match d with
  | some d => (d, v) :: L
  | none => L
theorem putO_eq {e : Env} {L : LE} {d : Option Nat} {v : Value} : updL (putO L d v) e = updO (updL L e) d v := by cases d <;> rfl
def nthO {α : Type} : List α → Nat → Option α
  | [], _ => none
  | a :: _, 0 => some a
  | _ :: l, i + 1 => nthO l i
theorem nthO_eq {α : Type} : ∀ (l : List α) (i : Nat), nthO l i = l[i]? := by
  intro l
  induction l with
  | nil => intro i; simp [nthO]
  | cons a l ih => intro i; cases i <;> simp [nthO, ih]
theorem nthO_arr {α : Type} {a : Array α} {i : Nat} : nthO a.toList i = a[i]? := by rw [nthO_eq]; simp
def ikN : IntKind → Nat
  | .i8 => 0 | .i16 => 1 | .i32 => 2 | .i64 => 3 | .u8 => 4 | .u16 => 5 | .u32 => 6 | .u64 => 7
theorem ikN_inj {a b : IntKind} (h : Nat.beq (ikN a) (ikN b) = true) : a = b := by
  cases a <;> cases b <;> first | rfl | (simp [ikN] at h)
abbrev FT := List (Nat × Nat × Nat)
def ftAt : FT → Nat → Nat → Option Nat
  | [], _, _ => none
  | (s, f, o) :: l, s', f' => bif Nat.beq s' s && Nat.beq f' f then some o else ftAt l s' f'
def FTok (P : Program) (ft : FT) : Prop := ∀ p ∈ ft, fldB P p.1 p.2.1 = some p.2.2
theorem ftAt_ok {P : Program} : ∀ {ft : FT} {s f o : Nat}, FTok P ft → ftAt ft s f = some o → fldB P s f = some o := by
  intro ft
  induction ft with
  | nil => intro s f o _ h; cases h
  | cons p ft ih =>
    obtain ⟨s', f', o'⟩ := p
    intro s f o hp h
    simp only [ftAt] at h
    cases hb : (Nat.beq s s' && Nat.beq f f') with
    | true =>
      rw [hb] at h
      simp only [Bool.and_eq_true] at hb
      have h1 := Nat.eq_of_beq_eq_true hb.1
      have h2 := Nat.eq_of_beq_eq_true hb.2
      subst h1 h2
      have := hp (s, f, o') (by simp)
      simpa [this] using h
    | false => rw [hb] at h; exact ih (fun q hq => hp q (by simp [hq])) h
def ftB (P : Program) : FT → Bool
  | [] => true
  | (s, f, o) :: l => match fldB P s f with
    | some o' => Nat.beq o' o && ftB P l
    | none => false
theorem ftB_ok {P : Program} : ∀ {ft : FT}, ftB P ft = true → FTok P ft := by
  intro ft
  induction ft with
  | nil => intro _ p hp; cases hp
  | cons q ft ih =>
    obtain ⟨s, f, o⟩ := q
    intro h p hp
    simp only [ftB] at h
    split at h
    · rename_i o' ho
      simp only [Bool.and_eq_true] at h
      rcases List.mem_cons.1 hp with rfl | hp
      · rw [ho, Nat.eq_of_beq_eq_true h.1]
      · exact ih h.2 p hp
    · cases h
def mapO (L : LE) : List Operand → Option (List Value)
  | [] => some []
  | x :: l => match lkO L x, mapO L l with
    | some v, some vs => some (v :: vs)
    | _, _ => none
theorem mapO_eval {e : Env} {L : LE} : ∀ {l : List Operand} {vs : List Value}, mapO L l = some vs → l.map (evalE (updL L e)) = vs := by
  intro l
  induction l with
  | nil => intro vs h; simp [mapO] at h; subst h; rfl
  | cons x l ih =>
    intro vs h
    simp only [mapO] at h
    split at h
    · rename_i v ws h1 h2
      simp only [Option.some.injEq] at h
      subst h
      simp [lkO_eval h1, ih h2]
    · cases h
def pureV (ft : FT) (L : LE) : Op → Option Value
  | .move x => lkO L x
  | .assign x => lkO L x
  | .pick c x y => match lkO L c with
    | some (.bool true) => lkO L x
    | some (.bool false) => lkO L y
    | _ => none
  | .extract x i => match lkO L x with
    | some (.tuple vs) => nthO vs.toList i
    | _ => none
  | .unOp .not _ x => match lkO L x with
    | some (.bool b) => some (.bool (!b))
    | _ => none
  | .binOp op _ x y _ => match lkO L x, lkO L y with
    | some (.int k a), some (.int k' b) => bif Nat.beq (ikN k) (ikN k') then binI op k a b else none
    | _, _ => none
  | .fieldAddr s x f => match lkO L x with
    | some (.pointer (some A)) => match ftAt ft s f with
      | some off => some (.pointer (some (A.add off)))
      | none => none
    | _ => none
  | .nilCheck x => match lkO L x with
    | some (.pointer (some A)) => some (.pointer (some A))
    | some (.func (.func g) a b) => some (.func (.func g) a b)
    | _ => none
  | .makeFunc (.func g) a b => match mapO L a.toList, mapO L b.toList with
    | some vs, some ws => some (.func (.func g) vs.toArray ws.toArray)
    | _, _ => none
  | _ => none
theorem pureV_sem {P : Program} {B : RO} {ft : FT} (hft : FTok P ft) {L : LE} {e : Env} {o : Oper} {v : Value} {h : Heap} {K : Next → Heap → Prop} (hp : pureV ft L o.op = some v) (k : K (.value v) h) : semH P B (execOp (evalE (updL L e)) o) h K := by
  obtain ⟨d, op, ty, pos, aft, g⟩ := o
  simp only at hp
  unfold pureV at hp
  split at hp
  · exact sem_move v (lkO_eval hp) k
  · exact sem_assign v (lkO_eval hp) k
  · split at hp
    · rename_i hc; exact sem_pick true v (lkO_eval hc) ((if_pos rfl).trans (lkO_eval hp)) k
    · rename_i hc; exact sem_pick false v (lkO_eval hc) ((if_neg Bool.false_ne_true).trans (lkO_eval hp)) k
    · cases hp
  · split at hp
    · rename_i vs hx
      rw [nthO_arr] at hp
      exact sem_extract vs v (lkO_eval hx) hp k
    · cases hp
  · split at hp
    · rename_i b hx; cases hp; exact sem_not b (lkO_eval hx) k
    · cases hp
  · split at hp
    · rename_i k1 a k2 b hx hy
      cases hb : Nat.beq (ikN k1) (ikN k2) with
      | true =>
        rw [hb] at hp
        have := ikN_inj hb
        subst this
        exact sem_binI k1 a b v (lkO_eval hx) (lkO_eval hy) (by simpa using hp) k
      | false => rw [hb] at hp; cases hp
    · cases hp
  · split at hp
    · rename_i A hx
      split at hp
      · rename_i off ho
        cases hp
        exact sem_fieldAddr A off (lkO_eval hx) (ftAt_ok hft ho) k
      · cases hp
    · cases hp
  · split at hp
    · rename_i A hx; cases hp; exact sem_nilCheck A (lkO_eval hx) k
    · rename_i g' a b hx; cases hp; exact sem_nilCheckF g' a b (lkO_eval hx) k
    · cases hp
  · split at hp
    · rename_i g' a b vs ws ha hb
      cases hp
      have h1 := mapO_eval (e := e) ha
      have h2 := mapO_eval (e := e) hb
      exact sem_makeFunc _ _ (Array.toList_inj.1 (by simp [h1])) (Array.toList_inj.1 (by simp [h2])) k
    · cases hp
  · cases hp
def okO (N : Nat) (o : Oper) : Bool := dstOK N o && noDefer o
def wantL (ops : List Oper) (L : LE) (o : Oper) : Option Bool := match o.guard with
  | none => some true
  | some (j, w) => match nthO ops j with
    | none => none
    | some oj => match oj.dst with
      | none => none
      | some d => match lk L d with
        | some (.bool true) => some w
        | some (.bool false) => some (bif w then false else true)
        | some (.tuple _) => some false
        | _ => none
theorem wantL_eq {ops : Array Oper} {L : LE} {e : Env} {o : Oper} {b : Bool} (h : wantL ops.toList L o = some b) : Region.wanted o (yieldE ops (updL L e)) = b := by
  unfold wantL at h
  unfold Region.wanted
  split at h
  · rename_i hg; rw [hg]; simpa using h
  · rename_i j w hg
    rw [hg]
    simp only
    split at h
    · cases h
    · rename_i oj hj
      rw [nthO_arr] at hj
      split at h
      · cases h
      · rename_i d hd
        have hb : (ops[j]?).bind (·.dst) = some d := by rw [hj]; exact hd
        unfold yieldE
        rw [hb]
        simp only
        split at h
        · rename_i hl; rw [lk_updL hl]; cases w <;> simp_all
        · rename_i hl; rw [lk_updL hl]; cases w <;> simp_all
        · rename_i hl; rw [lk_updL hl]; cases w <;> simp_all
        · cases h
def quiet1 (ft : FT) (N : Nat) (ops : List Oper) (i : Nat) (L : LE) : Option LE := match nthO ops i with
  | none => none
  | some o => match okO N o, wantL ops L o with
    | true, some true => match pureV ft L o.op with
      | some v => some (putO L o.dst v)
      | none => none
    | true, some false => some (putO L o.dst undef)
    | _, _ => none
def st1 (ft : FT) (N : Nat) (L : LE) : List Item → Option (List Item × LE)
  | .code .skip :: k => some (k, L)
  | .code (.label _) :: k => some (k, L)
  | .inBlock _ :: k => some (k, L)
  | .inScope _ :: k => some (k, L)
  | .code (.scope c) :: k => some (.code c :: .inScope c :: k, L)
  | .code (.seq x y) :: k => some (.code x :: .code y :: k, L)
  | .code (.block id c) :: k => some (.code c :: .inBlock id :: k, L)
  | .code (.exit id) :: k => match exitTo id k with
    | some k' => some (k', L)
    | none => none
  | .code (.cond c x y) :: k => match lkO L c with
    | some (.bool true) => some (.code x :: k, L)
    | some (.bool false) => some (.code y :: k, L)
    | _ => none
  | .code (.region _ ops false) :: k => some (.inRegion ops (List.range ops.size) :: k, L)
  | .inRegion _ [] :: k => some (k, L)
  | .inRegion ops (i :: r) :: k => match quiet1 ft N ops.toList i L with
    | some L' => some (.inRegion ops r :: k, L')
    | none => none
  | _ => none
def aut (ft : FT) (N : Nat) : Nat → List Item → LE → Option (List Item × LE)
  | 0, t, L => some (t, L)
  | n + 1, t, L => match st1 ft N L t with
    | some (t', L') => aut ft N n t' L'
    | none => none
def autT (ft : FT) (N : Nat) (ops : List Oper) : Nat → Ord → LE → Option (Ord × LE)
  | 0, t, L => some (t, L)
  | n + 1, .q i t, L => match quiet1 ft N ops i L with
    | some L' => autT ft N ops n t L'
    | none => none
  | _ + 1, _, _ => none
section
variable {P : Program} {B : RO} {N : Nat} {k : List Item} {e : Env} {h : Heap} {Φ : Lv → Env → Heap → Prop} {ft : FT}
theorem st1_run (hft : FTok P ft) {t t' : List Item} {L L' : LE} (hs : st1 ft N L t = some (t', L')) (hr : Run P B N t' (updL L' e) h Φ) : Run P B N t (updL L e) h Φ := by
  unfold st1 at hs
  split at hs <;> try (cases hs; done)
  · cases hs; exact hr.skip
  · cases hs; exact hr.label
  · cases hs; exact hr.inBlock
  · cases hs; exact hr.inScope
  · cases hs; exact hr.scope
  · cases hs; exact hr.seq
  · cases hs; exact hr.block
  · split at hs
    · rename_i k' hk; cases hs; exact hr.exit hk
    · cases hs
  · split at hs
    · rename_i hc; cases hs; exact Run.condT (lkO_eval hc) hr
    · rename_i hc; cases hs; exact Run.condF (lkO_eval hc) hr
    · cases hs
  · cases hs; exact hr.region
  · cases hs; exact hr.region_end
  · rename_i ops i r k0
    split at hs
    · rename_i L1 hq
      cases hs
      unfold quiet1 at hq
      split at hq
      · cases hq
      · rename_i o ho
        rw [nthO_arr] at ho
        split at hq
        · rename_i hok hw
          have hok' : (dstOK N o && noDefer o) = true := hok
          split at hq
          · rename_i v hv
            cases hq
            refine Run.go ho hok' (wantL_eq hw) (pureV_sem hft hv ?_)
            show Run P B N _ (updO (updL L e) o.dst v) h Φ
            rw [← putO_eq]; exact hr
          · cases hq
        · rename_i hok hw
          cases hq
          have hok' : (dstOK N o && noDefer o) = true := hok
          refine Run.no ho hok' (wantL_eq hw) ?_
          rw [← putO_eq]; exact hr
        · cases hq
    · cases hs
theorem aut_run (hft : FTok P ft) : ∀ (n : Nat) {t t' : List Item} {L L' : LE}, aut ft N n t L = some (t', L') → Run P B N t' (updL L' e) h Φ → Run P B N t (updL L e) h Φ := by
  intro n
  induction n with
  | zero => intro t t' L L' ha hr; simp only [aut, Option.some.injEq, Prod.mk.injEq] at ha; obtain ⟨rfl, rfl⟩ := ha; exact hr
  | succ n ih =>
    intro t t' L L' ha hr
    simp only [aut] at ha
    split at ha
    · rename_i t1 L1 h1; exact st1_run hft h1 (ih ha hr)
    · cases ha
theorem autT_run (hft : FTok P ft) {ops : Array Oper} {C : Heap → Prop} {z : List Nat} : ∀ (n : Nat) {t t' : Ord} {L L' : LE}, autT ft N ops.toList n t L = some (t', L') → RunT P B N ops k Φ C z t' (updL L' e) h → RunT P B N ops k Φ C z t (updL L e) h := by
  intro n
  induction n with
  | zero => intro t t' L L' ha hr; simp only [autT, Option.some.injEq, Prod.mk.injEq] at ha; obtain ⟨rfl, rfl⟩ := ha; exact hr
  | succ n ih =>
    intro t t' L L' ha hr
    unfold autT at ha
    split at ha
    · rename_i heq; cases heq
    · rename_i i t heq
      cases heq
      split at ha
      · rename_i L1 hq
        unfold quiet1 at hq
        split at hq
        · cases hq
        · rename_i o ho
          rw [nthO_arr] at ho
          split at hq
          · rename_i hok hw
            have hok' : (dstOK N o && noDefer o) = true := hok
            split at hq
            · rename_i v hv
              cases hq
              refine RunT.quiet (v := v) ho hok' (wantL_eq hw) (fun h' hC => pureV_sem hft hv ⟨rfl, rfl⟩) ?_
              rw [← putO_eq]; exact ih ha hr
            · cases hq
          · rename_i hok hw
            cases hq
            have hok' : (dstOK N o && noDefer o) = true := hok
            refine RunT.skip ho hok' (wantL_eq hw) ?_
            rw [← putO_eq]; exact ih ha hr
          · cases hq
      · cases ha
    · cases ha
def at1 (N : Nat) (ops : List Oper) (i : Nat) (L : LE) : Option Oper := match nthO ops i with
  | none => none
  | some o => match okO N o, wantL ops L o with
    | true, some true => some o
    | _, _ => none
theorem at1_ok {ops : Array Oper} {i : Nat} {L : LE} {o : Oper} (h : at1 N ops.toList i L = some o) : ops[i]? = some o ∧ (dstOK N o && noDefer o) = true ∧ Region.wanted o (yieldE ops (updL L e)) = true := by
  unfold at1 at h
  split at h
  · cases h
  · rename_i o' ho
    rw [nthO_arr] at ho
    split at h
    · rename_i hok hw
      cases h
      exact ⟨ho, hok, wantL_eq hw⟩
    · cases h
variable {ops : Array Oper} {i : Nat} {idx : List Nat} {L : LE} {d : Nat} {op : Op} {ty : TypeId} {pos : String} {aft : Array Edge} {g : Option (Nat × Bool)}
theorem zg (ho : at1 N ops.toList i L = some ⟨some d, op, ty, pos, aft, g⟩) (hs : semH P B (execOp (evalE (updL L e)) ⟨some d, op, ty, pos, aft, g⟩) h (fun nx h' => After P B nx h' (fun v h'' => Run P B N (.inRegion ops idx :: k) (updL ((d, v) :: L) e) h'' Φ))) :
    Run P B N (.inRegion ops (i :: idx) :: k) (updL L e) h Φ := by
  obtain ⟨h1, h2, h3⟩ := at1_ok (e := e) ho
  exact Run.go h1 h2 h3 hs
theorem zg0 (ho : at1 N ops.toList i L = some ⟨none, op, ty, pos, aft, g⟩) (hs : semH P B (execOp (evalE (updL L e)) ⟨none, op, ty, pos, aft, g⟩) h (fun nx h' => After P B nx h' (fun v h'' => Run P B N (.inRegion ops idx :: k) (updL L e) h'' Φ))) :
    Run P B N (.inRegion ops (i :: idx) :: k) (updL L e) h Φ := by
  obtain ⟨h1, h2, h3⟩ := at1_ok (e := e) ho
  exact Run.go h1 h2 h3 hs
theorem zo {K : Env → Heap → Prop} (ho : at1 N ops.toList i L = some ⟨some d, op, ty, pos, aft, g⟩) (hs : semH P B (execOp (evalE (updL L e)) ⟨some d, op, ty, pos, aft, g⟩) h (fun nx h' => After P B nx h' (fun v h'' => K (updL ((d, v) :: L) e) h''))) : OpH P B N ops i K (updL L e) h := by
  obtain ⟨h1, h2, h3⟩ := at1_ok (e := e) ho
  exact OpH.go h1 h2 h3 hs
theorem zo0 {K : Env → Heap → Prop} (ho : at1 N ops.toList i L = some ⟨none, op, ty, pos, aft, g⟩) (hs : semH P B (execOp (evalE (updL L e)) ⟨none, op, ty, pos, aft, g⟩) h (fun nx h' => After P B nx h' (fun v h'' => K (updL L e) h''))) : OpH P B N ops i K (updL L e) h := by
  obtain ⟨h1, h2, h3⟩ := at1_ok (e := e) ho
  exact OpH.go h1 h2 h3 hs
def no1 (N : Nat) (ops : List Oper) (i : Nat) (L : LE) : Option LE := match nthO ops i with
  | none => none
  | some o => match okO N o, wantL ops L o with
    | true, some false => some (putO L o.dst undef)
    | _, _ => none
theorem zon {K : Env → Heap → Prop} {L' : LE} (ho : no1 N ops.toList i L = some L') (hs : K (updL L' e) h) : OpH P B N ops i K (updL L e) h := by
  unfold no1 at ho
  split at ho
  · cases ho
  · rename_i o h1
    rw [nthO_arr] at h1
    split at ho
    · rename_i hok hw
      cases ho
      refine OpH.no h1 hok (wantL_eq hw) ?_
      rw [← putO_eq]; exact hs
    · cases ho
theorem zq {C : Heap → Prop} {z : List Nat} {t : Ord} {v : Value} (ho : at1 N ops.toList i L = some ⟨some d, op, ty, pos, aft, g⟩) (hq : ∀ h', C h' → QuietAt P B ⟨some d, op, ty, pos, aft, g⟩ (updL L e) h' v) (hr : RunT P B N ops k Φ C z t (updL ((d, v) :: L) e) h) :
    RunT P B N ops k Φ C z (.q i t) (updL L e) h := by
  obtain ⟨h1, h2, h3⟩ := at1_ok (e := e) ho
  exact RunT.quiet h1 h2 h3 hq hr
theorem zqe {z : List Nat} {t : Ord} {v : Value} {h0 : Heap} (ho : at1 N ops.toList i L = some ⟨some d, op, ty, pos, aft, g⟩) (hq : QuietAt P B ⟨some d, op, ty, pos, aft, g⟩ (updL L e) h0 v) (hr : RunT P B N ops k Φ (fun h' => h' = h0) z t (updL ((d, v) :: L) e) h) :
    RunT P B N ops k Φ (fun h' => h' = h0) z (.q i t) (updL L e) h := zq ho (fun _ e => e ▸ hq) hr
def argO : Nat → List Value → LE → Option LE
  | _, [], acc => some acc
  | n, v :: l, acc => argO (n + 1) l ((n, v) :: acc)
theorem Agree.argO {e : Env} : ∀ (l : List Value) (n : Nat) (acc L : LE), (∀ i v, l[i]? = some v → e (n + i) = v) → Agree acc e → argO n l acc = some L → Agree L e := by
  intro l
  induction l with
  | nil => intro n acc L _ ha h; simp only [H.argO, Option.some.injEq] at h; subst h; exact ha
  | cons v l ih =>
    intro n acc L he ha h
    exact ih (n + 1) ((n, v) :: acc) L (fun i u hu => by have := he (i + 1) u (by simpa using hu); rw [← this]; congr 1; omega) ⟨by simpa using he 0 v (by simp), ha⟩ h
theorem zspec {f : FuncId} {c : Code} {l : List Value} {L : LE} {Post : Value → Heap → Prop} {fn : Func} (hf : P.funcs[f]? = some fn) (rs : List ResultVar) (hc : fn.body = some c) (hrs : fn.results = rs.toArray) (hN : fn.ntmps = N) (hn : Nat.ble l.length N = true) (hL : argO 0 l [] = some L)
    (hr : Run P B N [.code c] (updL L (env0 l.toArray)) h (fun j e h' => (j = .fall ∨ j = .ret) ∧ resH P B h' e rs (fun vs => Fin B h' (Post (pack vs))))) :
    Spec P B f l.toArray h Post := by
  refine Spec.of_run hf hc hrs hN (Nat.le_of_ble_eq_true (by simpa using hn)) ?_
  rwa [updL_eq] at hr
  refine Agree.argO l 0 [] L (fun i v hv => ?_) trivial hL
  simp [env0, Array.getD_eq_getD_getElem?, hv]
def argP : List (Nat × Value) → LE → Option LE
  | [], L => some L
  | (t, v) :: l, L => argP l ((t, v) :: L)
theorem argP_eq {e : Env} : ∀ (l : List (Nat × Value)) (L L' : LE), argP l L = some L' → putE (updL L e) l = updL L' e := by
  intro l
  induction l with
  | nil => intro L L' h; simp only [argP, Option.some.injEq] at h; subst h; rfl
  | cons p l ih => obtain ⟨t, v⟩ := p; intro L L' h; exact ih ((t, v) :: L) L' h
theorem zput {todo : List Item} {l : List (Nat × Value)} {L L' : LE} (ha : argP l L = some L') (hr : Run P B N todo (updL L' e) h Φ) : Run P B N todo (putE (updL L e) l) h Φ := by rwa [argP_eq l L L' ha]
theorem zr {X : Env → Heap → Prop} (hr : X e h) : Run P B N (.code .ret :: k) e h (fun j e h => (j = .fall ∨ j = .ret) ∧ X e h) := Run.ret ⟨.inr rfl, hr⟩
theorem zf {X : Env → Heap → Prop} (hr : X e h) : Run P B N [] e h (fun j e h => (j = .fall ∨ j = .ret) ∧ X e h) := Run.fall ⟨.inl rfl, hr⟩
variable {α : Type} {f : α → Value} {A : Addr} {t : TypeId} {x : Operand}
theorem zl {K : α → Prop} (s : ∃ x : α, cellH B h A = some (f x) ∧ K x) (ho : at1 N ops.toList i L = some ⟨some d, .load t x, ty, pos, aft, g⟩) (hx : lkO L x = some (.pointer (some A))) (ht : aggB P t = some false)
    (hr : ∀ x, K x → Run P B N (.inRegion ops idx :: k) (updL ((d, f x) :: L) e) h Φ) : Run P B N (.inRegion ops (i :: idx) :: k) (updL L e) h Φ := by
  obtain ⟨y, hl, hK⟩ := s
  exact zg ho (sem_load1 A (f y) (lkO_eval hx) ht hl (hr y hK))
theorem zn {vs : List Value} {n : Nat} (hl : CellsAt B h A 0 vs) (ho : at1 N ops.toList i L = some ⟨some d, .load t x, ty, pos, aft, g⟩) (hx : lkO L x = some (.pointer (some A))) (ht : aggB P t = some true) (hn : szB P t = some n) (hv : vs.length = n)
    (hr : Run P B N (.inRegion ops idx :: k) (updL ((d, .agg vs.toArray) :: L) e) h Φ) : Run P B N (.inRegion ops (i :: idx) :: k) (updL L e) h Φ :=
  zg ho (sem_loadN A vs (lkO_eval hx) ht (hn.trans (congrArg some hv.symm)) hl hr)
theorem zs1 {y : Operand} {v : Value} {K : Heap → Prop} (s : ∃ h' : Heap, storeH h A v = some h' ∧ K h') (ho : at1 N ops.toList i L = some ⟨none, .store t x y, ty, pos, aft, g⟩) (hx : lkO L x = some (.pointer (some A))) (hy : lkO L y = some v) (h1 : isOne v = true) (hn : szB P t = some 1)
    (hr : ∀ h', K h' → Run P B N (.inRegion ops idx :: k) (updL L e) h' Φ) : Run P B N (.inRegion ops (i :: idx) :: k) (updL L e) h Φ := by
  obtain ⟨h', hl, hK⟩ := s
  exact zg0 ho (sem_store1 A v h' (lkO_eval hx) (lkO_eval hy) h1 hn hl (hr h' hK))
theorem zsn {y : Operand} {vs : List Value} {n : Nat} {K : Heap → Prop} (s : ∃ h' : Heap, StoresAt A h 0 vs h' ∧ K h') (ho : at1 N ops.toList i L = some ⟨none, .store t x y, ty, pos, aft, g⟩) (hx : lkO L x = some (.pointer (some A))) (hy : lkO L y = some (.agg vs.toArray)) (hn : szB P t = some n) (hv : vs.length = n)
    (hr : ∀ h', K h' → Run P B N (.inRegion ops idx :: k) (updL L e) h' Φ) : Run P B N (.inRegion ops (i :: idx) :: k) (updL L e) h Φ := by
  obtain ⟨h', hl, hK⟩ := s
  exact zg0 ho (sem_storeN A vs h' (lkO_eval hx) (lkO_eval hy) (hn.trans (congrArg some hv.symm)) hl (hr h' hK))
theorem zcall {f : FuncId} {args : List Operand} {tys : Array TypeId} {vs : List Value} {Q : Value → Heap → Prop} (s : Spec P B f vs.toArray h Q) (ho : at1 N ops.toList i L = some ⟨some d, .call ⟨.value (.func f), args.toArray, tys⟩, ty, pos, aft, g⟩) (ha : mapO L args = some vs) (hg : Goes P f)
    (hr : ∀ v h', Q v h' → Run P B N (.inRegion ops idx :: k) (updL ((d, v) :: L) e) h' Φ) : Run P B N (.inRegion ops (i :: idx) :: k) (updL L e) h Φ :=
  zg ho (sem_callL vs hg rfl (mapO_eval ha) (Spec.mono s fun v h' hv => hr v h' hv))
theorem znil {p : Option Addr} {K : Addr → Prop} (s : ∃ A : Addr, p = some A ∧ K A) (ho : at1 N ops.toList i L = some ⟨some d, .nilCheck x, ty, pos, aft, g⟩) (hx : lkO L x = some (.pointer p))
    (hr : ∀ A, K A → Run P B N (.inRegion ops idx :: k) (updL ((d, .pointer (some A)) :: L) e) h Φ) : Run P B N (.inRegion ops (i :: idx) :: k) (updL L e) h Φ := by
  obtain ⟨A, hp, hK⟩ := s
  exact zg ho (sem_nilCheck A ((lkO_eval hx).trans (congrArg Value.pointer hp)) (hr A hK))
theorem zal {K : Nat → Heap → Prop} {zs : List Value} {o : AObj} (s : ∀ b : Nat, h b = none → B b = none → ∀ h' : Heap, h' = h.set b o → K b h') (ho : at1 N ops.toList i L = some ⟨some d, .alloc t, ty, pos, aft, g⟩) (hz : zeroB P t = some zs) (hv : o = .vec t (plains zs) zs.length)
    (hr : ∀ b h', K b h' → Run P B N (.inRegion ops idx :: k) (updL ((d, .pointer (some ⟨b, 0, none⟩)) :: L) e) h' Φ) : Run P B N (.inRegion ops (i :: idx) :: k) (updL L e) h Φ := by
  subst hv
  exact zg ho (sem_alloc zs hz fun b h1 h2 => hr b _ (s b h1 h2 _ rfl))
theorem zb1 {K : Nat → Heap → Prop} {v : Value} {o : AObj} (s : ∀ b : Nat, h b = none → B b = none → ∀ h' : Heap, h' = h.set b o → K b h') (ho : at1 N ops.toList i L = some ⟨some d, .box t x, ty, pos, aft, g⟩) (hx : lkO L x = some v) (h1 : isOne v = true) (hv : o = .vec t [.plain v] 1)
    (hr : ∀ b h', K b h' → Run P B N (.inRegion ops idx :: k) (updL ((d, .pointer (some ⟨b, 0, none⟩)) :: L) e) h' Φ) : Run P B N (.inRegion ops (i :: idx) :: k) (updL L e) h Φ := by
  subst hv
  exact zg ho (sem_box1 v (lkO_eval hx) h1 fun b h1 h2 => hr b _ (s b h1 h2 _ rfl))
theorem zbn {K : Nat → Heap → Prop} {vs : List Value} {o : AObj} (s : ∀ b : Nat, h b = none → B b = none → ∀ h' : Heap, h' = h.set b o → K b h') (ho : at1 N ops.toList i L = some ⟨some d, .box t x, ty, pos, aft, g⟩) (hx : lkO L x = some (.agg vs.toArray)) (hv : o = .vec t (plains vs) vs.length)
    (hr : ∀ b h', K b h' → Run P B N (.inRegion ops idx :: k) (updL ((d, .pointer (some ⟨b, 0, none⟩)) :: L) e) h' Φ) : Run P B N (.inRegion ops (i :: idx) :: k) (updL L e) h Φ := by
  subst hv
  exact zg ho (sem_boxN vs (lkO_eval hx) fun b h1 h2 => hr b _ (s b h1 h2 _ rfl))
theorem zt {p S1 S2 : Prop} {w : BinOp} {t' : TypeId} {y : Operand} {kk : IntKind} {a b : Int} (s : (p → S1) ∧ (¬ p → S2)) (ho : at1 N ops.toList i L = some ⟨some d, .binOp w t x y t', ty, pos, aft, g⟩) (hx : lkO L x = some (.int kk a)) (hy : lkO L y = some (.int kk b))
    (hT : p → binI w kk a b = some (.bool true)) (hF : ¬ p → binI w kk a b = some (.bool false))
    (h1 : S1 → Run P B N (.inRegion ops idx :: k) (updL ((d, .bool true) :: L) e) h Φ) (h2 : S2 → Run P B N (.inRegion ops idx :: k) (updL ((d, .bool false) :: L) e) h Φ) : Run P B N (.inRegion ops (i :: idx) :: k) (updL L e) h Φ := by
  by_cases hp : p
  · exact zg ho (sem_binI kk a b _ (lkO_eval hx) (lkO_eval hy) (hT hp) (h1 (s.1 hp)))
  · exact zg ho (sem_binI kk a b _ (lkO_eval hx) (lkO_eval hy) (hF hp) (h2 (s.2 hp)))
theorem zu {p S1 S2 : Prop} {w : BinOp} {t' : TypeId} {y : Operand} {kk : IntKind} {a b : Int} (s : (p → S1) ∧ (¬ p → S2)) (ho : at1 N ops.toList i L = some ⟨some d, .binOp w t x y t', ty, pos, aft, g⟩) (hx : lkO L x = some (.int kk a)) (hy : lkO L y = some (.int kk b))
    (hT : p → binI w kk a b = some (.bool false)) (hF : ¬ p → binI w kk a b = some (.bool true))
    (h1 : S1 → Run P B N (.inRegion ops idx :: k) (updL ((d, .bool false) :: L) e) h Φ) (h2 : S2 → Run P B N (.inRegion ops idx :: k) (updL ((d, .bool true) :: L) e) h Φ) : Run P B N (.inRegion ops (i :: idx) :: k) (updL L e) h Φ := by
  by_cases hp : p
  · exact zg ho (sem_binI kk a b _ (lkO_eval hx) (lkO_eval hy) (hT hp) (h1 (s.1 hp)))
  · exact zg ho (sem_binI kk a b _ (lkO_eval hx) (lkO_eval hy) (hF hp) (h2 (s.2 hp)))
end
section
variable {P : Program} {B : RO} {h : Heap} {ρ : Operand → Value} {d : Option Nat} {ty : TypeId} {pos : String} {aft : Array Edge} {g : Option (Nat × Bool)} {K : Next → Heap → Prop}
theorem putL_eq : ∀ (l cs : List Value) (off : Nat), off + l.length ≤ cs.length → putL cs off l = cs.take off ++ l ++ cs.drop (off + l.length) := by
  intro l
  induction l with
  | nil => intro cs off _; simp [putL]
  | cons c r ih =>
    intro cs off h
    simp only [List.length_cons] at h
    rw [putL, ih _ _ (by rw [List.length_set]; omega), List.take_set, List.take_succ_eq_append_getElem (by omega : off < cs.length), List.set_append_right _ _ (by rw [List.length_take]; omega), List.length_take, Nat.min_eq_left (by omega), Nat.sub_self, List.set_cons_zero, List.drop_set_of_lt (by omega)]
    simp only [List.length_cons, List.append_assoc, List.cons_append, List.nil_append]
    rw [show off + 1 + r.length = off + (r.length + 1) by omega]
theorem fillL_cons {place : Nat → Option (Nat × Nat)} {cs l : List Value} {i off size : Nat} {rest : List (Nat × Value)} (hp : place i = some (off, size)) (hl : l.length = size) (hle : off + size ≤ cs.length) : fillL place cs ((i, .agg l.toArray) :: rest) = fillL place (putL cs off l) rest := by
  have e : (Value.agg l.toArray).cells.toList = l := rfl
  conv => lhs; unfold fillL
  rw [hp]
  simp only [e]
  rw [if_neg (by rw [hl]; simp; omega)]
theorem sem_buildSlice1 {t : TypeId} {parts : List (Nat × Operand)} {zs : List Value} {te sz bz : Nat} (l : List Value) (ht : slcB P t = some (te, sz, bz)) (hz : zeroB P te = some zs) (hzl : zs.length = sz) (hl : l.length = sz) (h1 : 1 * sz ≤ 16777216) (h2 : 1 * sz ≠ 0) (hv : parts.map (fun p => (p.1, ρ p.2)) = [(0, .agg l.toArray)])
    (k : ∀ b, h b = none → B b = none → ∀ h', h' = h.set b (.vec te (plains l) sz) → K (.value (.slice (some ⟨b, 0, none⟩) 1 1)) h') : semH P B (execOp ρ ⟨d, .buildSlice t 1 parts.toArray, ty, pos, aft, g⟩) h K := by
  refine sem_buildSliceL _ l ht hz hzl h1 h2 hv ?_ (by rw [hl]; exact k)
  have e1 : (List.replicate 1 zs).flatten = zs := by simp
  rw [e1, fillL_cons (place := fun i => some (i * sz, sz)) (off := 0) (by simp) hl (by omega), putL_eq _ _ _ (by omega)]
  simp only [fillL, List.take_zero, List.nil_append, Nat.zero_add]
  rw [List.drop_of_length_le (by omega), List.append_nil]
end
end Go.Proofs.YtgldgabefiialaaGreat.H
namespace Go.Proofs.YtgldgabefiialaaGreat.H
open Go
set_option linter.unusedVariables false
set_option maxRecDepth 100000
set_option maxHeartbeats 4000000
noncomputable abbrev PG : Program := Go.Proofs.Tryz.prog
abbrev TY.int : TypeId := 3
abbrev TY.bool : TypeId := 4
abbrev TY.uint8 : TypeId := 5
abbrev TY.string : TypeId := 9
abbrev TY.api_Regs : TypeId := 26
abbrev TY.p_attempt_View : TypeId := 29
abbrev TY.s_countermandref20_Things : TypeId := 32
abbrev TY.countermandlaw20_run : TypeId := 34
abbrev TY.countermandref20_Deed : TypeId := 38
abbrev TY.p_tome_Tome : TypeId := 40
abbrev TY.attempt_View : TypeId := 43
abbrev TY.countermandref20_Things : TypeId := 55
abbrev TY.a_3_string : TypeId := 56
abbrev TY.reads_Now : TypeId := 65
abbrev TY.p_draft_Draft_int : TypeId := 91
abbrev TY.mark_State : TypeId := 95
abbrev TY.attempt_Attempt : TypeId := 107
abbrev TY.reads_Kind : TypeId := 110
abbrev TY.file_File : TypeId := 119
abbrev TY.feed_Feed : TypeId := 128
abbrev TY.s_reads_Entry : TypeId := 135
abbrev TY.reads_Set : TypeId := 137
abbrev TY.acts_Acts : TypeId := 144
abbrev TY.mark_Stack : TypeId := 147
abbrev TY.mark_Mark : TypeId := 152
abbrev TY.p_draft_Draft_file_File : TypeId := 157
abbrev TY.draft_entry_int : TypeId := 163
abbrev TY.s_draft_entry_int : TypeId := 164
abbrev TY.draft_Draft_int : TypeId := 166
abbrev TY.cell_slot_int : TypeId := 169
abbrev TY.s_cell_slot_int : TypeId := 170
abbrev TY.cell_Row_int : TypeId := 172
abbrev TY.reads_Entry : TypeId := 174
abbrev TY.cursor_Cursor : TypeId := 181
abbrev TY.tome_Tome : TypeId := 184
abbrev TY.sheet_Sheet : TypeId := 204
abbrev TY.s_draft_entry_file_File : TypeId := 205
abbrev TY.draft_Draft_file_File : TypeId := 207
abbrev TY.draft_entry_file_File : TypeId := 213
abbrev TY.cell_slot_file_File : TypeId := 216
abbrev TY.s_cell_slot_file_File : TypeId := 217
abbrev TY.cell_Row_file_File : TypeId := 219
abbrev TY.s_uint8 : TypeId := 226
theorem TF.agg_110 : aggB PG 110 = some false := by kernel_rfl
theorem TF.agg_119 : aggB PG 119 = some true := by kernel_rfl
theorem TF.agg_135 : aggB PG 135 = some false := by kernel_rfl
theorem TF.agg_157 : aggB PG 157 = some false := by kernel_rfl
theorem TF.agg_163 : aggB PG 163 = some true := by kernel_rfl
theorem TF.agg_164 : aggB PG 164 = some false := by kernel_rfl
theorem TF.agg_170 : aggB PG 170 = some false := by kernel_rfl
theorem TF.agg_174 : aggB PG 174 = some true := by kernel_rfl
theorem TF.agg_182 : aggB PG 182 = some false := by kernel_rfl
theorem TF.agg_205 : aggB PG 205 = some false := by kernel_rfl
theorem TF.agg_213 : aggB PG 213 = some true := by kernel_rfl
theorem TF.agg_217 : aggB PG 217 = some false := by kernel_rfl
theorem TF.agg_26 : aggB PG 26 = some true := by kernel_rfl
theorem TF.agg_29 : aggB PG 29 = some false := by kernel_rfl
theorem TF.agg_3 : aggB PG 3 = some false := by kernel_rfl
theorem TF.agg_30 : aggB PG 30 = some false := by kernel_rfl
theorem TF.agg_32 : aggB PG 32 = some false := by kernel_rfl
theorem TF.agg_38 : aggB PG 38 = some true := by kernel_rfl
theorem TF.agg_39 : aggB PG 39 = some false := by kernel_rfl
theorem TF.agg_4 : aggB PG 4 = some false := by kernel_rfl
theorem TF.agg_40 : aggB PG 40 = some false := by kernel_rfl
theorem TF.agg_41 : aggB PG 41 = some false := by kernel_rfl
theorem TF.agg_5 : aggB PG 5 = some false := by kernel_rfl
theorem TF.agg_55 : aggB PG 55 = some true := by kernel_rfl
theorem TF.agg_56 : aggB PG 56 = some true := by kernel_rfl
theorem TF.agg_65 : aggB PG 65 = some true := by kernel_rfl
theorem TF.agg_69 : aggB PG 69 = some false := by kernel_rfl
theorem TF.agg_9 : aggB PG 9 = some false := by kernel_rfl
theorem TF.agg_91 : aggB PG 91 = some false := by kernel_rfl
theorem TF.agg_92 : aggB PG 92 = some false := by kernel_rfl
theorem TF.agg_93 : aggB PG 93 = some false := by kernel_rfl
theorem TF.agg_95 : aggB PG 95 = some true := by kernel_rfl
theorem TF.arr_26 : arrB PG 26 = some (4, 3, 1, false) := by kernel_rfl
theorem TF.arr_49 : arrB PG 49 = some (8, 3, 1, false) := by kernel_rfl
theorem TF.arr_52 : arrB PG 52 = some (6, 51, 2, true) := by kernel_rfl
theorem TF.arr_53 : arrB PG 53 = some (3, 3, 1, false) := by kernel_rfl
theorem TF.arr_56 : arrB PG 56 = some (3, 9, 1, false) := by kernel_rfl
theorem TF.arr_63 : arrB PG 63 = some (3, 49, 8, true) := by kernel_rfl
theorem TF.eqg_119 : eqGB PG 119 = false := by kernel_rfl
theorem TF.flat_119 : flat6B PG 119 = some [.bool, .str] := by kernel_rfl
theorem TF.goes_10 : Goes PG 10 := ⟨Tryz.f10, Tryz.func10, by kernel_rfl, by kernel_rfl⟩
theorem TF.goes_104 : Goes PG 104 := ⟨Tryz.f104, Tryz.func104, by kernel_rfl, by kernel_rfl⟩
theorem TF.goes_105 : Goes PG 105 := ⟨Tryz.f105, Tryz.func105, by kernel_rfl, by kernel_rfl⟩
theorem TF.goes_106 : Goes PG 106 := ⟨Tryz.f106, Tryz.func106, by kernel_rfl, by kernel_rfl⟩
theorem TF.goes_11 : Goes PG 11 := ⟨Tryz.f11, Tryz.func11, by kernel_rfl, by kernel_rfl⟩
theorem TF.goes_114 : Goes PG 114 := ⟨Tryz.f114, Tryz.func114, by kernel_rfl, by kernel_rfl⟩
theorem TF.goes_115 : Goes PG 115 := ⟨Tryz.f115, Tryz.func115, by kernel_rfl, by kernel_rfl⟩
theorem TF.goes_116 : Goes PG 116 := ⟨Tryz.f116, Tryz.func116, by kernel_rfl, by kernel_rfl⟩
theorem TF.goes_117 : Goes PG 117 := ⟨Tryz.f117, Tryz.func117, by kernel_rfl, by kernel_rfl⟩
theorem TF.goes_118 : Goes PG 118 := ⟨Tryz.f118, Tryz.func118, by kernel_rfl, by kernel_rfl⟩
theorem TF.goes_119 : Goes PG 119 := ⟨Tryz.f119, Tryz.func119, by kernel_rfl, by kernel_rfl⟩
theorem TF.goes_12 : Goes PG 12 := ⟨Tryz.f12, Tryz.func12, by kernel_rfl, by kernel_rfl⟩
theorem TF.goes_120 : Goes PG 120 := ⟨Tryz.f120, Tryz.func120, by kernel_rfl, by kernel_rfl⟩
theorem TF.goes_121 : Goes PG 121 := ⟨Tryz.f121, Tryz.func121, by kernel_rfl, by kernel_rfl⟩
theorem TF.goes_122 : Goes PG 122 := ⟨Tryz.f122, Tryz.func122, by kernel_rfl, by kernel_rfl⟩
theorem TF.goes_123 : Goes PG 123 := ⟨Tryz.f123, Tryz.func123, by kernel_rfl, by kernel_rfl⟩
theorem TF.goes_124 : Goes PG 124 := ⟨Tryz.f124, Tryz.func124, by kernel_rfl, by kernel_rfl⟩
theorem TF.goes_125 : Goes PG 125 := ⟨Tryz.f125, Tryz.func125, by kernel_rfl, by kernel_rfl⟩
theorem TF.goes_127 : Goes PG 127 := ⟨Tryz.f127, Tryz.func127, by kernel_rfl, by kernel_rfl⟩
theorem TF.goes_13 : Goes PG 13 := ⟨Tryz.f13, Tryz.func13, by kernel_rfl, by kernel_rfl⟩
theorem TF.goes_132 : Goes PG 132 := ⟨Tryz.f132, Tryz.func132, by kernel_rfl, by kernel_rfl⟩
theorem TF.goes_133 : Goes PG 133 := ⟨Tryz.f133, Tryz.func133, by kernel_rfl, by kernel_rfl⟩
theorem TF.goes_134 : Goes PG 134 := ⟨Tryz.f134, Tryz.func134, by kernel_rfl, by kernel_rfl⟩
theorem TF.goes_135 : Goes PG 135 := ⟨Tryz.f135, Tryz.func135, by kernel_rfl, by kernel_rfl⟩
theorem TF.goes_136 : Goes PG 136 := ⟨Tryz.f136, Tryz.func136, by kernel_rfl, by kernel_rfl⟩
theorem TF.goes_14 : Goes PG 14 := ⟨Tryz.f14, Tryz.func14, by kernel_rfl, by kernel_rfl⟩
theorem TF.goes_141 : Goes PG 141 := ⟨Tryz.f141, Tryz.func141, by kernel_rfl, by kernel_rfl⟩
theorem TF.goes_142 : Goes PG 142 := ⟨Tryz.f142, Tryz.func142, by kernel_rfl, by kernel_rfl⟩
theorem TF.goes_151 : Goes PG 151 := ⟨Tryz.f151, Tryz.func151, by kernel_rfl, by kernel_rfl⟩
theorem TF.goes_152 : Goes PG 152 := ⟨Tryz.f152, Tryz.func152, by kernel_rfl, by kernel_rfl⟩
theorem TF.goes_154 : Goes PG 154 := ⟨Tryz.f154, Tryz.func154, by kernel_rfl, by kernel_rfl⟩
theorem TF.goes_16 : Goes PG 16 := ⟨Tryz.f16, Tryz.func16, by kernel_rfl, by kernel_rfl⟩
theorem TF.goes_17 : Goes PG 17 := ⟨Tryz.f17, Tryz.func17, by kernel_rfl, by kernel_rfl⟩
theorem TF.goes_20 : Goes PG 20 := ⟨Tryz.f20, Tryz.func20, by kernel_rfl, by kernel_rfl⟩
theorem TF.goes_21 : Goes PG 21 := ⟨Tryz.f21, Tryz.func21, by kernel_rfl, by kernel_rfl⟩
theorem TF.goes_24 : Goes PG 24 := ⟨Tryz.f24, Tryz.func24, by kernel_rfl, by kernel_rfl⟩
theorem TF.goes_25 : Goes PG 25 := ⟨Tryz.f25, Tryz.func25, by kernel_rfl, by kernel_rfl⟩
theorem TF.goes_3 : Goes PG 3 := ⟨Tryz.f3, Tryz.func3, by kernel_rfl, by kernel_rfl⟩
theorem TF.goes_39 : Goes PG 39 := ⟨Tryz.f39, Tryz.func39, by kernel_rfl, by kernel_rfl⟩
theorem TF.goes_40 : Goes PG 40 := ⟨Tryz.f40, Tryz.func40, by kernel_rfl, by kernel_rfl⟩
theorem TF.goes_41 : Goes PG 41 := ⟨Tryz.f41, Tryz.func41, by kernel_rfl, by kernel_rfl⟩
theorem TF.goes_42 : Goes PG 42 := ⟨Tryz.f42, Tryz.func42, by kernel_rfl, by kernel_rfl⟩
theorem TF.goes_43 : Goes PG 43 := ⟨Tryz.f43, Tryz.func43, by kernel_rfl, by kernel_rfl⟩
theorem TF.goes_44 : Goes PG 44 := ⟨Tryz.f44, Tryz.func44, by kernel_rfl, by kernel_rfl⟩
theorem TF.goes_45 : Goes PG 45 := ⟨Tryz.f45, Tryz.func45, by kernel_rfl, by kernel_rfl⟩
theorem TF.goes_46 : Goes PG 46 := ⟨Tryz.f46, Tryz.func46, by kernel_rfl, by kernel_rfl⟩
theorem TF.goes_47 : Goes PG 47 := ⟨Tryz.f47, Tryz.func47, by kernel_rfl, by kernel_rfl⟩
theorem TF.goes_48 : Goes PG 48 := ⟨Tryz.f48, Tryz.func48, by kernel_rfl, by kernel_rfl⟩
theorem TF.goes_49 : Goes PG 49 := ⟨Tryz.f49, Tryz.func49, by kernel_rfl, by kernel_rfl⟩
theorem TF.goes_50 : Goes PG 50 := ⟨Tryz.f50, Tryz.func50, by kernel_rfl, by kernel_rfl⟩
theorem TF.goes_51 : Goes PG 51 := ⟨Tryz.f51, Tryz.func51, by kernel_rfl, by kernel_rfl⟩
theorem TF.goes_52 : Goes PG 52 := ⟨Tryz.f52, Tryz.func52, by kernel_rfl, by kernel_rfl⟩
theorem TF.goes_53 : Goes PG 53 := ⟨Tryz.f53, Tryz.func53, by kernel_rfl, by kernel_rfl⟩
theorem TF.goes_54 : Goes PG 54 := ⟨Tryz.f54, Tryz.func54, by kernel_rfl, by kernel_rfl⟩
theorem TF.goes_55 : Goes PG 55 := ⟨Tryz.f55, Tryz.func55, by kernel_rfl, by kernel_rfl⟩
theorem TF.goes_56 : Goes PG 56 := ⟨Tryz.f56, Tryz.func56, by kernel_rfl, by kernel_rfl⟩
theorem TF.goes_57 : Goes PG 57 := ⟨Tryz.f57, Tryz.func57, by kernel_rfl, by kernel_rfl⟩
theorem TF.goes_58 : Goes PG 58 := ⟨Tryz.f58, Tryz.func58, by kernel_rfl, by kernel_rfl⟩
theorem TF.goes_65 : Goes PG 65 := ⟨Tryz.f65, Tryz.func65, by kernel_rfl, by kernel_rfl⟩
theorem TF.goes_66 : Goes PG 66 := ⟨Tryz.f66, Tryz.func66, by kernel_rfl, by kernel_rfl⟩
theorem TF.goes_67 : Goes PG 67 := ⟨Tryz.f67, Tryz.func67, by kernel_rfl, by kernel_rfl⟩
theorem TF.goes_68 : Goes PG 68 := ⟨Tryz.f68, Tryz.func68, by kernel_rfl, by kernel_rfl⟩
theorem TF.goes_69 : Goes PG 69 := ⟨Tryz.f69, Tryz.func69, by kernel_rfl, by kernel_rfl⟩
theorem TF.goes_70 : Goes PG 70 := ⟨Tryz.f70, Tryz.func70, by kernel_rfl, by kernel_rfl⟩
theorem TF.goes_71 : Goes PG 71 := ⟨Tryz.f71, Tryz.func71, by kernel_rfl, by kernel_rfl⟩
theorem TF.goes_78 : Goes PG 78 := ⟨Tryz.f78, Tryz.func78, by kernel_rfl, by kernel_rfl⟩
theorem TF.goes_81 : Goes PG 81 := ⟨Tryz.f81, Tryz.func81, by kernel_rfl, by kernel_rfl⟩
theorem TF.goes_82 : Goes PG 82 := ⟨Tryz.f82, Tryz.func82, by kernel_rfl, by kernel_rfl⟩
theorem TF.goes_83 : Goes PG 83 := ⟨Tryz.f83, Tryz.func83, by kernel_rfl, by kernel_rfl⟩
theorem TF.goes_84 : Goes PG 84 := ⟨Tryz.f84, Tryz.func84, by kernel_rfl, by kernel_rfl⟩
theorem TF.goes_85 : Goes PG 85 := ⟨Tryz.f85, Tryz.func85, by kernel_rfl, by kernel_rfl⟩
theorem TF.goes_86 : Goes PG 86 := ⟨Tryz.f86, Tryz.func86, by kernel_rfl, by kernel_rfl⟩
theorem TF.goes_87 : Goes PG 87 := ⟨Tryz.f87, Tryz.func87, by kernel_rfl, by kernel_rfl⟩
theorem TF.goes_88 : Goes PG 88 := ⟨Tryz.f88, Tryz.func88, by kernel_rfl, by kernel_rfl⟩
theorem TF.goes_89 : Goes PG 89 := ⟨Tryz.f89, Tryz.func89, by kernel_rfl, by kernel_rfl⟩
theorem TF.goes_9 : Goes PG 9 := ⟨Tryz.f9, Tryz.func9, by kernel_rfl, by kernel_rfl⟩
theorem TF.goes_90 : Goes PG 90 := ⟨Tryz.f90, Tryz.func90, by kernel_rfl, by kernel_rfl⟩
theorem TF.goes_91 : Goes PG 91 := ⟨Tryz.f91, Tryz.func91, by kernel_rfl, by kernel_rfl⟩
theorem TF.goes_92 : Goes PG 92 := ⟨Tryz.f92, Tryz.func92, by kernel_rfl, by kernel_rfl⟩
theorem TF.goes_93 : Goes PG 93 := ⟨Tryz.f93, Tryz.func93, by kernel_rfl, by kernel_rfl⟩
theorem TF.goes_94 : Goes PG 94 := ⟨Tryz.f94, Tryz.func94, by kernel_rfl, by kernel_rfl⟩
theorem TF.goes_95 : Goes PG 95 := ⟨Tryz.f95, Tryz.func95, by kernel_rfl, by kernel_rfl⟩
theorem TF.goes_96 : Goes PG 96 := ⟨Tryz.f96, Tryz.func96, by kernel_rfl, by kernel_rfl⟩
theorem TF.goes_97 : Goes PG 97 := ⟨Tryz.f97, Tryz.func97, by kernel_rfl, by kernel_rfl⟩
theorem TF.goes_98 : Goes PG 98 := ⟨Tryz.f98, Tryz.func98, by kernel_rfl, by kernel_rfl⟩
theorem TF.goes_99 : Goes PG 99 := ⟨Tryz.f99, Tryz.func99, by kernel_rfl, by kernel_rfl⟩
theorem TF.goesx_126 : GoesX PG 126 (Extern.SlicesOverlaps.overlaps #[164, 164] #[4]) := ⟨Tryz.f126, Tryz.func126, by kernel_rfl, by kernel_rfl, by kernel_rfl, by kernel_rfl⟩
theorem TF.goesx_153 : GoesX PG 153 (Extern.SlicesOverlaps.overlaps #[205, 205] #[4]) := ⟨Tryz.f153, Tryz.func153, by kernel_rfl, by kernel_rfl, by kernel_rfl, by kernel_rfl⟩
theorem TF.int_234 : intB PG 234 = some .u64 := by kernel_rfl
theorem TF.int_3 : intB PG 3 = some .i64 := by kernel_rfl
theorem TF.int_5 : intB PG 5 = some .u8 := by kernel_rfl
theorem TF.isStr_9 : isStr PG 9 = true := by kernel_rfl
theorem TF.mixed : PG.follows .mixedOrders = true := by kernel_rfl
theorem TF.places_107 : strPlaces PG 107 = some [(0, 1), (1, 1), (2, 7), (9, 1), (10, 1)] := by kernel_rfl
theorem TF.places_119 : strPlaces PG 119 = some [(0, 1), (1, 1)] := by kernel_rfl
theorem TF.places_128 : strPlaces PG 128 = some [(0, 3), (3, 1)] := by kernel_rfl
theorem TF.places_137 : strPlaces PG 137 = some [(0, 1), (1, 1)] := by kernel_rfl
theorem TF.places_144 : strPlaces PG 144 = some [(0, 1), (1, 1), (2, 1), (3, 1)] := by kernel_rfl
theorem TF.places_147 : strPlaces PG 147 = some [(0, 1)] := by kernel_rfl
theorem TF.places_163 : strPlaces PG 163 = some [(0, 1), (1, 1)] := by kernel_rfl
theorem TF.places_166 : strPlaces PG 166 = some [(0, 1)] := by kernel_rfl
theorem TF.places_169 : strPlaces PG 169 = some [(0, 1), (1, 1)] := by kernel_rfl
theorem TF.places_172 : strPlaces PG 172 = some [(0, 1)] := by kernel_rfl
theorem TF.places_174 : strPlaces PG 174 = some [(0, 1), (1, 1), (2, 1)] := by kernel_rfl
theorem TF.places_181 : strPlaces PG 181 = some [(0, 3)] := by kernel_rfl
theorem TF.places_184 : strPlaces PG 184 = some [(0, 1)] := by kernel_rfl
theorem TF.places_204 : strPlaces PG 204 = some [(0, 1)] := by kernel_rfl
theorem TF.places_207 : strPlaces PG 207 = some [(0, 1)] := by kernel_rfl
theorem TF.places_213 : strPlaces PG 213 = some [(0, 1), (1, 2)] := by kernel_rfl
theorem TF.places_216 : strPlaces PG 216 = some [(0, 2), (2, 1)] := by kernel_rfl
theorem TF.places_219 : strPlaces PG 219 = some [(0, 1)] := by kernel_rfl
theorem TF.places_34 : strPlaces PG 34 = some [(0, 1), (1, 1), (2, 1), (3, 1)] := by kernel_rfl
theorem TF.places_38 : strPlaces PG 38 = some [(0, 1), (1, 1), (2, 1), (3, 1)] := by kernel_rfl
theorem TF.places_43 : strPlaces PG 43 = some [(0, 1), (1, 1), (2, 1), (3, 1)] := by kernel_rfl
theorem TF.places_65 : strPlaces PG 65 = some [(0, 24), (24, 1)] := by kernel_rfl
theorem TF.places_95 : strPlaces PG 95 = some [(0, 1), (1, 1), (2, 1), (3, 4)] := by kernel_rfl
theorem TF.ptr_157 : ptrB PG 157 = true := by kernel_rfl
theorem TF.ptr_182 : ptrB PG 182 = true := by kernel_rfl
theorem TF.ptr_29 : ptrB PG 29 = true := by kernel_rfl
theorem TF.ptr_30 : ptrB PG 30 = true := by kernel_rfl
theorem TF.ptr_39 : ptrB PG 39 = true := by kernel_rfl
theorem TF.ptr_40 : ptrB PG 40 = true := by kernel_rfl
theorem TF.ptr_41 : ptrB PG 41 = true := by kernel_rfl
theorem TF.ptr_69 : ptrB PG 69 = true := by kernel_rfl
theorem TF.ptr_91 : ptrB PG 91 = true := by kernel_rfl
theorem TF.ptr_92 : ptrB PG 92 = true := by kernel_rfl
theorem TF.ptr_93 : ptrB PG 93 = true := by kernel_rfl
theorem TF.sl_135 : slT PG 135 = true := by kernel_rfl
theorem TF.sl_164 : slT PG 164 = true := by kernel_rfl
theorem TF.sl_170 : slT PG 170 = true := by kernel_rfl
theorem TF.sl_205 : slT PG 205 = true := by kernel_rfl
theorem TF.sl_217 : slT PG 217 = true := by kernel_rfl
theorem TF.sl_226 : slT PG 226 = true := by kernel_rfl
theorem TF.sl_31 : slT PG 31 = true := by kernel_rfl
theorem TF.slc_135 : slcB PG 135 = some (174, 3, 24) := by kernel_rfl
theorem TF.slc_164 : slcB PG 164 = some (163, 2, 16) := by kernel_rfl
theorem TF.slc_170 : slcB PG 170 = some (169, 2, 16) := by kernel_rfl
theorem TF.slc_205 : slcB PG 205 = some (213, 3, 32) := by kernel_rfl
theorem TF.slc_217 : slcB PG 217 = some (216, 3, 32) := by kernel_rfl
theorem TF.slc_226 : slcB PG 226 = some (5, 1, 1) := by kernel_rfl
theorem TF.slc_31 : slcB PG 31 = some (38, 4, 32) := by kernel_rfl
theorem TF.slc_32 : slcB PG 32 = some (55, 23, 232) := by kernel_rfl
theorem TF.sz_119 : szB PG 119 = some 2 := by kernel_rfl
theorem TF.sz_135 : szB PG 135 = some 1 := by kernel_rfl
theorem TF.sz_163 : szB PG 163 = some 2 := by kernel_rfl
theorem TF.sz_164 : szB PG 164 = some 1 := by kernel_rfl
theorem TF.sz_169 : szB PG 169 = some 2 := by kernel_rfl
theorem TF.sz_170 : szB PG 170 = some 1 := by kernel_rfl
theorem TF.sz_174 : szB PG 174 = some 3 := by kernel_rfl
theorem TF.sz_205 : szB PG 205 = some 1 := by kernel_rfl
theorem TF.sz_213 : szB PG 213 = some 3 := by kernel_rfl
theorem TF.sz_216 : szB PG 216 = some 3 := by kernel_rfl
theorem TF.sz_217 : szB PG 217 = some 1 := by kernel_rfl
theorem TF.sz_26 : szB PG 26 = some 4 := by kernel_rfl
theorem TF.sz_29 : szB PG 29 = some 1 := by kernel_rfl
theorem TF.sz_3 : szB PG 3 = some 1 := by kernel_rfl
theorem TF.sz_30 : szB PG 30 = some 1 := by kernel_rfl
theorem TF.sz_32 : szB PG 32 = some 1 := by kernel_rfl
theorem TF.sz_38 : szB PG 38 = some 4 := by kernel_rfl
theorem TF.sz_5 : szB PG 5 = some 1 := by kernel_rfl
theorem TF.sz_51 : szB PG 51 = some 2 := by kernel_rfl
theorem TF.sz_55 : szB PG 55 = some 23 := by kernel_rfl
theorem TF.sz_56 : szB PG 56 = some 3 := by kernel_rfl
theorem TF.sz_65 : szB PG 65 = some 25 := by kernel_rfl
theorem TF.sz_9 : szB PG 9 = some 1 := by kernel_rfl
theorem TF.sz_95 : szB PG 95 = some 7 := by kernel_rfl
theorem TF.zero_107 : zeroB PG 107 = some [(Value.pointer none), (Value.pointer none), (Value.pointer none), (Value.pointer none), (Value.pointer none), (Value.int .i64 (0)), (Value.int .i64 (0)), (Value.int .i64 (0)), (Value.int .i64 (0)), (Value.pointer none), (Value.pointer none)] := by kernel_rfl
theorem TF.zero_119 : zeroB PG 119 = some [(Value.bool false), (Value.string ByteArray.empty)] := by kernel_rfl
theorem TF.zero_128 : zeroB PG 128 = some [(Value.string ByteArray.empty), (Value.string ByteArray.empty), (Value.string ByteArray.empty), (Value.pointer none)] := by kernel_rfl
theorem TF.zero_137 : zeroB PG 137 = some [(Value.slice none 0 0), (Value.int .i64 (0))] := by kernel_rfl
theorem TF.zero_144 : zeroB PG 144 = some [(Value.slice none 0 0), (Value.slice none 0 0), (Value.slice none 0 0), (Value.slice none 0 0)] := by kernel_rfl
theorem TF.zero_147 : zeroB PG 147 = some [(Value.slice none 0 0)] := by kernel_rfl
theorem TF.zero_163 : zeroB PG 163 = some [(Value.int .i64 (0)), (Value.int .i64 (0))] := by kernel_rfl
theorem TF.zero_166 : zeroB PG 166 = some [(Value.slice none 0 0)] := by kernel_rfl
theorem TF.zero_169 : zeroB PG 169 = some [(Value.int .i64 (0)), (Value.int .i64 (0))] := by kernel_rfl
theorem TF.zero_172 : zeroB PG 172 = some [(Value.slice none 0 0)] := by kernel_rfl
theorem TF.zero_174 : zeroB PG 174 = some [(Value.int .i64 (0)), (Value.int .i64 (0)), (Value.int .i64 (0))] := by kernel_rfl
theorem TF.zero_181 : zeroB PG 181 = some [(Value.int .i64 (0)), (Value.int .i64 (0)), (Value.int .i64 (0))] := by kernel_rfl
theorem TF.zero_184 : zeroB PG 184 = some [(Value.pointer none)] := by kernel_rfl
theorem TF.zero_204 : zeroB PG 204 = some [(Value.pointer none)] := by kernel_rfl
theorem TF.zero_207 : zeroB PG 207 = some [(Value.slice none 0 0)] := by kernel_rfl
theorem TF.zero_213 : zeroB PG 213 = some [(Value.int .i64 (0)), (Value.bool false), (Value.string ByteArray.empty)] := by kernel_rfl
theorem TF.zero_216 : zeroB PG 216 = some [(Value.bool false), (Value.string ByteArray.empty), (Value.int .i64 (0))] := by kernel_rfl
theorem TF.zero_219 : zeroB PG 219 = some [(Value.slice none 0 0)] := by kernel_rfl
theorem TF.zero_26 : zeroB PG 26 = some [(Value.int .i64 (0)), (Value.int .i64 (0)), (Value.int .i64 (0)), (Value.int .i64 (0))] := by kernel_rfl
theorem TF.zero_29 : zeroB PG 29 = some [(Value.pointer none)] := by kernel_rfl
theorem TF.zero_3 : zeroB PG 3 = some [(Value.int .i64 (0))] := by kernel_rfl
theorem TF.zero_34 : zeroB PG 34 = some [(Value.pointer none), (Value.pointer none), (Value.slice none 0 0), (Value.slice none 0 0)] := by kernel_rfl
theorem TF.zero_38 : zeroB PG 38 = some [(Value.int .i64 (0)), (Value.int .i64 (0)), (Value.int .i64 (0)), (Value.int .u8 (0))] := by kernel_rfl
theorem TF.zero_43 : zeroB PG 43 = some [(Value.pointer none), (Value.pointer none), (Value.pointer none), (Value.int .i64 (0))] := by kernel_rfl
theorem TF.zero_5 : zeroB PG 5 = some [(Value.int .u8 (0))] := by kernel_rfl
theorem TF.zero_55 : zeroB PG 55 = some [(Value.int .i64 (0)), (Value.int .i64 (0)), (Value.int .i64 (0)), (Value.int .i64 (0)), (Value.int .i64 (0)), (Value.int .i64 (0)), (Value.int .i64 (0)), (Value.int .i64 (0)), (Value.bool false), (Value.string ByteArray.empty), (Value.bool false), (Value.string ByteArray.empty), (Value.bool false), (Value.string ByteArray.empty), (Value.bool false), (Value.string ByteArray.empty), (Value.bool false), (Value.string ByteArray.empty), (Value.bool false), (Value.string ByteArray.empty), (Value.int .i64 (0)), (Value.int .i64 (0)), (Value.int .i64 (0))] := by kernel_rfl
theorem TF.zero_56 : zeroB PG 56 = some [(Value.string ByteArray.empty), (Value.string ByteArray.empty), (Value.string ByteArray.empty)] := by kernel_rfl
theorem TF.zero_65 : zeroB PG 65 = some (List.replicate 25 (Value.int .i64 (0))) := by kernel_rfl
theorem TF.zero_95 : zeroB PG 95 = some [(Value.pointer none), (Value.pointer none), (Value.pointer none), (Value.int .i64 (0)), (Value.int .i64 (0)), (Value.int .i64 (0)), (Value.int .i64 (0))] := by kernel_rfl
def FT0 : FT := [(100, 0, 0), (100, 1, 1), (107, 0, 0), (107, 1, 1), (107, 2, 2), (107, 3, 9), (107, 4, 10), (119, 0, 0), (119, 1, 1), (128, 0, 0), (128, 1, 3), (132, 1, 12), (132, 2, 24), (137, 0, 0), (137, 1, 1), (144, 0, 0), (144, 1, 1), (144, 2, 2), (144, 3, 3), (147, 0, 0), (152, 0, 0), (152, 1, 7), (152, 2, 11), (163, 0, 0), (163, 1, 1), (166, 0, 0), (169, 0, 0), (169, 1, 1), (172, 0, 0), (174, 0, 0), (174, 1, 1), (174, 2, 2), (181, 0, 0), (184, 0, 0), (204, 0, 0), (207, 0, 0), (213, 0, 0), (213, 1, 1), (216, 0, 0), (216, 1, 2), (219, 0, 0), (247, 1, 1), (34, 0, 0), (34, 1, 1), (34, 2, 2), (34, 3, 3), (38, 0, 0), (38, 1, 1), (38, 2, 2), (38, 3, 3), (43, 0, 0), (43, 1, 1), (43, 2, 2), (43, 3, 3), (48, 0, 0), (48, 1, 1), (48, 2, 5), (51, 0, 0), (51, 1, 1), (55, 0, 0), (55, 1, 8), (55, 2, 20), (65, 0, 0), (65, 1, 24), (78, 0, 0), (78, 1, 1), (78, 2, 5), (95, 0, 0), (95, 1, 1), (95, 2, 2), (95, 3, 3)]
theorem FT0_ok : FTok PG FT0 := ftB_ok (by kernel_rfl)
theorem au {B : RO} {N : Nat} {e : Env} {h : Heap} {Φ : Lv → Env → Heap → Prop} (n : Nat) {t t' : List Item} {L L' : LE} (ha : aut FT0 N n t L = some (t', L')) (hr : Run PG B N t' (updL L' e) h Φ) : Run PG B N t (updL L e) h Φ := aut_run FT0_ok n ha hr
theorem auT {B : RO} {N : Nat} {k : List Item} {e : Env} {h : Heap} {Φ : Lv → Env → Heap → Prop} {ops : Array Oper} {C : Heap → Prop} {z : List Nat} (n : Nat) {t t' : Ord} {L L' : LE} (ha : autT FT0 N ops.toList n t L = some (t', L')) (hr : RunT PG B N ops k Φ C z t' (updL L' e) h) : RunT PG B N ops k Φ C z t (updL L e) h := autT_run FT0_ok n ha hr
abbrev FN.countermandlaw20_AttemptStale : FuncId := 3
abbrev FN.draft_Draft_int_All_1 : FuncId := 85
abbrev FN.draft_by_int : FuncId := 115
abbrev FN.draft_Draft_file_File_All_1 : FuncId := 117
abbrev FN.reads_Set_place_1 : FuncId := 133
abbrev FN.strings_Repeat : FuncId := 136
abbrev FN.draft_by_file_File : FuncId := 152
theorem TG.countermandlaw20_AttemptStale : Goes PG FN.countermandlaw20_AttemptStale := TF.goes_3
theorem TG.draft_Draft_int_All_1 : Goes PG FN.draft_Draft_int_All_1 := TF.goes_85
theorem TG.draft_by_int : Goes PG FN.draft_by_int := TF.goes_115
theorem TG.draft_Draft_file_File_All_1 : Goes PG FN.draft_Draft_file_File_All_1 := TF.goes_117
theorem TG.reads_Set_place_1 : Goes PG FN.reads_Set_place_1 := TF.goes_133
theorem TG.strings_Repeat : Goes PG FN.strings_Repeat := TF.goes_136
theorem TG.draft_by_file_File : Goes PG FN.draft_by_file_File := TF.goes_152
def C_countermandlaw20_AttemptStale (B : RO) (i1 : Int) (i2 : Int) (i3 : Int) (i4 : Int) (h : Heap) (Q : Bool → Heap → Prop) : Prop :=
  Spec PG B 3 #[(Value.int .i64 (i1)), (Value.int .i64 (i2)), (Value.int .i64 (i3)), (Value.int .i64 (i4))] h (fun v h' => ∃ b5 : Bool, v = (Value.bool b5) ∧ Q b5 h')
def C_countermandlaw20_alive (B : RO) (h : Heap) (Q : Bool → Heap → Prop) : Prop :=
  Spec PG B 9 #[] h (fun v h' => ∃ b1 : Bool, v = (Value.bool b1) ∧ Q b1 h')
def C_countermandlaw20_start (B : RO) (a1 : Option Addr) (n2 : Nat) (c3 : Nat) (i4 : Int) (i5 : Int) (i6 : Int) (i7 : Int) (h : Heap) (Q : Option Addr → Heap → Prop) : Prop :=
  Spec PG B 10 #[(Value.slice a1 n2 c3), (Value.agg #[(Value.int .i64 (i4)), (Value.int .i64 (i5)), (Value.int .i64 (i6)), (Value.int .i64 (i7))])] h (fun v h' => ∃ p8 : Option Addr, v = (Value.pointer p8) ∧ Q p8 h')
def C_attempt_Attempt_Load (B : RO) (p1 : Option Addr) (i2 : Int) (h : Heap) (Q : Int → Int → Heap → Prop) : Prop :=
  Spec PG B 11 #[(Value.pointer p1), (Value.int .i64 (i2))] h (fun v h' => ∃ i3 : Int, ∃ i4 : Int, v = Value.tuple #[(Value.int .i64 (i3)), (Value.int .i64 (i4))] ∧ Q i3 i4 h')
def C_countermandlaw20_run_other (B : RO) (p1 : Option Addr) (i2 : Int) (i3 : Int) (i4 : Int) (i5 : Int) (h : Heap) (Q : Heap → Prop) : Prop :=
  Spec PG B 12 #[(Value.pointer p1), (Value.agg #[(Value.int .i64 (i2)), (Value.int .i64 (i3)), (Value.int .i64 (i4)), (Value.int .u8 (i5))])] h (fun v h' => v = Value.tuple #[] ∧ Q  h')
def C_attempt_Attempt_Valid (B : RO) (p1 : Option Addr) (h : Heap) (Q : Bool → Heap → Prop) : Prop :=
  Spec PG B 13 #[(Value.pointer p1)] h (fun v h' => ∃ b2 : Bool, v = (Value.bool b2) ∧ Q b2 h')
def C_attempt_Attempt_Land (B : RO) (p1 : Option Addr) (h : Heap) (Q : Bool → Heap → Prop) : Prop :=
  Spec PG B 14 #[(Value.pointer p1)] h (fun v h' => ∃ b2 : Bool, v = (Value.bool b2) ∧ Q b2 h')
def C_countermandlaw20_things (B : RO) (p1 : Option Addr) (h : Heap) (Q : List Value → ByteArray → ByteArray → ByteArray → Heap → Prop) : Prop :=
  Spec PG B 16 #[(Value.pointer p1)] h (fun v h' => ∃ l2 : List Value, ∃ s3 : ByteArray, ∃ s4 : ByteArray, ∃ s5 : ByteArray, v = Value.tuple #[(Value.agg (List.toArray l2)), (Value.agg #[(Value.string s3), (Value.string s4), (Value.string s5)])] ∧ Q l2 s3 s4 s5 h')
def C_countermandlaw20_does (B : RO) (p1 : Option Addr) (i2 : Int) (i3 : Int) (i4 : Int) (i5 : Int) (h : Heap) (Q : Int → Int → Heap → Prop) : Prop :=
  Spec PG B 17 #[(Value.pointer p1), (Value.agg #[(Value.int .i64 (i2)), (Value.int .i64 (i3)), (Value.int .i64 (i4)), (Value.int .u8 (i5))])] h (fun v h' => ∃ i6 : Int, ∃ i7 : Int, v = Value.tuple #[(Value.int .i64 (i6)), (Value.int .i64 (i7))] ∧ Q i6 i7 h')
def C_attempt_View_Now (B : RO) (p1 : Option Addr) (h : Heap) (Q : List Value → Heap → Prop) : Prop :=
  Spec PG B 20 #[(Value.pointer p1)] h (fun v h' => ∃ l2 : List Value, v = (Value.agg (List.toArray l2)) ∧ Q l2 h')
def C_attempt_Attempt_Store (B : RO) (p1 : Option Addr) (i2 : Int) (i3 : Int) (h : Heap) (Q : Int → Heap → Prop) : Prop :=
  Spec PG B 21 #[(Value.pointer p1), (Value.int .i64 (i2)), (Value.int .i64 (i3))] h (fun v h' => ∃ i4 : Int, v = (Value.int .i64 (i4)) ∧ Q i4 h')
def C_attempt_NewView (B : RO) (h : Heap) (Q : Option Addr → Heap → Prop) : Prop :=
  Spec PG B 24 #[] h (fun v h' => ∃ p1 : Option Addr, v = (Value.pointer p1) ∧ Q p1 h')
def C_attempt_New (B : RO) (p1 : Option Addr) (i2 : Int) (i3 : Int) (i4 : Int) (i5 : Int) (h : Heap) (Q : Option Addr → Heap → Prop) : Prop :=
  Spec PG B 25 #[(Value.pointer p1), (Value.agg #[(Value.int .i64 (i2)), (Value.int .i64 (i3)), (Value.int .i64 (i4)), (Value.int .i64 (i5))])] h (fun v h' => ∃ p6 : Option Addr, v = (Value.pointer p6) ∧ Q p6 h')
def C_draft_Draft_int_Get (B : RO) (p1 : Option Addr) (i2 : Int) (h : Heap) (Q : Int → Bool → Heap → Prop) : Prop :=
  Spec PG B 39 #[(Value.pointer p1), (Value.int .i64 (i2))] h (fun v h' => ∃ i3 : Int, ∃ b4 : Bool, v = Value.tuple #[(Value.int .i64 (i3)), (Value.bool b4)] ∧ Q i3 b4 h')
def C_attempt_Attempt_note (B : RO) (p1 : Option Addr) (i2 : Int) (i3 : Int) (h : Heap) (Q : Int → Heap → Prop) : Prop :=
  Spec PG B 40 #[(Value.pointer p1), (Value.int .i64 (i2)), (Value.int .i64 (i3))] h (fun v h' => ∃ i4 : Int, v = (Value.int .i64 (i4)) ∧ Q i4 h')
def C_cell_Row_int_Get (B : RO) (p1 : Option Addr) (i2 : Int) (h : Heap) (Q : Int → Int → Heap → Prop) : Prop :=
  Spec PG B 41 #[(Value.pointer p1), (Value.int .i64 (i2))] h (fun v h' => ∃ i3 : Int, ∃ i4 : Int, v = Value.tuple #[(Value.int .i64 (i3)), (Value.int .i64 (i4))] ∧ Q i3 i4 h')
def C_reads_Set_Valid (B : RO) (p1 : Option Addr) (l2 : List Value) (h : Heap) (Q : Bool → Heap → Prop) : Prop :=
  Spec PG B 42 #[(Value.pointer p1), (Value.agg (List.toArray l2))] h (fun v h' => ∃ b3 : Bool, v = (Value.bool b3) ∧ Q b3 h')
def C_draft_Draft_int_All (B : RO) (p1 : Option Addr) (h : Heap) (Q : Value → Heap → Prop) : Prop :=
  Spec PG B 43 #[(Value.pointer p1)] h (fun v h' => ∃ v2 : Value, v = v2 ∧ Q v2 h')
def C_cell_Row_int_Set (B : RO) (p1 : Option Addr) (i2 : Int) (i3 : Int) (i4 : Int) (h : Heap) (Q : Bool → Heap → Prop) : Prop :=
  Spec PG B 44 #[(Value.pointer p1), (Value.int .i64 (i2)), (Value.int .i64 (i3)), (Value.int .i64 (i4))] h (fun v h' => ∃ b5 : Bool, v = (Value.bool b5) ∧ Q b5 h')
def C_sheet_Sheet_Over (B : RO) (p1 : Option Addr) (p2 : Option Addr) (i3 : Int) (h : Heap) (Q : Int → Heap → Prop) : Prop :=
  Spec PG B 45 #[(Value.pointer p1), (Value.pointer p2), (Value.int .i64 (i3))] h (fun v h' => ∃ i4 : Int, v = (Value.int .i64 (i4)) ∧ Q i4 h')
def C_cursor_Cursor_Read (B : RO) (p1 : Option Addr) (i2 : Int) (h : Heap) (Q : Int → Heap → Prop) : Prop :=
  Spec PG B 46 #[(Value.pointer p1), (Value.int .i64 (i2))] h (fun v h' => ∃ i3 : Int, v = (Value.int .i64 (i3)) ∧ Q i3 h')
def C_feed_Feed_Place (B : RO) (p1 : Option Addr) (i2 : Int) (h : Heap) (Q : Int → Int → Heap → Prop) : Prop :=
  Spec PG B 47 #[(Value.pointer p1), (Value.int .i64 (i2))] h (fun v h' => ∃ i3 : Int, ∃ i4 : Int, v = Value.tuple #[(Value.int .i64 (i3)), (Value.int .i64 (i4))] ∧ Q i3 i4 h')
def C_feed_Feed_Take (B : RO) (p1 : Option Addr) (i2 : Int) (i3 : Int) (i4 : Int) (h : Heap) (Q : Bool → Heap → Prop) : Prop :=
  Spec PG B 48 #[(Value.pointer p1), (Value.int .i64 (i2)), (Value.int .i64 (i3)), (Value.int .i64 (i4))] h (fun v h' => ∃ b5 : Bool, v = (Value.bool b5) ∧ Q b5 h')
def C_tome_Tome_Get (B : RO) (p1 : Option Addr) (i2 : Int) (h : Heap) (Q : Bool → ByteArray → Int → Heap → Prop) : Prop :=
  Spec PG B 49 #[(Value.pointer p1), (Value.int .i64 (i2))] h (fun v h' => ∃ b3 : Bool, ∃ s4 : ByteArray, ∃ i5 : Int, v = Value.tuple #[(Value.agg #[(Value.bool b3), (Value.string s4)]), (Value.int .i64 (i5))] ∧ Q b3 s4 i5 h')
def C_feed_Feed_Text (B : RO) (p1 : Option Addr) (i2 : Int) (h : Heap) (Q : ByteArray → Heap → Prop) : Prop :=
  Spec PG B 50 #[(Value.pointer p1), (Value.int .i64 (i2))] h (fun v h' => ∃ s3 : ByteArray, v = (Value.string s3) ∧ Q s3 h')
def C_attempt_Attempt_Read (B : RO) (p1 : Option Addr) (i2 : Int) (i3 : Int) (h : Heap) (Q : Int → Int → Heap → Prop) : Prop :=
  Spec PG B 51 #[(Value.pointer p1), (Value.int .i64 (i2)), (Value.int .i64 (i3))] h (fun v h' => ∃ i4 : Int, ∃ i5 : Int, v = Value.tuple #[(Value.int .i64 (i4)), (Value.int .i64 (i5))] ∧ Q i4 i5 h')
def C_attempt_Attempt_Write (B : RO) (p1 : Option Addr) (i2 : Int) (i3 : Int) (i4 : Int) (h : Heap) (Q : Int → Heap → Prop) : Prop :=
  Spec PG B 52 #[(Value.pointer p1), (Value.int .i64 (i2)), (Value.int .i64 (i3)), (Value.int .u8 (i4))] h (fun v h' => ∃ i5 : Int, v = (Value.int .i64 (i5)) ∧ Q i5 h')
def C_attempt_Attempt_Create (B : RO) (p1 : Option Addr) (i2 : Int) (h : Heap) (Q : Int → Heap → Prop) : Prop :=
  Spec PG B 53 #[(Value.pointer p1), (Value.int .i64 (i2))] h (fun v h' => ∃ i3 : Int, v = (Value.int .i64 (i3)) ∧ Q i3 h')
def C_attempt_Attempt_Remove (B : RO) (p1 : Option Addr) (i2 : Int) (h : Heap) (Q : Int → Heap → Prop) : Prop :=
  Spec PG B 54 #[(Value.pointer p1), (Value.int .i64 (i2))] h (fun v h' => ∃ i3 : Int, v = (Value.int .i64 (i3)) ∧ Q i3 h')
def C_attempt_Attempt_Rename (B : RO) (p1 : Option Addr) (i2 : Int) (i3 : Int) (h : Heap) (Q : Int → Heap → Prop) : Prop :=
  Spec PG B 55 #[(Value.pointer p1), (Value.int .i64 (i2)), (Value.int .i64 (i3))] h (fun v h' => ∃ i4 : Int, v = (Value.int .i64 (i4)) ∧ Q i4 h')
def C_attempt_Attempt_Cut (B : RO) (p1 : Option Addr) (i2 : Int) (i3 : Int) (h : Heap) (Q : Int → Heap → Prop) : Prop :=
  Spec PG B 56 #[(Value.pointer p1), (Value.int .i64 (i2)), (Value.int .i64 (i3))] h (fun v h' => ∃ i4 : Int, v = (Value.int .i64 (i4)) ∧ Q i4 h')
def C_attempt_Attempt_Recv (B : RO) (p1 : Option Addr) (i2 : Int) (h : Heap) (Q : Int → Int → Heap → Prop) : Prop :=
  Spec PG B 57 #[(Value.pointer p1), (Value.int .i64 (i2))] h (fun v h' => ∃ i3 : Int, ∃ i4 : Int, v = Value.tuple #[(Value.int .i64 (i3)), (Value.int .i64 (i4))] ∧ Q i3 i4 h')
def C_feed_Feed_is (B : RO) (p1 : Option Addr) (i2 : Int) (h : Heap) (Q : Bool → Heap → Prop) : Prop :=
  Spec PG B 58 #[(Value.pointer p1), (Value.int .i64 (i2))] h (fun v h' => ∃ b3 : Bool, v = (Value.bool b3) ∧ Q b3 h')
def C_cell_Row_int_Version (B : RO) (p1 : Option Addr) (i2 : Int) (h : Heap) (Q : Int → Heap → Prop) : Prop :=
  Spec PG B 65 #[(Value.pointer p1), (Value.int .i64 (i2))] h (fun v h' => ∃ i3 : Int, v = (Value.int .i64 (i3)) ∧ Q i3 h')
def C_draft_Draft_int_Put (B : RO) (p1 : Option Addr) (i2 : Int) (i3 : Int) (h : Heap) (Q : Bool → Heap → Prop) : Prop :=
  Spec PG B 66 #[(Value.pointer p1), (Value.int .i64 (i2)), (Value.int .i64 (i3))] h (fun v h' => ∃ b4 : Bool, v = (Value.bool b4) ∧ Q b4 h')
def C_cell_New_int (B : RO) (i1 : Int) (i2 : Int) (h : Heap) (Q : Option Addr → Heap → Prop) : Prop :=
  Spec PG B 67 #[(Value.int .i64 (i1)), (Value.int .i64 (i2))] h (fun v h' => ∃ p3 : Option Addr, v = (Value.pointer p3) ∧ Q p3 h')
def C_tome_New (B : RO) (h : Heap) (Q : Option Addr → Heap → Prop) : Prop :=
  Spec PG B 68 #[] h (fun v h' => ∃ p1 : Option Addr, v = (Value.pointer p1) ∧ Q p1 h')
def C_feed_New (B : RO) (h : Heap) (Q : Option Addr → Heap → Prop) : Prop :=
  Spec PG B 69 #[] h (fun v h' => ∃ p1 : Option Addr, v = (Value.pointer p1) ∧ Q p1 h')
def C_reads_New (B : RO) (i1 : Int) (h : Heap) (Q : Option Addr → Heap → Prop) : Prop :=
  Spec PG B 70 #[(Value.int .i64 (i1))] h (fun v h' => ∃ p2 : Option Addr, v = (Value.pointer p2) ∧ Q p2 h')
def C_mark_Fresh (B : RO) (i1 : Int) (i2 : Int) (i3 : Int) (i4 : Int) (h : Heap) (Q : Option Addr → Option Addr → Option Addr → Int → Int → Int → Int → Heap → Prop) : Prop :=
  Spec PG B 71 #[(Value.agg #[(Value.int .i64 (i1)), (Value.int .i64 (i2)), (Value.int .i64 (i3)), (Value.int .i64 (i4))])] h (fun v h' => ∃ p5 : Option Addr, ∃ p6 : Option Addr, ∃ p7 : Option Addr, ∃ i8 : Int, ∃ i9 : Int, ∃ i10 : Int, ∃ i11 : Int, v = (Value.agg #[(Value.pointer p5), (Value.pointer p6), (Value.pointer p7), (Value.int .i64 (i8)), (Value.int .i64 (i9)), (Value.int .i64 (i10)), (Value.int .i64 (i11))]) ∧ Q p5 p6 p7 i8 i9 i10 i11 h')
def C_sheet_Sheet_Draft (B : RO) (p1 : Option Addr) (h : Heap) (Q : Option Addr → Heap → Prop) : Prop :=
  Spec PG B 78 #[(Value.pointer p1)] h (fun v h' => ∃ p2 : Option Addr, v = (Value.pointer p2) ∧ Q p2 h')
def C_draft_Draft_int_find (B : RO) (p1 : Option Addr) (i2 : Int) (h : Heap) (Q : Int → Bool → Heap → Prop) : Prop :=
  Spec PG B 81 #[(Value.pointer p1), (Value.int .i64 (i2))] h (fun v h' => ∃ i3 : Int, ∃ b4 : Bool, v = Value.tuple #[(Value.int .i64 (i3)), (Value.bool b4)] ∧ Q i3 b4 h')
def C_reads_Set_Note (B : RO) (p1 : Option Addr) (l2 : List Value) (i3 : Int) (i4 : Int) (h : Heap) (Q : Bool → Heap → Prop) : Prop :=
  Spec PG B 82 #[(Value.pointer p1), (Value.agg (List.toArray l2)), (Value.int .i64 (i3)), (Value.int .i64 (i4))] h (fun v h' => ∃ b5 : Bool, v = (Value.bool b5) ∧ Q b5 h')
def C_cell_Row_int_is (B : RO) (p1 : Option Addr) (i2 : Int) (h : Heap) (Q : Bool → Heap → Prop) : Prop :=
  Spec PG B 83 #[(Value.pointer p1), (Value.int .i64 (i2))] h (fun v h' => ∃ b3 : Bool, v = (Value.bool b3) ∧ Q b3 h')
def C_reads_Now_Of (B : RO) (l1 : List Value) (i2 : Int) (i3 : Int) (h : Heap) (Q : Int → Heap → Prop) : Prop :=
  Spec PG B 84 #[(Value.agg (List.toArray l1)), (Value.int .i64 (i2)), (Value.int .i64 (i3))] h (fun v h' => ∃ i4 : Int, v = (Value.int .i64 (i4)) ∧ Q i4 h')
def C_draft_Draft_int_All_1 (B : RO) (v1 : Value) (A2 : Addr) (h : Heap) (Q : Heap → Prop) : Prop :=
  Spec PG B 85 #[v1, (Value.pointer (some A2))] h (fun v h' => v = Value.tuple #[] ∧ Q  h')
def C_draft_Draft_file_File_All (B : RO) (p1 : Option Addr) (h : Heap) (Q : Value → Heap → Prop) : Prop :=
  Spec PG B 86 #[(Value.pointer p1)] h (fun v h' => ∃ v2 : Value, v = v2 ∧ Q v2 h')
def C_tome_Tome_Set (B : RO) (p1 : Option Addr) (i2 : Int) (b3 : Bool) (s4 : ByteArray) (i5 : Int) (h : Heap) (Q : Bool → Heap → Prop) : Prop :=
  Spec PG B 87 #[(Value.pointer p1), (Value.int .i64 (i2)), (Value.agg #[(Value.bool b3), (Value.string s4)]), (Value.int .i64 (i5))] h (fun v h' => ∃ b6 : Bool, v = (Value.bool b6) ∧ Q b6 h')
def C_cursor_is (B : RO) (i1 : Int) (h : Heap) (Q : Bool → Heap → Prop) : Prop :=
  Spec PG B 88 #[(Value.int .i64 (i1))] h (fun v h' => ∃ b2 : Bool, v = (Value.bool b2) ∧ Q b2 h')
def C_cell_Row_file_File_Get (B : RO) (p1 : Option Addr) (i2 : Int) (h : Heap) (Q : Bool → ByteArray → Int → Heap → Prop) : Prop :=
  Spec PG B 89 #[(Value.pointer p1), (Value.int .i64 (i2))] h (fun v h' => ∃ b3 : Bool, ∃ s4 : ByteArray, ∃ i5 : Int, v = Value.tuple #[(Value.agg #[(Value.bool b3), (Value.string s4)]), (Value.int .i64 (i5))] ∧ Q b3 s4 i5 h')
def C_attempt_Attempt_touch (B : RO) (p1 : Option Addr) (i2 : Int) (h : Heap) (Q : Bool → ByteArray → Int → Heap → Prop) : Prop :=
  Spec PG B 90 #[(Value.pointer p1), (Value.int .i64 (i2))] h (fun v h' => ∃ b3 : Bool, ∃ s4 : ByteArray, ∃ i5 : Int, v = Value.tuple #[(Value.agg #[(Value.bool b3), (Value.string s4)]), (Value.int .i64 (i5))] ∧ Q b3 s4 i5 h')
def C_file_At (B : RO) (b1 : Bool) (s2 : ByteArray) (i3 : Int) (h : Heap) (Q : Int → Heap → Prop) : Prop :=
  Spec PG B 91 #[(Value.agg #[(Value.bool b1), (Value.string s2)]), (Value.int .i64 (i3))] h (fun v h' => ∃ i4 : Int, v = (Value.int .i64 (i4)) ∧ Q i4 h')
def C_sheet_Sheet_Write (B : RO) (p1 : Option Addr) (p2 : Option Addr) (i3 : Int) (i4 : Int) (i5 : Int) (h : Heap) (Q : Bool → Heap → Prop) : Prop :=
  Spec PG B 92 #[(Value.pointer p1), (Value.pointer p2), (Value.int .i64 (i3)), (Value.int .i64 (i4)), (Value.int .u8 (i5))] h (fun v h' => ∃ b6 : Bool, v = (Value.bool b6) ∧ Q b6 h')
def C_sheet_Sheet_Create (B : RO) (p1 : Option Addr) (p2 : Option Addr) (i3 : Int) (h : Heap) (Q : Bool → Heap → Prop) : Prop :=
  Spec PG B 93 #[(Value.pointer p1), (Value.pointer p2), (Value.int .i64 (i3))] h (fun v h' => ∃ b4 : Bool, v = (Value.bool b4) ∧ Q b4 h')
def C_sheet_Sheet_Remove (B : RO) (p1 : Option Addr) (p2 : Option Addr) (i3 : Int) (h : Heap) (Q : Bool → Heap → Prop) : Prop :=
  Spec PG B 94 #[(Value.pointer p1), (Value.pointer p2), (Value.int .i64 (i3))] h (fun v h' => ∃ b4 : Bool, v = (Value.bool b4) ∧ Q b4 h')
def C_sheet_Sheet_Rename (B : RO) (p1 : Option Addr) (p2 : Option Addr) (i3 : Int) (i4 : Int) (h : Heap) (Q : Bool → Heap → Prop) : Prop :=
  Spec PG B 95 #[(Value.pointer p1), (Value.pointer p2), (Value.int .i64 (i3)), (Value.int .i64 (i4))] h (fun v h' => ∃ b5 : Bool, v = (Value.bool b5) ∧ Q b5 h')
def C_sheet_Sheet_Cut (B : RO) (p1 : Option Addr) (p2 : Option Addr) (i3 : Int) (i4 : Int) (h : Heap) (Q : Bool → Heap → Prop) : Prop :=
  Spec PG B 96 #[(Value.pointer p1), (Value.pointer p2), (Value.int .i64 (i3)), (Value.int .i64 (i4))] h (fun v h' => ∃ b5 : Bool, v = (Value.bool b5) ∧ Q b5 h')
def C_feed_Feed_At (B : RO) (p1 : Option Addr) (i2 : Int) (i3 : Int) (h : Heap) (Q : Int → Heap → Prop) : Prop :=
  Spec PG B 97 #[(Value.pointer p1), (Value.int .i64 (i2)), (Value.int .i64 (i3))] h (fun v h' => ∃ i4 : Int, v = (Value.int .i64 (i4)) ∧ Q i4 h')
def C_cursor_Cursor_At (B : RO) (p1 : Option Addr) (i2 : Int) (i3 : Int) (h : Heap) (Q : Int → Heap → Prop) : Prop :=
  Spec PG B 98 #[(Value.pointer p1), (Value.int .i64 (i2)), (Value.int .i64 (i3))] h (fun v h' => ∃ i4 : Int, v = (Value.int .i64 (i4)) ∧ Q i4 h')
def C_cursor_Cursor_Step (B : RO) (p1 : Option Addr) (i2 : Int) (h : Heap) (Q : Bool → Heap → Prop) : Prop :=
  Spec PG B 99 #[(Value.pointer p1), (Value.int .i64 (i2))] h (fun v h' => ∃ b3 : Bool, v = (Value.bool b3) ∧ Q b3 h')
def C_slices_Insert_s_draft_entry_int_draft_entry_int (B : RO) (a1 : Option Addr) (n2 : Nat) (c3 : Nat) (i4 : Int) (a5 : Option Addr) (n6 : Nat) (c7 : Nat) (h : Heap) (Q : Option Addr → Nat → Nat → Heap → Prop) : Prop :=
  Spec PG B 104 #[(Value.slice a1 n2 c3), (Value.int .i64 (i4)), (Value.slice a5 n6 c7)] h (fun v h' => ∃ a8 : Option Addr, ∃ n9 : Nat, ∃ c10 : Nat, v = (Value.slice a8 n9 c10) ∧ Q a8 n9 c10 h')
def C_cell_New_file_File (B : RO) (i1 : Int) (b2 : Bool) (s3 : ByteArray) (h : Heap) (Q : Option Addr → Heap → Prop) : Prop :=
  Spec PG B 105 #[(Value.int .i64 (i1)), (Value.agg #[(Value.bool b2), (Value.string s3)])] h (fun v h' => ∃ p4 : Option Addr, v = (Value.pointer p4) ∧ Q p4 h')
def C_sheet_New (B : RO) (h : Heap) (Q : Option Addr → Heap → Prop) : Prop :=
  Spec PG B 106 #[] h (fun v h' => ∃ p1 : Option Addr, v = (Value.pointer p1) ∧ Q p1 h')
def C_slices_BinarySearchFunc_s_draft_entry_int_draft_entry_int_int (B : RO) (a1 : Option Addr) (n2 : Nat) (c3 : Nat) (i4 : Int) (v5 : Value) (h : Heap) (Q : Int → Bool → Heap → Prop) : Prop :=
  Spec PG B 114 #[(Value.slice a1 n2 c3), (Value.int .i64 (i4)), v5] h (fun v h' => ∃ i6 : Int, ∃ b7 : Bool, v = Value.tuple #[(Value.int .i64 (i6)), (Value.bool b7)] ∧ Q i6 b7 h')
def C_draft_by_int (B : RO) (i1 : Int) (i2 : Int) (i3 : Int) (h : Heap) (Q : Int → Heap → Prop) : Prop :=
  Spec PG B 115 #[(Value.agg #[(Value.int .i64 (i1)), (Value.int .i64 (i2))]), (Value.int .i64 (i3))] h (fun v h' => ∃ i4 : Int, v = (Value.int .i64 (i4)) ∧ Q i4 h')
def C_reads_Set_place (B : RO) (p1 : Option Addr) (i2 : Int) (i3 : Int) (h : Heap) (Q : Int → Heap → Prop) : Prop :=
  Spec PG B 116 #[(Value.pointer p1), (Value.int .i64 (i2)), (Value.int .i64 (i3))] h (fun v h' => ∃ i4 : Int, v = (Value.int .i64 (i4)) ∧ Q i4 h')
def C_draft_Draft_file_File_All_1 (B : RO) (v1 : Value) (A2 : Addr) (h : Heap) (Q : Heap → Prop) : Prop :=
  Spec PG B 117 #[v1, (Value.pointer (some A2))] h (fun v h' => v = Value.tuple #[] ∧ Q  h')
def C_file_Good (B : RO) (b1 : Bool) (s2 : ByteArray) (h : Heap) (Q : Bool → Heap → Prop) : Prop :=
  Spec PG B 118 #[(Value.agg #[(Value.bool b1), (Value.string s2)])] h (fun v h' => ∃ b3 : Bool, v = (Value.bool b3) ∧ Q b3 h')
def C_cell_Row_file_File_Set (B : RO) (p1 : Option Addr) (i2 : Int) (b3 : Bool) (s4 : ByteArray) (i5 : Int) (h : Heap) (Q : Bool → Heap → Prop) : Prop :=
  Spec PG B 119 #[(Value.pointer p1), (Value.int .i64 (i2)), (Value.agg #[(Value.bool b3), (Value.string s4)]), (Value.int .i64 (i5))] h (fun v h' => ∃ b6 : Bool, v = (Value.bool b6) ∧ Q b6 h')
def C_cell_Row_file_File_is (B : RO) (p1 : Option Addr) (i2 : Int) (h : Heap) (Q : Bool → Heap → Prop) : Prop :=
  Spec PG B 120 #[(Value.pointer p1), (Value.int .i64 (i2))] h (fun v h' => ∃ b3 : Bool, v = (Value.bool b3) ∧ Q b3 h')
def C_sheet_Sheet_Get (B : RO) (p1 : Option Addr) (p2 : Option Addr) (i3 : Int) (h : Heap) (Q : Bool → ByteArray → Bool → Heap → Prop) : Prop :=
  Spec PG B 121 #[(Value.pointer p1), (Value.pointer p2), (Value.int .i64 (i3))] h (fun v h' => ∃ b4 : Bool, ∃ s5 : ByteArray, ∃ b6 : Bool, v = Value.tuple #[(Value.agg #[(Value.bool b4), (Value.string s5)]), (Value.bool b6)] ∧ Q b4 s5 b6 h')
def C_sheet_Sheet_put (B : RO) (p1 : Option Addr) (p2 : Option Addr) (i3 : Int) (b4 : Bool) (s5 : ByteArray) (h : Heap) (Q : Bool → Heap → Prop) : Prop :=
  Spec PG B 122 #[(Value.pointer p1), (Value.pointer p2), (Value.int .i64 (i3)), (Value.agg #[(Value.bool b4), (Value.string s5)])] h (fun v h' => ∃ b6 : Bool, v = (Value.bool b6) ∧ Q b6 h')
def C_file_Put (B : RO) (b1 : Bool) (s2 : ByteArray) (i3 : Int) (i4 : Int) (h : Heap) (Q : Bool → ByteArray → Heap → Prop) : Prop :=
  Spec PG B 123 #[(Value.agg #[(Value.bool b1), (Value.string s2)]), (Value.int .i64 (i3)), (Value.int .u8 (i4))] h (fun v h' => ∃ b5 : Bool, ∃ s6 : ByteArray, v = (Value.agg #[(Value.bool b5), (Value.string s6)]) ∧ Q b5 s6 h')
def C_file_Make (B : RO) (b1 : Bool) (s2 : ByteArray) (h : Heap) (Q : Bool → ByteArray → Heap → Prop) : Prop :=
  Spec PG B 124 #[(Value.agg #[(Value.bool b1), (Value.string s2)])] h (fun v h' => ∃ b3 : Bool, ∃ s4 : ByteArray, v = (Value.agg #[(Value.bool b3), (Value.string s4)]) ∧ Q b3 s4 h')
def C_file_Cut (B : RO) (b1 : Bool) (s2 : ByteArray) (i3 : Int) (h : Heap) (Q : Bool → ByteArray → Heap → Prop) : Prop :=
  Spec PG B 125 #[(Value.agg #[(Value.bool b1), (Value.string s2)]), (Value.int .i64 (i3))] h (fun v h' => ∃ b4 : Bool, ∃ s5 : ByteArray, v = (Value.agg #[(Value.bool b4), (Value.string s5)]) ∧ Q b4 s5 h')
def C_slices_rotateRight_draft_entry_int (B : RO) (a1 : Option Addr) (n2 : Nat) (c3 : Nat) (i4 : Int) (h : Heap) (Q : Heap → Prop) : Prop :=
  Spec PG B 127 #[(Value.slice a1 n2 c3), (Value.int .i64 (i4))] h (fun v h' => v = Value.tuple #[] ∧ Q  h')
def C_slices_IndexFunc_s_reads_Entry_reads_Entry (B : RO) (a1 : Option Addr) (n2 : Nat) (c3 : Nat) (v4 : Value) (h : Heap) (Q : Int → Heap → Prop) : Prop :=
  Spec PG B 132 #[(Value.slice a1 n2 c3), v4] h (fun v h' => ∃ i5 : Int, v = (Value.int .i64 (i5)) ∧ Q i5 h')
def C_reads_Set_place_1 (B : RO) (i1 : Int) (i2 : Int) (i3 : Int) (A4 : Addr) (A5 : Addr) (h : Heap) (Q : Bool → Heap → Prop) : Prop :=
  Spec PG B 133 #[(Value.agg #[(Value.int .i64 (i1)), (Value.int .i64 (i2)), (Value.int .i64 (i3))]), (Value.pointer (some A4)), (Value.pointer (some A5))] h (fun v h' => ∃ b6 : Bool, v = (Value.bool b6) ∧ Q b6 h')
def C_draft_Draft_file_File_Get (B : RO) (p1 : Option Addr) (i2 : Int) (h : Heap) (Q : Bool → ByteArray → Bool → Heap → Prop) : Prop :=
  Spec PG B 134 #[(Value.pointer p1), (Value.int .i64 (i2))] h (fun v h' => ∃ b3 : Bool, ∃ s4 : ByteArray, ∃ b5 : Bool, v = Value.tuple #[(Value.agg #[(Value.bool b3), (Value.string s4)]), (Value.bool b5)] ∧ Q b3 s4 b5 h')
def C_draft_Draft_file_File_Put (B : RO) (p1 : Option Addr) (i2 : Int) (b3 : Bool) (s4 : ByteArray) (h : Heap) (Q : Bool → Heap → Prop) : Prop :=
  Spec PG B 135 #[(Value.pointer p1), (Value.int .i64 (i2)), (Value.agg #[(Value.bool b3), (Value.string s4)])] h (fun v h' => ∃ b5 : Bool, v = (Value.bool b5) ∧ Q b5 h')
def C_strings_Repeat (B : RO) (s1 : ByteArray) (i2 : Int) (h : Heap) (Q : ByteArray → Heap → Prop) : Prop :=
  Spec PG B 136 #[(Value.string s1), (Value.int .i64 (i2))] h (fun v h' => ∃ s3 : ByteArray, v = (Value.string s3) ∧ Q s3 h')
def C_draft_Draft_file_File_find (B : RO) (p1 : Option Addr) (i2 : Int) (h : Heap) (Q : Int → Bool → Heap → Prop) : Prop :=
  Spec PG B 141 #[(Value.pointer p1), (Value.int .i64 (i2))] h (fun v h' => ∃ i3 : Int, ∃ b4 : Bool, v = Value.tuple #[(Value.int .i64 (i3)), (Value.bool b4)] ∧ Q i3 b4 h')
def C_slices_Insert_s_draft_entry_file_File_draft_entry_file_File (B : RO) (a1 : Option Addr) (n2 : Nat) (c3 : Nat) (i4 : Int) (a5 : Option Addr) (n6 : Nat) (c7 : Nat) (h : Heap) (Q : Option Addr → Nat → Nat → Heap → Prop) : Prop :=
  Spec PG B 142 #[(Value.slice a1 n2 c3), (Value.int .i64 (i4)), (Value.slice a5 n6 c7)] h (fun v h' => ∃ a8 : Option Addr, ∃ n9 : Nat, ∃ c10 : Nat, v = (Value.slice a8 n9 c10) ∧ Q a8 n9 c10 h')
def C_slices_BinarySearchFunc_s_draft_entry_file_File_draft_entry_file_File_int (B : RO) (a1 : Option Addr) (n2 : Nat) (c3 : Nat) (i4 : Int) (v5 : Value) (h : Heap) (Q : Int → Bool → Heap → Prop) : Prop :=
  Spec PG B 151 #[(Value.slice a1 n2 c3), (Value.int .i64 (i4)), v5] h (fun v h' => ∃ i6 : Int, ∃ b7 : Bool, v = Value.tuple #[(Value.int .i64 (i6)), (Value.bool b7)] ∧ Q i6 b7 h')
def C_draft_by_file_File (B : RO) (i1 : Int) (b2 : Bool) (s3 : ByteArray) (i4 : Int) (h : Heap) (Q : Int → Heap → Prop) : Prop :=
  Spec PG B 152 #[(Value.agg #[(Value.int .i64 (i1)), (Value.bool b2), (Value.string s3)]), (Value.int .i64 (i4))] h (fun v h' => ∃ i5 : Int, v = (Value.int .i64 (i5)) ∧ Q i5 h')
def C_slices_rotateRight_draft_entry_file_File (B : RO) (a1 : Option Addr) (n2 : Nat) (c3 : Nat) (i4 : Int) (h : Heap) (Q : Heap → Prop) : Prop :=
  Spec PG B 154 #[(Value.slice a1 n2 c3), (Value.int .i64 (i4))] h (fun v h' => v = Value.tuple #[] ∧ Q  h')
end Go.Proofs.YtgldgabefiialaaGreat.H
namespace Go.Proofs.YtgldgabefiialaaGreat.H
open Go
set_option linter.unusedVariables false
set_option maxRecDepth 100000
set_option maxHeartbeats 4000000
def S_countermandlaw20_AttemptStale_J2 (B : RO) (i1 : Int) (i2 : Int) (i3 : Int) (i4 : Int) (p11 : Option Addr) (h13 : Heap) (Q : Bool → Heap → Prop) : Prop :=
 C_countermandlaw20_run_other B p11 (1) (i1) (i3) (0) h13 (fun h14 =>
 ∃ A15 : Addr, p11 = some A15 ∧
 ∃ p17 : Option Addr, cellH B h14 (Addr.add A15 1) = some (.pointer p17) ∧
 C_attempt_Attempt_Valid B p17 h14 (fun b19 h18 =>
 (b19 = true →
 Fin B h18 (Q (false))) ∧ (b19 = false →
 ∃ A20 : Addr, p11 = some A20 ∧
 ∃ p22 : Option Addr, cellH B h18 (Addr.add A20 1) = some (.pointer p22) ∧
 C_attempt_Attempt_Load B p22 (i2) h18 (fun i24 i25 h23 =>
 C_countermandlaw20_run_other B p11 (1) (i2) (i4) (0) h23 (fun h26 =>
 ∃ A27 : Addr, p11 = some A27 ∧
 ∃ p29 : Option Addr, cellH B h26 (Addr.add A27 1) = some (.pointer p29) ∧
 C_attempt_Attempt_Load B p29 (i2) h26 (fun i31 i32 h30 =>
 ∃ A33 : Addr, p11 = some A33 ∧
 ∃ p35 : Option Addr, cellH B h30 (Addr.add A33 1) = some (.pointer p35) ∧
 C_attempt_Attempt_Load B p35 (i1) h30 (fun i37 i38 h36 =>
 ((i24 : Int) = 0 →
 ((i25 : Int) = 0 →
 ((i32 : Int) = 9 →
 ((i38 : Int) = 9 →
 ∃ A39 : Addr, p11 = some A39 ∧
 ∃ p41 : Option Addr, cellH B h36 (Addr.add A39 1) = some (.pointer p41) ∧
 C_attempt_Attempt_Land B p41 h36 (fun b43 h42 =>
 (b43 = true →
 Fin B h42 (Q (false))) ∧ (b43 = false →
 ∃ A44 : Addr, p11 = some A44 ∧
 ∃ p46 : Option Addr, cellH B h42 A44 = some (.pointer p46) ∧
 ∃ A47 : Addr, p46 = some A47 ∧
 ∃ i49 : Int, cellH B h42 (Addr.add A47 3) = some (.int .i64 (i49)) ∧
 Fin B h42 (Q (((i49 : Int) == (2))))))) ∧ (¬ ((i38 : Int) = 9) →
 Fin B h36 (Q (false)))) ∧ (¬ ((i32 : Int) = 9) →
 Fin B h36 (Q (false)))) ∧ (¬ ((i25 : Int) = 0) →
 Fin B h36 (Q (false)))) ∧ (¬ ((i24 : Int) = 0) →
 Fin B h36 (Q (false))))))))))
def S_countermandlaw20_AttemptStale_J1 (B : RO) (i1 : Int) (i2 : Int) (i3 : Int) (i4 : Int) (h9 : Heap) (Q : Bool → Heap → Prop) : Prop :=
 C_countermandlaw20_start B none 0 0 (0) (0) (0) (0) h9 (fun p11 h10 =>
 ∃ A50 : Addr, p11 = some A50 ∧
 ∃ p52 : Option Addr, cellH B h10 (Addr.add A50 1) = some (.pointer p52) ∧
 C_attempt_Attempt_Load B p52 (i1) h10 (fun i54 i55 h53 =>
 ((i54 : Int) = 0 →
 ((i55 : Int) = 0 →
 Fin B h53 (fun h' => S_countermandlaw20_AttemptStale_J2 B i1 i2 i3 i4 p11 h' Q)) ∧ (¬ ((i55 : Int) = 0) →
 Fin B h53 (Q (false)))) ∧ (¬ ((i54 : Int) = 0) →
 Fin B h53 (Q (false)))))
def S_countermandlaw20_AttemptStale (B : RO) (i1 : Int) (i2 : Int) (i3 : Int) (i4 : Int) (h : Heap) (Q : Bool → Heap → Prop) : Prop :=
 C_countermandlaw20_alive B h (fun b7 h6 =>
 (b7 = true →
 ((i1 : Int) < (0) →
 Fin B h6 (Q (true))) ∧ (¬ ((i1 : Int) < (0)) →
 ((i1 : Int) > (7) →
 Fin B h6 (Q (true))) ∧ (¬ ((i1 : Int) > (7)) →
 ((i2 : Int) < (0) →
 Fin B h6 (Q (true))) ∧ (¬ ((i2 : Int) < (0)) →
 ((i2 : Int) > (7) →
 Fin B h6 (Q (true))) ∧ (¬ ((i2 : Int) > (7)) →
 ((i1 : Int) = i2 →
 Fin B h6 (Q (true))) ∧ (¬ ((i1 : Int) = i2) →
 Fin B h6 (fun h' => S_countermandlaw20_AttemptStale_J1 B i1 i2 i3 i4 h' Q))))))) ∧ (b7 = false →
 Fin B h6 (Q (false))))
def S_countermandlaw20_alive (B : RO) (h : Heap) (Q : Bool → Heap → Prop) : Prop :=
 C_attempt_NewView B h (fun p3 h2 =>
 C_attempt_New B p3 (0) (0) (0) (0) h2 (fun p5 h4 =>
 C_attempt_New B p3 (0) (0) (0) (0) h4 (fun p7 h6 =>
 C_attempt_Attempt_Store B p5 (0) (5) h6 (fun i9 h8 =>
 ((i9 : Int) = 0 →
 C_attempt_Attempt_Load B p5 (0) h8 (fun i11 i12 h10 =>
 C_attempt_Attempt_Load B p7 (0) h10 (fun i14 i15 h13 =>
 ((i11 : Int) = 5 →
 ((i14 : Int) = 0 →
 C_attempt_Attempt_Land B p5 h13 (fun b17 h16 =>
 (b17 = true →
 ∃ A18 : Addr, p3 = some A18 ∧
 ∃ i20 : Int, cellH B h16 (Addr.add A18 3) = some (.int .i64 (i20)) ∧
 Fin B h16 (Q (((i20 : Int) == (1))))) ∧ (b17 = false →
 Fin B h16 (Q (false))))) ∧ (¬ ((i14 : Int) = 0) →
 Fin B h13 (Q (false)))) ∧ (¬ ((i11 : Int) = 5) →
 Fin B h13 (Q (false)))))) ∧ (¬ ((i9 : Int) = 0) →
 Fin B h8 (Q (false)))))))
def S_countermandlaw20_start_J1 (B : RO) (k9 : Nat) (k13 : Nat) (h49 : Heap) (Q : Option Addr → Heap → Prop) : Prop :=
 ∃ p54 : Option Addr, cellH B h49 ⟨k13, 0, none⟩ = some (.pointer p54) ∧
 ∃ i56 : Int, ∃ i57 : Int, ∃ i58 : Int, ∃ i59 : Int, CellsAt B h49 ⟨k9, 0, none⟩ 0 [(.int .i64 (i56)), (.int .i64 (i57)), (.int .i64 (i58)), (.int .i64 (i59))] ∧
 C_attempt_New B p54 (i56) (i57) (i58) (i59) h49 (fun p62 h61 =>
 cellH B h61 ⟨k13, 0, none⟩ = some (.pointer p54) ∧ CellsAt B h61 ⟨k9, 0, none⟩ 0 [(.int .i64 (i56)), (.int .i64 (i57)), (.int .i64 (i58)), (.int .i64 (i59))] ∧
 ∃ h65 : Heap, storeH h61 ⟨k13, 1, none⟩ (.pointer p62) = some h65 ∧
 Fin B h65 (Q (some ⟨k13, 0, none⟩)))
def S_countermandlaw20_start (B : RO) (a1 : Option Addr) (n2 : Nat) (c3 : Nat) (i4 : Int) (i5 : Int) (i6 : Int) (i7 : Int) (h : Heap) (Q : Option Addr → Heap → Prop) : Prop :=
 ∀ k9 : Nat, h k9 = none → B k9 = none → ∀ h10 : Heap, h10 = Heap.set h k9 (.vec 26 (plains [(.int .i64 (i4)), (.int .i64 (i5)), (.int .i64 (i6)), (.int .i64 (i7))]) 4) →
 C_attempt_NewView B h10 (fun p12 h11 =>
 ∀ k13 : Nat, h11 k13 = none → B k13 = none → ∀ h14 : Heap, h14 = Heap.set h11 k13 (.vec 34 (plains [(.pointer p12), (.pointer none), (.slice none 0 0), (.slice none 0 0)]) 4) →
 ∃ p15 : Option Addr, cellH B h14 ⟨k13, 0, none⟩ = some (.pointer p15) ∧
 C_countermandlaw20_things B p15 h14 (fun l17 s18 s19 s20 h16 =>
 ∀ k21 : Nat, h16 k21 = none → B k21 = none → ∀ h22 : Heap, h22 = Heap.set h16 k21 (.vec 55 (plains [(.int .i64 (0)), (.int .i64 (0)), (.int .i64 (0)), (.int .i64 (0)), (.int .i64 (0)), (.int .i64 (0)), (.int .i64 (0)), (.int .i64 (0)), (.bool false), (.string ByteArray.empty), (.bool false), (.string ByteArray.empty), (.bool false), (.string ByteArray.empty), (.bool false), (.string ByteArray.empty), (.bool false), (.string ByteArray.empty), (.bool false), (.string ByteArray.empty), (.int .i64 (0)), (.int .i64 (0)), (.int .i64 (0))]) 23) →
 ∀ k23 : Nat, h22 k23 = none → B k23 = none → ∀ h24 : Heap, h24 = Heap.set h22 k23 (.vec 56 (plains [(.string ByteArray.empty), (.string ByteArray.empty), (.string ByteArray.empty)]) 3) →
 List.length l17 = 23 ∧ ∃ h25 : Heap, StoresAt ⟨k21, 0, none⟩ h24 0 l17 h25 ∧
 ∃ h26 : Heap, StoresAt ⟨k23, 0, none⟩ h25 0 [(.string s18), (.string s19), (.string s20)] h26 ∧
 ∃ a31 : Option Addr, ∃ n32 : Nat, ∃ c33 : Nat, cellH B h26 ⟨k13, 3, none⟩ = some (.slice a31 n32 c33) ∧
 ∃ l35 : List Value, List.length l35 = 23 ∧ CellsAt B h26 ⟨k21, 0, none⟩ 0 l35 ∧
 ∀ k37 : Nat, h26 k37 = none → B k37 = none → ∀ h38 : Heap, h38 = Heap.set h26 k37 (.vec 55 (plains l35) 23) →
 cellH B h38 ⟨k13, 3, none⟩ = some (.slice a31 n32 c33) ∧ CellsAt B h38 ⟨k21, 0, none⟩ 0 l35 ∧
 semH PG B (Builtin.append_ #[32, 32] 32 #[(.slice a31 n32 c33), (.slice (some ⟨k37, 0, none⟩) 1 1)]) h38 (fun v h41 => ∃ a42 : Option Addr, ∃ n43 : Nat, ∃ c44 : Nat, v = (.slice a42 n43 c44) ∧
 cellH B h41 ⟨k13, 3, none⟩ = some (.slice a31 n32 c33) ∧ CellsAt B h41 ⟨k21, 0, none⟩ 0 l35 ∧
 ∃ h47 : Heap, storeH h41 ⟨k13, 3, none⟩ (.slice a42 n43 c44) = some h47 ∧
 ∃ (J71 : Int → Nat → Heap → Prop) (m69 : Nat), Fin B h47 (J71 (0) m69) ∧
 ∀ (i66 : Int) (m68 : Nat) (h67 : Heap), J71 i66 m68 h67 →
 ((i66 : Int) < ((n2 : Nat)) →
 ∃ A72 : Addr, a1 = some A72 ∧ 0 ≤ (i66 : Int) ∧ (i66 : Int) < (n2 : Nat) ∧
 ∃ i74 : Int, ∃ i75 : Int, ∃ i76 : Int, ∃ i77 : Int, CellsAt B h67 (Addr.add A72 (Int.toNat (i66) * 4)) 0 [(.int .i64 (i74)), (.int .i64 (i75)), (.int .i64 (i76)), (.int .u8 (i77))] ∧
 ∀ k78 : Nat, h67 k78 = none → B k78 = none → ∀ h79 : Heap, h79 = Heap.set h67 k78 (.vec 38 (plains [(.int .i64 (0)), (.int .i64 (0)), (.int .i64 (0)), (.int .u8 (0))]) 4) →
 ∃ h80 : Heap, StoresAt ⟨k78, 0, none⟩ h79 0 [(.int .i64 (i74)), (.int .i64 (i75)), (.int .i64 (i76)), (.int .u8 (i77))] h80 ∧
 ∃ i81 : Int, ∃ i82 : Int, ∃ i83 : Int, ∃ i84 : Int, CellsAt B h80 ⟨k78, 0, none⟩ 0 [(.int .i64 (i81)), (.int .i64 (i82)), (.int .i64 (i83)), (.int .u8 (i84))] ∧
 C_countermandlaw20_run_other B (some ⟨k13, 0, none⟩) (i81) (i82) (i83) (i84) h80 (fun h85 =>
 Fin B h85 (fun h' => ∃ m', m' < m68 ∧ J71 (IntKind.wrap .i64 ((i66) + (1))) m' h'))) ∧ (¬ ((i66 : Int) < ((n2 : Nat))) →
 Fin B h67 (fun h' => S_countermandlaw20_start_J1 B k9 k13 h' Q)))))
def S_attempt_Attempt_Load_J1 (B : RO) (p1 : Option Addr) (i2 : Int) (h6 : Heap) (Q : Int → Int → Heap → Prop) : Prop :=
 ∃ A7 : Addr, p1 = some A7 ∧
 ∃ p9 : Option Addr, cellH B h6 (Addr.add A7 2) = some (.pointer p9) ∧
 C_draft_Draft_int_Get B p9 (i2) h6 (fun i11 b12 h10 =>
 (b12 = true →
 Fin B h10 (Q (i11) (0))) ∧ (b12 = false →
 C_attempt_Attempt_note B p1 (0) (i2) h10 (fun i14 h13 =>
 ((i14 : Int) = 0 →
 ∃ A15 : Addr, p1 = some A15 ∧
 ∃ p17 : Option Addr, cellH B h13 A15 = some (.pointer p17) ∧
 ∃ A18 : Addr, p17 = some A18 ∧
 ∃ p20 : Option Addr, cellH B h13 A18 = some (.pointer p20) ∧
 C_cell_Row_int_Get B p20 (i2) h13 (fun i22 i23 h21 =>
 Fin B h21 (Q (i22) (0)))) ∧ (¬ ((i14 : Int) = 0) →
 Fin B h13 (Q (0) (i14))))))
def S_attempt_Attempt_Load (B : RO) (p1 : Option Addr) (i2 : Int) (h : Heap) (Q : Int → Int → Heap → Prop) : Prop :=
 (p1 = none →
 Fin B h (Q (0) (2))) ∧ (¬ (p1 = none) →
 ((i2 : Int) < (0) →
 Fin B h (Q (0) (1))) ∧ (¬ ((i2 : Int) < (0)) →
 ((i2 : Int) ≥ (8) →
 Fin B h (Q (0) (1))) ∧ (¬ ((i2 : Int) ≥ (8)) →
 Fin B h (fun h' => S_attempt_Attempt_Load_J1 B p1 i2 h' Q))))
def S_countermandlaw20_run_other (B : RO) (p1 : Option Addr) (i2 : Int) (i3 : Int) (i4 : Int) (i5 : Int) (h : Heap) (Q : Heap → Prop) : Prop :=
 ∀ k6 : Nat, h k6 = none → B k6 = none → ∀ h7 : Heap, h7 = Heap.set h k6 (.vec 38 (plains [(.int .i64 (i2)), (.int .i64 (i3)), (.int .i64 (i4)), (.int .u8 (i5))]) 4) →
 ∃ A8 : Addr, p1 = some A8 ∧
 ∃ p10 : Option Addr, cellH B h7 A8 = some (.pointer p10) ∧
 C_attempt_New B p10 (0) (0) (0) (0) h7 (fun p12 h11 =>
 ∃ i13 : Int, ∃ i14 : Int, ∃ i15 : Int, ∃ i16 : Int, CellsAt B h11 ⟨k6, 0, none⟩ 0 [(.int .i64 (i13)), (.int .i64 (i14)), (.int .i64 (i15)), (.int .u8 (i16))] ∧
 C_countermandlaw20_does B p12 (i13) (i14) (i15) (i16) h11 (fun i18 i19 h17 =>
 C_attempt_Attempt_Land B p12 h17 (fun b21 h20 =>
 ∃ A22 : Addr, p1 = some A22 ∧
 ∃ p24 : Option Addr, cellH B h20 A22 = some (.pointer p24) ∧
 C_countermandlaw20_things B p24 h20 (fun l26 s27 s28 s29 h25 =>
 ∀ k30 : Nat, h25 k30 = none → B k30 = none → ∀ h31 : Heap, h31 = Heap.set h25 k30 (.vec 55 (plains [(.int .i64 (0)), (.int .i64 (0)), (.int .i64 (0)), (.int .i64 (0)), (.int .i64 (0)), (.int .i64 (0)), (.int .i64 (0)), (.int .i64 (0)), (.bool false), (.string ByteArray.empty), (.bool false), (.string ByteArray.empty), (.bool false), (.string ByteArray.empty), (.bool false), (.string ByteArray.empty), (.bool false), (.string ByteArray.empty), (.bool false), (.string ByteArray.empty), (.int .i64 (0)), (.int .i64 (0)), (.int .i64 (0))]) 23) →
 ∀ k32 : Nat, h31 k32 = none → B k32 = none → ∀ h33 : Heap, h33 = Heap.set h31 k32 (.vec 56 (plains [(.string ByteArray.empty), (.string ByteArray.empty), (.string ByteArray.empty)]) 3) →
 List.length l26 = 23 ∧ ∃ h34 : Heap, StoresAt ⟨k30, 0, none⟩ h33 0 l26 h34 ∧
 ∃ h35 : Heap, StoresAt ⟨k32, 0, none⟩ h34 0 [(.string s27), (.string s28), (.string s29)] h35 ∧
 ∃ A38 : Addr, p1 = some A38 ∧
 ∃ a42 : Option Addr, ∃ n43 : Nat, ∃ c44 : Nat, cellH B h35 (Addr.add A38 3) = some (.slice a42 n43 c44) ∧
 ∃ l46 : List Value, List.length l46 = 23 ∧ CellsAt B h35 ⟨k30, 0, none⟩ 0 l46 ∧
 ∀ k48 : Nat, h35 k48 = none → B k48 = none → ∀ h49 : Heap, h49 = Heap.set h35 k48 (.vec 55 (plains l46) 23) →
 cellH B h49 (Addr.add A38 3) = some (.slice a42 n43 c44) ∧ CellsAt B h49 ⟨k30, 0, none⟩ 0 l46 ∧
 semH PG B (Builtin.append_ #[32, 32] 32 #[(.slice a42 n43 c44), (.slice (some ⟨k48, 0, none⟩) 1 1)]) h49 (fun v h52 => ∃ a53 : Option Addr, ∃ n54 : Nat, ∃ c55 : Nat, v = (.slice a53 n54 c55) ∧
 cellH B h52 (Addr.add A38 3) = some (.slice a42 n43 c44) ∧ CellsAt B h52 ⟨k30, 0, none⟩ 0 l46 ∧
 ∃ A58 : Addr, p1 = some A58 ∧
 ∃ h60 : Heap, storeH h52 (Addr.add A58 3) (.slice a53 n54 c55) = some h60 ∧
 Fin B h60 (Q))))))
def S_attempt_Attempt_Valid (B : RO) (p1 : Option Addr) (h : Heap) (Q : Bool → Heap → Prop) : Prop :=
 (p1 = none →
 Fin B h (Q (false))) ∧ (¬ (p1 = none) →
 ∃ A10 : Addr, p1 = some A10 ∧
 ∃ p14 : Option Addr, cellH B h (Addr.add A10 1) = some (.pointer p14) ∧
 ∃ A17 : Addr, p1 = some A17 ∧
 ∃ p21 : Option Addr, cellH B h A17 = some (.pointer p21) ∧
 C_attempt_View_Now B p21 h (fun l24 h23 =>
 cellH B h23 (Addr.add A10 1) = some (.pointer p14) ∧ cellH B h23 A17 = some (.pointer p21) ∧
 C_reads_Set_Valid B p14 l24 h23 (fun b28 h27 =>
 cellH B h27 (Addr.add A10 1) = some (.pointer p14) ∧ cellH B h27 A17 = some (.pointer p21) ∧
 Fin B h27 (Q (b28)))))
def S_attempt_Attempt_Land_J1 (B : RO) (p1 : Option Addr) (k8 : Nat) (h19 : Heap) (Q : Bool → Heap → Prop) : Prop :=
 ∃ A20 : Addr, p1 = some A20 ∧
 ∃ p22 : Option Addr, cellH B h19 (Addr.add (Addr.add A20 2) 1) = some (.pointer p22) ∧
 ∃ p23 : Option Addr, cellH B h19 ⟨k8, 0, none⟩ = some (.pointer p23) ∧
 ∃ A24 : Addr, p23 = some A24 ∧
 ∃ p26 : Option Addr, cellH B h19 (Addr.add A24 1) = some (.pointer p26) ∧
 ∃ p27 : Option Addr, cellH B h19 ⟨k8, 0, none⟩ = some (.pointer p27) ∧
 ∃ A28 : Addr, p27 = some A28 ∧
 ∃ i30 : Int, cellH B h19 (Addr.add A28 3) = some (.int .i64 (i30)) ∧
 C_sheet_Sheet_Over B p22 p26 (i30) h19 (fun i32 h31 =>
 ∃ (J38 : Int → Nat → Heap → Prop) (m36 : Nat), Fin B h31 (J38 (0) m36) ∧
 ∀ (i33 : Int) (m35 : Nat) (h34 : Heap), J38 i33 m35 h34 →
 ((i33 : Int) < (3) →
 ∃ A39 : Addr, p1 = some A39 ∧
 ∃ p41 : Option Addr, cellH B h34 (Addr.add (Addr.add A39 2) 2) = some (.pointer p41) ∧
 C_cursor_Cursor_Read B p41 (i33) h34 (fun i43 h42 =>
 ((i43 : Int) > (0) →
 ∃ p44 : Option Addr, cellH B h42 ⟨k8, 0, none⟩ = some (.pointer p44) ∧
 ∃ A45 : Addr, p44 = some A45 ∧
 ∃ p47 : Option Addr, cellH B h42 (Addr.add A45 2) = some (.pointer p47) ∧
 C_feed_Feed_Place B p47 (i33) h42 (fun i49 i50 h48 =>
 ∃ p51 : Option Addr, cellH B h48 ⟨k8, 0, none⟩ = some (.pointer p51) ∧
 ∃ A52 : Addr, p51 = some A52 ∧
 ∃ p54 : Option Addr, cellH B h48 (Addr.add A52 2) = some (.pointer p54) ∧
 ∃ p55 : Option Addr, cellH B h48 ⟨k8, 0, none⟩ = some (.pointer p55) ∧
 ∃ A56 : Addr, p55 = some A56 ∧
 ∃ i58 : Int, cellH B h48 (Addr.add A56 3) = some (.int .i64 (i58)) ∧
 C_feed_Feed_Take B p54 (i33) (IntKind.wrap .i64 ((i49) + (i43))) (i58) h48 (fun b60 h59 =>
 Fin B h59 (fun h' => ∃ m', m' < m35 ∧ J38 (IntKind.wrap .i64 ((i33) + (1))) m' h')))) ∧ (¬ ((i43 : Int) > (0)) →
 Fin B h42 (fun h' => ∃ m', m' < m35 ∧ J38 (IntKind.wrap .i64 ((i33) + (1))) m' h')))) ∧ (¬ ((i33 : Int) < (3)) →
 Fin B h34 (Q (true))))
def S_attempt_Attempt_Land (B : RO) (p1 : Option Addr) (h : Heap) (Q : Bool → Heap → Prop) : Prop :=
 C_attempt_Attempt_Valid B p1 h (fun b4 h3 =>
 (b4 = true →
 ∃ A5 : Addr, p1 = some A5 ∧
 ∃ p7 : Option Addr, cellH B h3 A5 = some (.pointer p7) ∧
 ∀ k8 : Nat, h3 k8 = none → B k8 = none → ∀ h9 : Heap, h9 = Heap.set h3 k8 (.vec 29 (plains [(.pointer none)]) 1) →
 ∃ h10 : Heap, storeH h9 ⟨k8, 0, none⟩ (.pointer p7) = some h10 ∧
 ∃ p11 : Option Addr, cellH B h10 ⟨k8, 0, none⟩ = some (.pointer p11) ∧
 ∃ A12 : Addr, p11 = some A12 ∧
 ∃ i14 : Int, cellH B h10 (Addr.add A12 3) = some (.int .i64 (i14)) ∧
 ∃ A15 : Addr, p11 = some A15 ∧
 ∃ h17 : Heap, storeH h10 (Addr.add A15 3) (.int .i64 (IntKind.wrap .i64 ((i14) + (1)))) = some h17 ∧
 ∃ A61 : Addr, p1 = some A61 ∧
 ∃ p63 : Option Addr, cellH B h17 (Addr.add A61 2) = some (.pointer p63) ∧
 C_draft_Draft_int_All B p63 h17 (fun v65 h64 =>
 ∃ (xs72 : List (Int × Int)) (G68 : Heap → Prop) (J71 : Nat → Heap → Prop), Iter PG B v65 (xs72.map (fun x : Int × Int => [(.int .i64 (x.1)), (.int .i64 (x.2))])) G68 ∧ Ins G68 ∧ (∀ i h, J71 i h → G68 h) ∧ Fin B h64 (J71 0) ∧
 (∀ (q70 : Nat) (h69 : Heap) (i66 : Int) (i67 : Int), xs72[q70]? = some (i66, i67) → J71 q70 h69 →
 ∃ p73 : Option Addr, cellH B h69 ⟨k8, 0, none⟩ = some (.pointer p73) ∧
 ∃ A74 : Addr, p73 = some A74 ∧
 ∃ p76 : Option Addr, cellH B h69 A74 = some (.pointer p76) ∧
 ∃ p77 : Option Addr, cellH B h69 ⟨k8, 0, none⟩ = some (.pointer p77) ∧
 ∃ A78 : Addr, p77 = some A78 ∧
 ∃ i80 : Int, cellH B h69 (Addr.add A78 3) = some (.int .i64 (i80)) ∧
 C_cell_Row_int_Set B p76 (i66) (i67) (i80) h69 (fun b82 h81 =>
 Fin B h81 (J71 (q70 + 1)))) ∧
 (∀ (h69 : Heap), J71 xs72.length h69 →
 Fin B h69 (fun h' => S_attempt_Attempt_Land_J1 B p1 k8 h' Q)))) ∧ (b4 = false →
 Fin B h3 (Q (false))))
def S_countermandlaw20_things_J2 (B : RO) (p1 : Option Addr) (k6 : Nat) (k8 : Nat) (k10 : Nat) (k12 : Nat) (h17 : Heap) (Q : List Value → ByteArray → ByteArray → ByteArray → Heap → Prop) : Prop :=
 ∃ (J23 : Int → Nat → Heap → Prop) (m21 : Nat), Fin B h17 (J23 (0) m21) ∧
 ∀ (i18 : Int) (m20 : Nat) (h19 : Heap), J23 i18 m20 h19 →
 ((i18 : Int) < (3) →
 ∃ A24 : Addr, p1 = some A24 ∧
 ∃ p26 : Option Addr, cellH B h19 (Addr.add A24 2) = some (.pointer p26) ∧
 C_feed_Feed_Place B p26 (i18) h19 (fun i28 i29 h27 =>
 0 ≤ (i18 : Int) ∧ (i18 : Int) < (3 : Nat) ∧
 ∃ h30 : Heap, storeH h27 (Addr.add ⟨k10, 20, none⟩ (Int.toNat (i18) * 1)) (.int .i64 (i28)) = some h30 ∧
 ∃ A31 : Addr, p1 = some A31 ∧
 ∃ p33 : Option Addr, cellH B h30 (Addr.add A31 2) = some (.pointer p33) ∧
 C_feed_Feed_Text B p33 (i18) h30 (fun s35 h34 =>
 0 ≤ (i18 : Int) ∧ (i18 : Int) < (3 : Nat) ∧
 ∃ h36 : Heap, storeH h34 (Addr.add ⟨k12, 0, none⟩ (Int.toNat (i18) * 1)) (.string s35) = some h36 ∧
 Fin B h36 (fun h' => ∃ m', m' < m20 ∧ J23 (IntKind.wrap .i64 ((i18) + (1))) m' h')))) ∧ (¬ ((i18 : Int) < (3)) →
 ∃ l37 : List Value, List.length l37 = 23 ∧ CellsAt B h19 ⟨k10, 0, none⟩ 0 l37 ∧
 ∃ s39 : ByteArray, ∃ s40 : ByteArray, ∃ s41 : ByteArray, CellsAt B h19 ⟨k12, 0, none⟩ 0 [(.string s39), (.string s40), (.string s41)] ∧
 List.length l37 = 23 ∧ ∃ h43 : Heap, StoresAt ⟨k6, 0, none⟩ h19 0 l37 h43 ∧
 CellsAt B h43 ⟨k10, 0, none⟩ 0 l37 ∧ CellsAt B h43 ⟨k12, 0, none⟩ 0 [(.string s39), (.string s40), (.string s41)] ∧
 ∃ h46 : Heap, StoresAt ⟨k8, 0, none⟩ h43 0 [(.string s39), (.string s40), (.string s41)] h46 ∧
 ∃ l47 : List Value, List.length l47 = 23 ∧ CellsAt B h46 ⟨k6, 0, none⟩ 0 l47 ∧ ∃ s48 : ByteArray, ∃ s49 : ByteArray, ∃ s50 : ByteArray, CellsAt B h46 ⟨k8, 0, none⟩ 0 [(.string s48), (.string s49), (.string s50)] ∧ Fin B h46 (Q l47 s48 s49 s50))
def S_countermandlaw20_things_J1 (B : RO) (p1 : Option Addr) (k6 : Nat) (k8 : Nat) (k10 : Nat) (k12 : Nat) (h15 : Heap) (Q : List Value → ByteArray → ByteArray → ByteArray → Heap → Prop) : Prop :=
 ∃ (J56 : Int → Nat → Heap → Prop) (m54 : Nat), Fin B h15 (J56 (0) m54) ∧
 ∀ (i51 : Int) (m53 : Nat) (h52 : Heap), J56 i51 m53 h52 →
 ((i51 : Int) < (6) →
 ∃ A57 : Addr, p1 = some A57 ∧
 ∃ p59 : Option Addr, cellH B h52 (Addr.add A57 1) = some (.pointer p59) ∧
 C_tome_Tome_Get B p59 (i51) h52 (fun b61 s62 i63 h60 =>
 ∀ k64 : Nat, h60 k64 = none → B k64 = none → ∀ h65 : Heap, h65 = Heap.set h60 k64 (.vec 119 (plains [(.bool false), (.string ByteArray.empty)]) 2) →
 ∃ h66 : Heap, StoresAt ⟨k64, 0, none⟩ h65 0 [(.bool b61), (.string s62)] h66 ∧
 ∃ b67 : Bool, ∃ s68 : ByteArray, CellsAt B h66 ⟨k64, 0, none⟩ 0 [(.bool b67), (.string s68)] ∧
 0 ≤ (i51 : Int) ∧ (i51 : Int) < (6 : Nat) ∧
 ∃ h69 : Heap, StoresAt (Addr.add ⟨k10, 8, none⟩ (Int.toNat (i51) * 2)) h66 0 [(.bool b67), (.string s68)] h69 ∧
 Fin B h69 (fun h' => ∃ m', m' < m53 ∧ J56 (IntKind.wrap .i64 ((i51) + (1))) m' h'))) ∧ (¬ ((i51 : Int) < (6)) →
 Fin B h52 (fun h' => S_countermandlaw20_things_J2 B p1 k6 k8 k10 k12 h' Q))
def S_countermandlaw20_things (B : RO) (p1 : Option Addr) (h : Heap) (Q : List Value → ByteArray → ByteArray → ByteArray → Heap → Prop) : Prop :=
 ∀ k6 : Nat, h k6 = none → B k6 = none → ∀ h7 : Heap, h7 = Heap.set h k6 (.vec 55 (plains [(.int .i64 (0)), (.int .i64 (0)), (.int .i64 (0)), (.int .i64 (0)), (.int .i64 (0)), (.int .i64 (0)), (.int .i64 (0)), (.int .i64 (0)), (.bool false), (.string ByteArray.empty), (.bool false), (.string ByteArray.empty), (.bool false), (.string ByteArray.empty), (.bool false), (.string ByteArray.empty), (.bool false), (.string ByteArray.empty), (.bool false), (.string ByteArray.empty), (.int .i64 (0)), (.int .i64 (0)), (.int .i64 (0))]) 23) →
 ∀ k8 : Nat, h7 k8 = none → B k8 = none → ∀ h9 : Heap, h9 = Heap.set h7 k8 (.vec 56 (plains [(.string ByteArray.empty), (.string ByteArray.empty), (.string ByteArray.empty)]) 3) →
 ∀ k10 : Nat, h9 k10 = none → B k10 = none → ∀ h11 : Heap, h11 = Heap.set h9 k10 (.vec 55 (plains [(.int .i64 (0)), (.int .i64 (0)), (.int .i64 (0)), (.int .i64 (0)), (.int .i64 (0)), (.int .i64 (0)), (.int .i64 (0)), (.int .i64 (0)), (.bool false), (.string ByteArray.empty), (.bool false), (.string ByteArray.empty), (.bool false), (.string ByteArray.empty), (.bool false), (.string ByteArray.empty), (.bool false), (.string ByteArray.empty), (.bool false), (.string ByteArray.empty), (.int .i64 (0)), (.int .i64 (0)), (.int .i64 (0))]) 23) →
 ∀ k12 : Nat, h11 k12 = none → B k12 = none → ∀ h13 : Heap, h13 = Heap.set h11 k12 (.vec 56 (plains [(.string ByteArray.empty), (.string ByteArray.empty), (.string ByteArray.empty)]) 3) →
 ∃ (J75 : Int → Nat → Heap → Prop) (m73 : Nat), Fin B h13 (J75 (0) m73) ∧
 ∀ (i70 : Int) (m72 : Nat) (h71 : Heap), J75 i70 m72 h71 →
 ((i70 : Int) < (8) →
 ∃ A76 : Addr, p1 = some A76 ∧
 ∃ p78 : Option Addr, cellH B h71 A76 = some (.pointer p78) ∧
 C_cell_Row_int_Get B p78 (i70) h71 (fun i80 i81 h79 =>
 0 ≤ (i70 : Int) ∧ (i70 : Int) < (8 : Nat) ∧
 ∃ h82 : Heap, storeH h79 (Addr.add ⟨k10, 0, none⟩ (Int.toNat (i70) * 1)) (.int .i64 (i80)) = some h82 ∧
 Fin B h82 (fun h' => ∃ m', m' < m72 ∧ J75 (IntKind.wrap .i64 ((i70) + (1))) m' h'))) ∧ (¬ ((i70 : Int) < (8)) →
 Fin B h71 (fun h' => S_countermandlaw20_things_J1 B p1 k6 k8 k10 k12 h' Q))
def S_countermandlaw20_does (B : RO) (p1 : Option Addr) (i2 : Int) (i3 : Int) (i4 : Int) (i5 : Int) (h : Heap) (Q : Int → Int → Heap → Prop) : Prop :=
 ∀ k8 : Nat, h k8 = none → B k8 = none → ∀ h9 : Heap, h9 = Heap.set h k8 (.vec 38 (plains [(.int .i64 (i2)), (.int .i64 (i3)), (.int .i64 (i4)), (.int .u8 (i5))]) 4) →
 ∃ i10 : Int, cellH B h9 ⟨k8, 0, none⟩ = some (.int .i64 (i10)) ∧
 ((i10 : Int) = 0 →
 ∃ i11 : Int, cellH B h9 ⟨k8, 1, none⟩ = some (.int .i64 (i11)) ∧
 C_attempt_Attempt_Load B p1 (i11) h9 (fun i13 i14 h12 =>
 Fin B h12 (Q (i13) (i14)))) ∧ (¬ ((i10 : Int) = 0) →
 ((i10 : Int) = 1 →
 ∃ i15 : Int, cellH B h9 ⟨k8, 1, none⟩ = some (.int .i64 (i15)) ∧
 ∃ i16 : Int, cellH B h9 ⟨k8, 2, none⟩ = some (.int .i64 (i16)) ∧
 C_attempt_Attempt_Store B p1 (i15) (i16) h9 (fun i18 h17 =>
 Fin B h17 (Q (0) (i18)))) ∧ (¬ ((i10 : Int) = 1) →
 ((i10 : Int) = 2 →
 ∃ i19 : Int, cellH B h9 ⟨k8, 1, none⟩ = some (.int .i64 (i19)) ∧
 ∃ i20 : Int, cellH B h9 ⟨k8, 2, none⟩ = some (.int .i64 (i20)) ∧
 C_attempt_Attempt_Read B p1 (i19) (i20) h9 (fun i22 i23 h21 =>
 Fin B h21 (Q (i22) (i23)))) ∧ (¬ ((i10 : Int) = 2) →
 ((i10 : Int) = 3 →
 ∃ i24 : Int, cellH B h9 ⟨k8, 1, none⟩ = some (.int .i64 (i24)) ∧
 ∃ i25 : Int, cellH B h9 ⟨k8, 2, none⟩ = some (.int .i64 (i25)) ∧
 ∃ i26 : Int, cellH B h9 ⟨k8, 3, none⟩ = some (.int .u8 (i26)) ∧
 C_attempt_Attempt_Write B p1 (i24) (i25) (i26) h9 (fun i28 h27 =>
 Fin B h27 (Q (0) (i28)))) ∧ (¬ ((i10 : Int) = 3) →
 ((i10 : Int) = 4 →
 ∃ i29 : Int, cellH B h9 ⟨k8, 1, none⟩ = some (.int .i64 (i29)) ∧
 C_attempt_Attempt_Create B p1 (i29) h9 (fun i31 h30 =>
 Fin B h30 (Q (0) (i31)))) ∧ (¬ ((i10 : Int) = 4) →
 ((i10 : Int) = 5 →
 ∃ i32 : Int, cellH B h9 ⟨k8, 1, none⟩ = some (.int .i64 (i32)) ∧
 C_attempt_Attempt_Remove B p1 (i32) h9 (fun i34 h33 =>
 Fin B h33 (Q (0) (i34)))) ∧ (¬ ((i10 : Int) = 5) →
 ((i10 : Int) = 6 →
 ∃ i35 : Int, cellH B h9 ⟨k8, 1, none⟩ = some (.int .i64 (i35)) ∧
 ∃ i36 : Int, cellH B h9 ⟨k8, 2, none⟩ = some (.int .i64 (i36)) ∧
 C_attempt_Attempt_Rename B p1 (i35) (i36) h9 (fun i38 h37 =>
 Fin B h37 (Q (0) (i38)))) ∧ (¬ ((i10 : Int) = 6) →
 ((i10 : Int) = 7 →
 ∃ i39 : Int, cellH B h9 ⟨k8, 1, none⟩ = some (.int .i64 (i39)) ∧
 ∃ i40 : Int, cellH B h9 ⟨k8, 2, none⟩ = some (.int .i64 (i40)) ∧
 C_attempt_Attempt_Cut B p1 (i39) (i40) h9 (fun i42 h41 =>
 Fin B h41 (Q (0) (i42)))) ∧ (¬ ((i10 : Int) = 7) →
 ((i10 : Int) = 8 →
 ∃ i43 : Int, cellH B h9 ⟨k8, 1, none⟩ = some (.int .i64 (i43)) ∧
 C_attempt_Attempt_Recv B p1 (i43) h9 (fun i45 i46 h44 =>
 Fin B h44 (Q (i45) (i46)))) ∧ (¬ ((i10 : Int) = 8) →
 Fin B h9 (Q (0) (1)))))))))))
def S_attempt_View_Now_J2 (B : RO) (p1 : Option Addr) (k3 : Nat) (k11 : Nat) (h17 : Heap) (Q : List Value → Heap → Prop) : Prop :=
 ∃ (J23 : Int → Nat → Heap → Prop) (m21 : Nat), Fin B h17 (J23 (0) m21) ∧
 ∀ (i18 : Int) (m20 : Nat) (h19 : Heap), J23 i18 m20 h19 →
 ((i18 : Int) < (3) →
 ∃ A24 : Addr, p1 = some A24 ∧
 ∃ p26 : Option Addr, cellH B h19 (Addr.add A24 2) = some (.pointer p26) ∧
 C_feed_Feed_Place B p26 (i18) h19 (fun i28 i29 h27 =>
 0 ≤ (2 : Int) ∧ (2 : Int) < (3 : Nat) ∧
 0 ≤ (i18 : Int) ∧ (i18 : Int) < (8 : Nat) ∧
 ∃ h30 : Heap, storeH h27 (Addr.add ⟨k11, 16, none⟩ (Int.toNat (i18) * 1)) (.int .i64 (i29)) = some h30 ∧
 Fin B h30 (fun h' => ∃ m', m' < m20 ∧ J23 (IntKind.wrap .i64 ((i18) + (1))) m' h'))) ∧ (¬ ((i18 : Int) < (3)) →
 ∃ l31 : List Value, List.length l31 = 25 ∧ CellsAt B h19 ⟨k11, 0, none⟩ 0 l31 ∧
 List.length l31 = 25 ∧ ∃ h32 : Heap, StoresAt ⟨k3, 0, none⟩ h19 0 l31 h32 ∧
 ∃ l33 : List Value, List.length l33 = 25 ∧ CellsAt B h32 ⟨k3, 0, none⟩ 0 l33 ∧ Fin B h32 (Q l33))
def S_attempt_View_Now_J1 (B : RO) (p1 : Option Addr) (k3 : Nat) (k11 : Nat) (h15 : Heap) (Q : List Value → Heap → Prop) : Prop :=
 ∃ (J39 : Int → Nat → Heap → Prop) (m37 : Nat), Fin B h15 (J39 (0) m37) ∧
 ∀ (i34 : Int) (m36 : Nat) (h35 : Heap), J39 i34 m36 h35 →
 ((i34 : Int) < (6) →
 ∃ A40 : Addr, p1 = some A40 ∧
 ∃ p42 : Option Addr, cellH B h35 (Addr.add A40 1) = some (.pointer p42) ∧
 C_tome_Tome_Get B p42 (i34) h35 (fun b44 s45 i46 h43 =>
 0 ≤ (1 : Int) ∧ (1 : Int) < (3 : Nat) ∧
 0 ≤ (i34 : Int) ∧ (i34 : Int) < (8 : Nat) ∧
 ∃ h47 : Heap, storeH h43 (Addr.add ⟨k11, 8, none⟩ (Int.toNat (i34) * 1)) (.int .i64 (i46)) = some h47 ∧
 Fin B h47 (fun h' => ∃ m', m' < m36 ∧ J39 (IntKind.wrap .i64 ((i34) + (1))) m' h'))) ∧ (¬ ((i34 : Int) < (6)) →
 Fin B h35 (fun h' => S_attempt_View_Now_J2 B p1 k3 k11 h' Q))
def S_attempt_View_Now (B : RO) (p1 : Option Addr) (h : Heap) (Q : List Value → Heap → Prop) : Prop :=
 ∀ k3 : Nat, h k3 = none → B k3 = none → ∀ h4 : Heap, h4 = Heap.set h k3 (.vec 65 (plains (List.replicate 25 (.int .i64 (0)))) 25) →
 (p1 = none →
 ∃ h6 : Heap, StoresAt ⟨k3, 0, none⟩ h4 0 (List.replicate 25 (.int .i64 (0))) h6 ∧
 ∃ l7 : List Value, List.length l7 = 25 ∧ CellsAt B h6 ⟨k3, 0, none⟩ 0 l7 ∧ Fin B h6 (Q l7)) ∧ (¬ (p1 = none) →
 ∃ A8 : Addr, p1 = some A8 ∧
 ∃ i10 : Int, cellH B h4 (Addr.add A8 3) = some (.int .i64 (i10)) ∧
 ∀ k11 : Nat, h4 k11 = none → B k11 = none → ∀ h12 : Heap, h12 = Heap.set h4 k11 (.vec 65 (plains (List.replicate 25 (.int .i64 (0)))) 25) →
 ∃ h13 : Heap, StoresAt ⟨k11, 0, none⟩ h12 0 [(.int .i64 (0)), (.int .i64 (0)), (.int .i64 (0)), (.int .i64 (0)), (.int .i64 (0)), (.int .i64 (0)), (.int .i64 (0)), (.int .i64 (0)), (.int .i64 (0)), (.int .i64 (0)), (.int .i64 (0)), (.int .i64 (0)), (.int .i64 (0)), (.int .i64 (0)), (.int .i64 (0)), (.int .i64 (0)), (.int .i64 (0)), (.int .i64 (0)), (.int .i64 (0)), (.int .i64 (0)), (.int .i64 (0)), (.int .i64 (0)), (.int .i64 (0)), (.int .i64 (0)), (.int .i64 (i10))] h13 ∧
 ∃ (J53 : Int → Nat → Heap → Prop) (m51 : Nat), Fin B h13 (J53 (0) m51) ∧
 ∀ (i48 : Int) (m50 : Nat) (h49 : Heap), J53 i48 m50 h49 →
 ((i48 : Int) < (8) →
 ∃ A54 : Addr, p1 = some A54 ∧
 ∃ p56 : Option Addr, cellH B h49 A54 = some (.pointer p56) ∧
 C_cell_Row_int_Version B p56 (i48) h49 (fun i58 h57 =>
 0 ≤ (0 : Int) ∧ (0 : Int) < (3 : Nat) ∧
 0 ≤ (i48 : Int) ∧ (i48 : Int) < (8 : Nat) ∧
 ∃ h59 : Heap, storeH h57 (Addr.add ⟨k11, 0, none⟩ (Int.toNat (i48) * 1)) (.int .i64 (i58)) = some h59 ∧
 Fin B h59 (fun h' => ∃ m', m' < m50 ∧ J53 (IntKind.wrap .i64 ((i48) + (1))) m' h'))) ∧ (¬ ((i48 : Int) < (8)) →
 Fin B h49 (fun h' => S_attempt_View_Now_J1 B p1 k3 k11 h' Q)))
def S_attempt_Attempt_Store_J1 (B : RO) (p1 : Option Addr) (i2 : Int) (i3 : Int) (h6 : Heap) (Q : Int → Heap → Prop) : Prop :=
 ∃ A7 : Addr, p1 = some A7 ∧
 ∃ p9 : Option Addr, cellH B h6 (Addr.add A7 2) = some (.pointer p9) ∧
 C_draft_Draft_int_Put B p9 (i2) (i3) h6 (fun b11 h10 =>
 Fin B h10 (Q (0)))
def S_attempt_Attempt_Store (B : RO) (p1 : Option Addr) (i2 : Int) (i3 : Int) (h : Heap) (Q : Int → Heap → Prop) : Prop :=
 (p1 = none →
 Fin B h (Q (2))) ∧ (¬ (p1 = none) →
 ((i2 : Int) < (0) →
 Fin B h (Q (1))) ∧ (¬ ((i2 : Int) < (0)) →
 ((i2 : Int) ≥ (8) →
 Fin B h (Q (1))) ∧ (¬ ((i2 : Int) ≥ (8)) →
 Fin B h (fun h' => S_attempt_Attempt_Store_J1 B p1 i2 i3 h' Q))))
def S_attempt_NewView (B : RO) (h : Heap) (Q : Option Addr → Heap → Prop) : Prop :=
 C_cell_New_int B (8) (0) h (fun p3 h2 =>
 C_tome_New B h2 (fun p5 h4 =>
 C_feed_New B h4 (fun p7 h6 =>
 ∀ k8 : Nat, h6 k8 = none → B k8 = none → ∀ h9 : Heap, h9 = Heap.set h6 k8 (.vec 43 (plains [(.pointer p3), (.pointer p5), (.pointer p7), (.int .i64 (0))]) 4) →
 Fin B h9 (Q (some ⟨k8, 0, none⟩)))))
def S_attempt_New_J2 (B : RO) (k7 : Nat) (p10 : Option Addr) (A14 : Addr) (i18 : Int) (i20 : Int) (i21 : Int) (i22 : Int) (i23 : Int) (p230 : Option Addr) (p231 : Option Addr) (p232 : Option Addr) (p233 : Option Addr) (i234 : Int) (i235 : Int) (i236 : Int) (i237 : Int) (A238 : Addr) (A239 : Addr) (h240 : Heap) (Q : Option Addr → Heap → Prop) : Prop :=
 ∀ k243 : Nat, h240 k243 = none → B k243 = none → ∀ h244 : Heap, h244 = Heap.set h240 k243 (.vec 107 (plains [(.pointer p10), (.pointer p230), (.pointer p231), (.pointer p232), (.pointer p233), (.int .i64 (i234)), (.int .i64 (i235)), (.int .i64 (i236)), (.int .i64 (i237)), (.pointer (some A238)), (.pointer (some A239))]) 11) →
 cellH B h244 (Addr.add A14 3) = some (.int .i64 (i18)) ∧ CellsAt B h244 ⟨k7, 0, none⟩ 0 [(.int .i64 (i20)), (.int .i64 (i21)), (.int .i64 (i22)), (.int .i64 (i23))] ∧
 Fin B h244 (Q (some ⟨k243, 0, none⟩))
def S_attempt_New_J1 (B : RO) (k7 : Nat) (p10 : Option Addr) (h11 : Heap) (Q : Option Addr → Heap → Prop) : Prop :=
 ∃ A14 : Addr, p10 = some A14 ∧
 ∃ i18 : Int, cellH B h11 (Addr.add A14 3) = some (.int .i64 (i18)) ∧
 ∃ i20 : Int, ∃ i21 : Int, ∃ i22 : Int, ∃ i23 : Int, CellsAt B h11 ⟨k7, 0, none⟩ 0 [(.int .i64 (i20)), (.int .i64 (i21)), (.int .i64 (i22)), (.int .i64 (i23))] ∧
 (C_reads_New B (i18) h11 (fun p248 h247 =>
 cellH B h247 (Addr.add A14 3) = some (.int .i64 (i18)) ∧ CellsAt B h247 ⟨k7, 0, none⟩ 0 [(.int .i64 (i20)), (.int .i64 (i21)), (.int .i64 (i22)), (.int .i64 (i23))] ∧
 (C_mark_Fresh B (i20) (i21) (i22) (i23) h247 (fun p252 p253 p254 i255 i256 i257 i258 h251 =>
 cellH B h251 (Addr.add A14 3) = some (.int .i64 (i18)) ∧ CellsAt B h251 ⟨k7, 0, none⟩ 0 [(.int .i64 (i20)), (.int .i64 (i21)), (.int .i64 (i22)), (.int .i64 (i23))] ∧
 (∀ k261 : Nat, h251 k261 = none → B k261 = none → ∀ h262 : Heap, h262 = Heap.set h251 k261 (.vec 144 (plains [(.slice none 0 0), (.slice none 0 0), (.slice none 0 0), (.slice none 0 0)]) 4) →
 cellH B h262 (Addr.add A14 3) = some (.int .i64 (i18)) ∧ CellsAt B h262 ⟨k7, 0, none⟩ 0 [(.int .i64 (i20)), (.int .i64 (i21)), (.int .i64 (i22)), (.int .i64 (i23))] ∧
 ∀ k265 : Nat, h262 k265 = none → B k265 = none → ∀ h266 : Heap, h266 = Heap.set h262 k265 (.vec 147 (plains [(.slice none 0 0)]) 1) →
 cellH B h266 (Addr.add A14 3) = some (.int .i64 (i18)) ∧ CellsAt B h266 ⟨k7, 0, none⟩ 0 [(.int .i64 (i20)), (.int .i64 (i21)), (.int .i64 (i22)), (.int .i64 (i23))] ∧
 S_attempt_New_J2 B k7 p10 A14 i18 i20 i21 i22 i23 p248 p252 p253 p254 (i255) (i256) (i257) (i258) ⟨k261, 0, none⟩ ⟨k265, 0, none⟩ h266 Q) ∧
 (∀ k269 : Nat, h251 k269 = none → B k269 = none → ∀ h270 : Heap, h270 = Heap.set h251 k269 (.vec 147 (plains [(.slice none 0 0)]) 1) →
 cellH B h270 (Addr.add A14 3) = some (.int .i64 (i18)) ∧ CellsAt B h270 ⟨k7, 0, none⟩ 0 [(.int .i64 (i20)), (.int .i64 (i21)), (.int .i64 (i22)), (.int .i64 (i23))] ∧
 ∀ k273 : Nat, h270 k273 = none → B k273 = none → ∀ h274 : Heap, h274 = Heap.set h270 k273 (.vec 144 (plains [(.slice none 0 0), (.slice none 0 0), (.slice none 0 0), (.slice none 0 0)]) 4) →
 cellH B h274 (Addr.add A14 3) = some (.int .i64 (i18)) ∧ CellsAt B h274 ⟨k7, 0, none⟩ 0 [(.int .i64 (i20)), (.int .i64 (i21)), (.int .i64 (i22)), (.int .i64 (i23))] ∧
 S_attempt_New_J2 B k7 p10 A14 i18 i20 i21 i22 i23 p248 p252 p253 p254 (i255) (i256) (i257) (i258) ⟨k273, 0, none⟩ ⟨k269, 0, none⟩ h274 Q))) ∧
 (∀ k277 : Nat, h247 k277 = none → B k277 = none → ∀ h278 : Heap, h278 = Heap.set h247 k277 (.vec 144 (plains [(.slice none 0 0), (.slice none 0 0), (.slice none 0 0), (.slice none 0 0)]) 4) →
 cellH B h278 (Addr.add A14 3) = some (.int .i64 (i18)) ∧ CellsAt B h278 ⟨k7, 0, none⟩ 0 [(.int .i64 (i20)), (.int .i64 (i21)), (.int .i64 (i22)), (.int .i64 (i23))] ∧
 (C_mark_Fresh B (i20) (i21) (i22) (i23) h278 (fun p282 p283 p284 i285 i286 i287 i288 h281 =>
 cellH B h281 (Addr.add A14 3) = some (.int .i64 (i18)) ∧ CellsAt B h281 ⟨k7, 0, none⟩ 0 [(.int .i64 (i20)), (.int .i64 (i21)), (.int .i64 (i22)), (.int .i64 (i23))] ∧
 ∀ k291 : Nat, h281 k291 = none → B k291 = none → ∀ h292 : Heap, h292 = Heap.set h281 k291 (.vec 147 (plains [(.slice none 0 0)]) 1) →
 cellH B h292 (Addr.add A14 3) = some (.int .i64 (i18)) ∧ CellsAt B h292 ⟨k7, 0, none⟩ 0 [(.int .i64 (i20)), (.int .i64 (i21)), (.int .i64 (i22)), (.int .i64 (i23))] ∧
 S_attempt_New_J2 B k7 p10 A14 i18 i20 i21 i22 i23 p248 p282 p283 p284 (i285) (i286) (i287) (i288) ⟨k277, 0, none⟩ ⟨k291, 0, none⟩ h292 Q)) ∧
 (∀ k295 : Nat, h278 k295 = none → B k295 = none → ∀ h296 : Heap, h296 = Heap.set h278 k295 (.vec 147 (plains [(.slice none 0 0)]) 1) →
 cellH B h296 (Addr.add A14 3) = some (.int .i64 (i18)) ∧ CellsAt B h296 ⟨k7, 0, none⟩ 0 [(.int .i64 (i20)), (.int .i64 (i21)), (.int .i64 (i22)), (.int .i64 (i23))] ∧
 C_mark_Fresh B (i20) (i21) (i22) (i23) h296 (fun p300 p301 p302 i303 i304 i305 i306 h299 =>
 cellH B h299 (Addr.add A14 3) = some (.int .i64 (i18)) ∧ CellsAt B h299 ⟨k7, 0, none⟩ 0 [(.int .i64 (i20)), (.int .i64 (i21)), (.int .i64 (i22)), (.int .i64 (i23))] ∧
 S_attempt_New_J2 B k7 p10 A14 i18 i20 i21 i22 i23 p248 p300 p301 p302 (i303) (i304) (i305) (i306) ⟨k277, 0, none⟩ ⟨k295, 0, none⟩ h299 Q))) ∧
 (∀ k309 : Nat, h247 k309 = none → B k309 = none → ∀ h310 : Heap, h310 = Heap.set h247 k309 (.vec 147 (plains [(.slice none 0 0)]) 1) →
 cellH B h310 (Addr.add A14 3) = some (.int .i64 (i18)) ∧ CellsAt B h310 ⟨k7, 0, none⟩ 0 [(.int .i64 (i20)), (.int .i64 (i21)), (.int .i64 (i22)), (.int .i64 (i23))] ∧
 (C_mark_Fresh B (i20) (i21) (i22) (i23) h310 (fun p314 p315 p316 i317 i318 i319 i320 h313 =>
 cellH B h313 (Addr.add A14 3) = some (.int .i64 (i18)) ∧ CellsAt B h313 ⟨k7, 0, none⟩ 0 [(.int .i64 (i20)), (.int .i64 (i21)), (.int .i64 (i22)), (.int .i64 (i23))] ∧
 ∀ k323 : Nat, h313 k323 = none → B k323 = none → ∀ h324 : Heap, h324 = Heap.set h313 k323 (.vec 144 (plains [(.slice none 0 0), (.slice none 0 0), (.slice none 0 0), (.slice none 0 0)]) 4) →
 cellH B h324 (Addr.add A14 3) = some (.int .i64 (i18)) ∧ CellsAt B h324 ⟨k7, 0, none⟩ 0 [(.int .i64 (i20)), (.int .i64 (i21)), (.int .i64 (i22)), (.int .i64 (i23))] ∧
 S_attempt_New_J2 B k7 p10 A14 i18 i20 i21 i22 i23 p248 p314 p315 p316 (i317) (i318) (i319) (i320) ⟨k323, 0, none⟩ ⟨k309, 0, none⟩ h324 Q)) ∧
 (∀ k327 : Nat, h310 k327 = none → B k327 = none → ∀ h328 : Heap, h328 = Heap.set h310 k327 (.vec 144 (plains [(.slice none 0 0), (.slice none 0 0), (.slice none 0 0), (.slice none 0 0)]) 4) →
 cellH B h328 (Addr.add A14 3) = some (.int .i64 (i18)) ∧ CellsAt B h328 ⟨k7, 0, none⟩ 0 [(.int .i64 (i20)), (.int .i64 (i21)), (.int .i64 (i22)), (.int .i64 (i23))] ∧
 C_mark_Fresh B (i20) (i21) (i22) (i23) h328 (fun p332 p333 p334 i335 i336 i337 i338 h331 =>
 cellH B h331 (Addr.add A14 3) = some (.int .i64 (i18)) ∧ CellsAt B h331 ⟨k7, 0, none⟩ 0 [(.int .i64 (i20)), (.int .i64 (i21)), (.int .i64 (i22)), (.int .i64 (i23))] ∧
 S_attempt_New_J2 B k7 p10 A14 i18 i20 i21 i22 i23 p248 p332 p333 p334 (i335) (i336) (i337) (i338) ⟨k327, 0, none⟩ ⟨k309, 0, none⟩ h331 Q))))) ∧
 (∀ k341 : Nat, h11 k341 = none → B k341 = none → ∀ h342 : Heap, h342 = Heap.set h11 k341 (.vec 144 (plains [(.slice none 0 0), (.slice none 0 0), (.slice none 0 0), (.slice none 0 0)]) 4) →
 cellH B h342 (Addr.add A14 3) = some (.int .i64 (i18)) ∧ CellsAt B h342 ⟨k7, 0, none⟩ 0 [(.int .i64 (i20)), (.int .i64 (i21)), (.int .i64 (i22)), (.int .i64 (i23))] ∧
 (C_reads_New B (i18) h342 (fun p346 h345 =>
 cellH B h345 (Addr.add A14 3) = some (.int .i64 (i18)) ∧ CellsAt B h345 ⟨k7, 0, none⟩ 0 [(.int .i64 (i20)), (.int .i64 (i21)), (.int .i64 (i22)), (.int .i64 (i23))] ∧
 (C_mark_Fresh B (i20) (i21) (i22) (i23) h345 (fun p350 p351 p352 i353 i354 i355 i356 h349 =>
 cellH B h349 (Addr.add A14 3) = some (.int .i64 (i18)) ∧ CellsAt B h349 ⟨k7, 0, none⟩ 0 [(.int .i64 (i20)), (.int .i64 (i21)), (.int .i64 (i22)), (.int .i64 (i23))] ∧
 ∀ k359 : Nat, h349 k359 = none → B k359 = none → ∀ h360 : Heap, h360 = Heap.set h349 k359 (.vec 147 (plains [(.slice none 0 0)]) 1) →
 cellH B h360 (Addr.add A14 3) = some (.int .i64 (i18)) ∧ CellsAt B h360 ⟨k7, 0, none⟩ 0 [(.int .i64 (i20)), (.int .i64 (i21)), (.int .i64 (i22)), (.int .i64 (i23))] ∧
 S_attempt_New_J2 B k7 p10 A14 i18 i20 i21 i22 i23 p346 p350 p351 p352 (i353) (i354) (i355) (i356) ⟨k341, 0, none⟩ ⟨k359, 0, none⟩ h360 Q)) ∧
 (∀ k363 : Nat, h345 k363 = none → B k363 = none → ∀ h364 : Heap, h364 = Heap.set h345 k363 (.vec 147 (plains [(.slice none 0 0)]) 1) →
 cellH B h364 (Addr.add A14 3) = some (.int .i64 (i18)) ∧ CellsAt B h364 ⟨k7, 0, none⟩ 0 [(.int .i64 (i20)), (.int .i64 (i21)), (.int .i64 (i22)), (.int .i64 (i23))] ∧
 C_mark_Fresh B (i20) (i21) (i22) (i23) h364 (fun p368 p369 p370 i371 i372 i373 i374 h367 =>
 cellH B h367 (Addr.add A14 3) = some (.int .i64 (i18)) ∧ CellsAt B h367 ⟨k7, 0, none⟩ 0 [(.int .i64 (i20)), (.int .i64 (i21)), (.int .i64 (i22)), (.int .i64 (i23))] ∧
 S_attempt_New_J2 B k7 p10 A14 i18 i20 i21 i22 i23 p346 p368 p369 p370 (i371) (i372) (i373) (i374) ⟨k341, 0, none⟩ ⟨k363, 0, none⟩ h367 Q)))) ∧
 (∀ k377 : Nat, h342 k377 = none → B k377 = none → ∀ h378 : Heap, h378 = Heap.set h342 k377 (.vec 147 (plains [(.slice none 0 0)]) 1) →
 cellH B h378 (Addr.add A14 3) = some (.int .i64 (i18)) ∧ CellsAt B h378 ⟨k7, 0, none⟩ 0 [(.int .i64 (i20)), (.int .i64 (i21)), (.int .i64 (i22)), (.int .i64 (i23))] ∧
 C_reads_New B (i18) h378 (fun p382 h381 =>
 cellH B h381 (Addr.add A14 3) = some (.int .i64 (i18)) ∧ CellsAt B h381 ⟨k7, 0, none⟩ 0 [(.int .i64 (i20)), (.int .i64 (i21)), (.int .i64 (i22)), (.int .i64 (i23))] ∧
 C_mark_Fresh B (i20) (i21) (i22) (i23) h381 (fun p386 p387 p388 i389 i390 i391 i392 h385 =>
 cellH B h385 (Addr.add A14 3) = some (.int .i64 (i18)) ∧ CellsAt B h385 ⟨k7, 0, none⟩ 0 [(.int .i64 (i20)), (.int .i64 (i21)), (.int .i64 (i22)), (.int .i64 (i23))] ∧
 S_attempt_New_J2 B k7 p10 A14 i18 i20 i21 i22 i23 p382 p386 p387 p388 (i389) (i390) (i391) (i392) ⟨k341, 0, none⟩ ⟨k377, 0, none⟩ h385 Q)))) ∧
 (∀ k395 : Nat, h11 k395 = none → B k395 = none → ∀ h396 : Heap, h396 = Heap.set h11 k395 (.vec 147 (plains [(.slice none 0 0)]) 1) →
 cellH B h396 (Addr.add A14 3) = some (.int .i64 (i18)) ∧ CellsAt B h396 ⟨k7, 0, none⟩ 0 [(.int .i64 (i20)), (.int .i64 (i21)), (.int .i64 (i22)), (.int .i64 (i23))] ∧
 (C_reads_New B (i18) h396 (fun p400 h399 =>
 cellH B h399 (Addr.add A14 3) = some (.int .i64 (i18)) ∧ CellsAt B h399 ⟨k7, 0, none⟩ 0 [(.int .i64 (i20)), (.int .i64 (i21)), (.int .i64 (i22)), (.int .i64 (i23))] ∧
 (C_mark_Fresh B (i20) (i21) (i22) (i23) h399 (fun p404 p405 p406 i407 i408 i409 i410 h403 =>
 cellH B h403 (Addr.add A14 3) = some (.int .i64 (i18)) ∧ CellsAt B h403 ⟨k7, 0, none⟩ 0 [(.int .i64 (i20)), (.int .i64 (i21)), (.int .i64 (i22)), (.int .i64 (i23))] ∧
 ∀ k413 : Nat, h403 k413 = none → B k413 = none → ∀ h414 : Heap, h414 = Heap.set h403 k413 (.vec 144 (plains [(.slice none 0 0), (.slice none 0 0), (.slice none 0 0), (.slice none 0 0)]) 4) →
 cellH B h414 (Addr.add A14 3) = some (.int .i64 (i18)) ∧ CellsAt B h414 ⟨k7, 0, none⟩ 0 [(.int .i64 (i20)), (.int .i64 (i21)), (.int .i64 (i22)), (.int .i64 (i23))] ∧
 S_attempt_New_J2 B k7 p10 A14 i18 i20 i21 i22 i23 p400 p404 p405 p406 (i407) (i408) (i409) (i410) ⟨k413, 0, none⟩ ⟨k395, 0, none⟩ h414 Q)) ∧
 (∀ k417 : Nat, h399 k417 = none → B k417 = none → ∀ h418 : Heap, h418 = Heap.set h399 k417 (.vec 144 (plains [(.slice none 0 0), (.slice none 0 0), (.slice none 0 0), (.slice none 0 0)]) 4) →
 cellH B h418 (Addr.add A14 3) = some (.int .i64 (i18)) ∧ CellsAt B h418 ⟨k7, 0, none⟩ 0 [(.int .i64 (i20)), (.int .i64 (i21)), (.int .i64 (i22)), (.int .i64 (i23))] ∧
 C_mark_Fresh B (i20) (i21) (i22) (i23) h418 (fun p422 p423 p424 i425 i426 i427 i428 h421 =>
 cellH B h421 (Addr.add A14 3) = some (.int .i64 (i18)) ∧ CellsAt B h421 ⟨k7, 0, none⟩ 0 [(.int .i64 (i20)), (.int .i64 (i21)), (.int .i64 (i22)), (.int .i64 (i23))] ∧
 S_attempt_New_J2 B k7 p10 A14 i18 i20 i21 i22 i23 p400 p422 p423 p424 (i425) (i426) (i427) (i428) ⟨k417, 0, none⟩ ⟨k395, 0, none⟩ h421 Q)))) ∧
 (∀ k431 : Nat, h396 k431 = none → B k431 = none → ∀ h432 : Heap, h432 = Heap.set h396 k431 (.vec 144 (plains [(.slice none 0 0), (.slice none 0 0), (.slice none 0 0), (.slice none 0 0)]) 4) →
 cellH B h432 (Addr.add A14 3) = some (.int .i64 (i18)) ∧ CellsAt B h432 ⟨k7, 0, none⟩ 0 [(.int .i64 (i20)), (.int .i64 (i21)), (.int .i64 (i22)), (.int .i64 (i23))] ∧
 C_reads_New B (i18) h432 (fun p436 h435 =>
 cellH B h435 (Addr.add A14 3) = some (.int .i64 (i18)) ∧ CellsAt B h435 ⟨k7, 0, none⟩ 0 [(.int .i64 (i20)), (.int .i64 (i21)), (.int .i64 (i22)), (.int .i64 (i23))] ∧
 C_mark_Fresh B (i20) (i21) (i22) (i23) h435 (fun p440 p441 p442 i443 i444 i445 i446 h439 =>
 cellH B h439 (Addr.add A14 3) = some (.int .i64 (i18)) ∧ CellsAt B h439 ⟨k7, 0, none⟩ 0 [(.int .i64 (i20)), (.int .i64 (i21)), (.int .i64 (i22)), (.int .i64 (i23))] ∧
 S_attempt_New_J2 B k7 p10 A14 i18 i20 i21 i22 i23 p436 p440 p441 p442 (i443) (i444) (i445) (i446) ⟨k431, 0, none⟩ ⟨k395, 0, none⟩ h439 Q))))
def S_attempt_New (B : RO) (p1 : Option Addr) (i2 : Int) (i3 : Int) (i4 : Int) (i5 : Int) (h : Heap) (Q : Option Addr → Heap → Prop) : Prop :=
 ∀ k7 : Nat, h k7 = none → B k7 = none → ∀ h8 : Heap, h8 = Heap.set h k7 (.vec 26 (plains [(.int .i64 (i2)), (.int .i64 (i3)), (.int .i64 (i4)), (.int .i64 (i5))]) 4) →
 (p1 = none →
 C_attempt_NewView B h8 (fun p451 h450 =>
 Fin B h450 (fun h' => S_attempt_New_J1 B k7 p451 h' Q))) ∧ (¬ (p1 = none) →
 Fin B h8 (fun h' => S_attempt_New_J1 B k7 p1 h' Q))
def S_draft_Draft_int_Get (B : RO) (p1 : Option Addr) (i2 : Int) (h : Heap) (Q : Int → Bool → Heap → Prop) : Prop :=
 (p1 = none →
 Fin B h (Q (0) (false))) ∧ (¬ (p1 = none) →
 C_draft_Draft_int_find B p1 (i2) h (fun i7 b8 h6 =>
 (b8 = true →
 ∃ A9 : Addr, p1 = some A9 ∧
 LdSl B h6 A9 fun a11 n12 c13 h14 =>
 ∃ A15 : Addr, a11 = some A15 ∧ 0 ≤ (i7 : Int) ∧ (i7 : Int) < (n12 : Nat) ∧
 ∃ i17 : Int, cellH B h14 (Addr.add (Addr.add A15 (Int.toNat (i7) * 2)) 1) = some (.int .i64 (i17)) ∧
 Fin B h14 (Q (i17) (true))) ∧ (b8 = false →
 Fin B h6 (Q (0) (false)))))
def S_attempt_Attempt_note (B : RO) (p1 : Option Addr) (i2 : Int) (i3 : Int) (h : Heap) (Q : Int → Heap → Prop) : Prop :=
 ∃ A6 : Addr, p1 = some A6 ∧
 ∃ p10 : Option Addr, cellH B h (Addr.add A6 1) = some (.pointer p10) ∧
 ∃ A13 : Addr, p1 = some A13 ∧
 ∃ p17 : Option Addr, cellH B h A13 = some (.pointer p17) ∧
 C_attempt_View_Now B p17 h (fun l22 h21 =>
 cellH B h21 (Addr.add A6 1) = some (.pointer p10) ∧ cellH B h21 A13 = some (.pointer p17) ∧
 C_reads_Set_Note B p10 l22 (i2) (i3) h21 (fun b26 h25 =>
 (b26 = true →
 cellH B h25 (Addr.add A6 1) = some (.pointer p10) ∧ cellH B h25 A13 = some (.pointer p17) ∧
 Fin B h25 (Q (0))) ∧ (b26 = false →
 cellH B h25 (Addr.add A6 1) = some (.pointer p10) ∧ cellH B h25 A13 = some (.pointer p17) ∧
 Fin B h25 (Q (9)))))
def S_cell_Row_int_Get (B : RO) (p1 : Option Addr) (i2 : Int) (h : Heap) (Q : Int → Int → Heap → Prop) : Prop :=
 C_cell_Row_int_is B p1 (i2) h (fun b6 h5 =>
 (b6 = true →
 ∃ A7 : Addr, p1 = some A7 ∧
 ∃ a9 : Option Addr, ∃ n10 : Nat, ∃ c11 : Nat, cellH B h5 A7 = some (.slice a9 n10 c11) ∧
 ∃ A12 : Addr, a9 = some A12 ∧ 0 ≤ (i2 : Int) ∧ (i2 : Int) < (n10 : Nat) ∧
 ∃ i14 : Int, cellH B h5 (Addr.add A12 (Int.toNat (i2) * 2)) = some (.int .i64 (i14)) ∧
 ∃ A15 : Addr, p1 = some A15 ∧
 ∃ a17 : Option Addr, ∃ n18 : Nat, ∃ c19 : Nat, cellH B h5 A15 = some (.slice a17 n18 c19) ∧
 ∃ A20 : Addr, a17 = some A20 ∧ 0 ≤ (i2 : Int) ∧ (i2 : Int) < (n18 : Nat) ∧
 ∃ i22 : Int, cellH B h5 (Addr.add (Addr.add A20 (Int.toNat (i2) * 2)) 1) = some (.int .i64 (i22)) ∧
 Fin B h5 (Q (i14) (i22))) ∧ (b6 = false →
 Fin B h5 (Q (0) (0))))
def S_reads_Set_Valid (B : RO) (p1 : Option Addr) (l2 : List Value) (h : Heap) (Q : Bool → Heap → Prop) : Prop :=
 ∀ k4 : Nat, h k4 = none → B k4 = none → ∀ h5 : Heap, h5 = Heap.set h k4 (.vec 65 (plains l2) (List.length l2)) →
 (p1 = none →
 Fin B h5 (Q (true))) ∧ (¬ (p1 = none) →
 ∃ A7 : Addr, p1 = some A7 ∧
 LdSl B h5 A7 fun a9 n10 c11 h12 =>
 ∃ (J18 : Int → Nat → Heap → Prop) (m16 : Nat), Fin B h12 (J18 (0) m16) ∧
 ∀ (i13 : Int) (m15 : Nat) (h14 : Heap), J18 i13 m15 h14 →
 ((i13 : Int) < ((n10 : Nat)) →
 ∃ A19 : Addr, a9 = some A19 ∧ 0 ≤ (i13 : Int) ∧ (i13 : Int) < (n10 : Nat) ∧
 ∃ i21 : Int, ∃ i22 : Int, ∃ i23 : Int, CellsAt B h14 (Addr.add A19 (Int.toNat (i13) * 3)) 0 [(.int .i64 (i21)), (.int .i64 (i22)), (.int .i64 (i23))] ∧
 ∀ k24 : Nat, h14 k24 = none → B k24 = none → ∀ h25 : Heap, h25 = Heap.set h14 k24 (.vec 174 (plains [(.int .i64 (0)), (.int .i64 (0)), (.int .i64 (0))]) 3) →
 ∃ h26 : Heap, StoresAt ⟨k24, 0, none⟩ h25 0 [(.int .i64 (i21)), (.int .i64 (i22)), (.int .i64 (i23))] h26 ∧
 ∃ l27 : List Value, List.length l27 = 25 ∧ CellsAt B h26 ⟨k4, 0, none⟩ 0 l27 ∧
 ∃ i30 : Int, cellH B h26 ⟨k24, 0, none⟩ = some (.int .i64 (i30)) ∧
 ∃ i33 : Int, cellH B h26 ⟨k24, 1, none⟩ = some (.int .i64 (i33)) ∧
 ∃ i36 : Int, cellH B h26 ⟨k24, 2, none⟩ = some (.int .i64 (i36)) ∧
 C_reads_Now_Of B l27 (i30) (i33) h26 (fun i39 h38 =>
 CellsAt B h38 ⟨k4, 0, none⟩ 0 l27 ∧ cellH B h38 ⟨k24, 0, none⟩ = some (.int .i64 (i30)) ∧ cellH B h38 ⟨k24, 1, none⟩ = some (.int .i64 (i33)) ∧ cellH B h38 ⟨k24, 2, none⟩ = some (.int .i64 (i36)) ∧
 ((i39 : Int) = i36 →
 Fin B h38 (fun h' => ∃ m', m' < m15 ∧ J18 (IntKind.wrap .i64 ((i13) + (1))) m' h')) ∧ (¬ ((i39 : Int) = i36) →
 Fin B h38 (Q (false))))) ∧ (¬ ((i13 : Int) < ((n10 : Nat))) →
 Fin B h14 (Q (true))))
def S_draft_Draft_int_All (B : RO) (p1 : Option Addr) (h : Heap) (Q : Value → Heap → Prop) : Prop :=
 ∀ k3 : Nat, h k3 = none → B k3 = none → ∀ h4 : Heap, h4 = Heap.set h k3 (.vec 91 [.plain (.pointer p1)] 1) →
 Fin B h4 (Q (Value.func (.func 85) #[] #[(.pointer (some ⟨k3, 0, none⟩))]))
def S_cell_Row_int_Set (B : RO) (p1 : Option Addr) (i2 : Int) (i3 : Int) (i4 : Int) (h : Heap) (Q : Bool → Heap → Prop) : Prop :=
 C_cell_Row_int_is B p1 (i2) h (fun b7 h6 =>
 (b7 = true →
 ∃ A8 : Addr, p1 = some A8 ∧
 LdSl B h6 A8 fun a10 n11 c12 h13 =>
 ∃ A14 : Addr, a10 = some A14 ∧ 0 ≤ (i2 : Int) ∧ (i2 : Int) < (n11 : Nat) ∧
 ∃ h16 : Heap, StoresAt (Addr.add A14 (Int.toNat (i2) * 2)) h13 0 [(.int .i64 (i3)), (.int .i64 (i4))] h16 ∧
 Fin B h16 (Q (true))) ∧ (b7 = false →
 Fin B h6 (Q (false))))
def S_sheet_Sheet_Over (B : RO) (p1 : Option Addr) (p2 : Option Addr) (i3 : Int) (h : Heap) (Q : Int → Heap → Prop) : Prop :=
 ∀ k5 : Nat, h k5 = none → B k5 = none → ∀ h6 : Heap, h6 = Heap.set h k5 (.vec 40 [.plain (.pointer p2)] 1) →
 ∀ k7 : Nat, h6 k7 = none → B k7 = none → ∀ h8 : Heap, h8 = Heap.set h6 k7 (.vec 3 [.plain (.int .i64 (i3))] 1) →
 ∀ k9 : Nat, h8 k9 = none → B k9 = none → ∀ h10 : Heap, h10 = Heap.set h8 k9 (.vec 3 (plains [(.int .i64 (0))]) 1) →
 ∃ h11 : Heap, storeH h10 ⟨k9, 0, none⟩ (.int .i64 (0)) = some h11 ∧
 C_sheet_Sheet_Draft B p1 h11 (fun p13 h12 =>
 C_draft_Draft_file_File_All B p13 h12 (fun v15 h14 =>
 ∃ (xs23 : List (Int × Bool × ByteArray)) (G19 : Heap → Prop) (J22 : Nat → Heap → Prop), Iter PG B v15 (xs23.map (fun x : Int × Bool × ByteArray => [(.int .i64 (x.1)), (.agg #[(.bool x.2.1), (.string x.2.2)])])) G19 ∧ Ins G19 ∧ (∀ i h, J22 i h → G19 h) ∧ Fin B h14 (J22 0) ∧
 (∀ (q21 : Nat) (h20 : Heap) (i16 : Int) (b17 : Bool) (s18 : ByteArray), xs23[q21]? = some (i16, b17, s18) → J22 q21 h20 →
 ∀ k24 : Nat, h20 k24 = none → B k24 = none → ∀ h25 : Heap, h25 = Heap.set h20 k24 (.vec 119 (plains [(.bool false), (.string ByteArray.empty)]) 2) →
 ∃ h26 : Heap, StoresAt ⟨k24, 0, none⟩ h25 0 [(.bool b17), (.string s18)] h26 ∧
 ∃ p27 : Option Addr, cellH B h26 ⟨k5, 0, none⟩ = some (.pointer p27) ∧
 ∃ b28 : Bool, ∃ s29 : ByteArray, CellsAt B h26 ⟨k24, 0, none⟩ 0 [(.bool b28), (.string s29)] ∧
 ∃ i30 : Int, cellH B h26 ⟨k7, 0, none⟩ = some (.int .i64 (i30)) ∧
 C_tome_Tome_Set B p27 (i16) (b28) s29 (i30) h26 (fun b32 h31 =>
 (b32 = true →
 ∃ i33 : Int, cellH B h31 ⟨k9, 0, none⟩ = some (.int .i64 (i33)) ∧
 ∃ h34 : Heap, storeH h31 ⟨k9, 0, none⟩ (.int .i64 (IntKind.wrap .i64 ((i33) + (1)))) = some h34 ∧
 Fin B h34 (J22 (q21 + 1))) ∧ (b32 = false →
 Fin B h31 (J22 (q21 + 1))))) ∧
 (∀ (h20 : Heap), J22 xs23.length h20 →
 ∃ i35 : Int, cellH B h20 ⟨k9, 0, none⟩ = some (.int .i64 (i35)) ∧
 Fin B h20 (Q (i35)))))
def S_cursor_Cursor_Read_J1 (B : RO) (p1 : Option Addr) (i2 : Int) (h5 : Heap) (Q : Int → Heap → Prop) : Prop :=
 ∃ A6 : Addr, p1 = some A6 ∧
 0 ≤ (i2 : Int) ∧ (i2 : Int) < (3 : Nat) ∧
 ∃ i8 : Int, cellH B h5 (Addr.add A6 (Int.toNat (i2) * 1)) = some (.int .i64 (i8)) ∧
 Fin B h5 (Q (i8))
def S_cursor_Cursor_Read (B : RO) (p1 : Option Addr) (i2 : Int) (h : Heap) (Q : Int → Heap → Prop) : Prop :=
 (p1 = none →
 Fin B h (Q (0))) ∧ (¬ (p1 = none) →
 C_cursor_is B (i2) h (fun b11 h10 =>
 (b11 = true →
 Fin B h10 (fun h' => S_cursor_Cursor_Read_J1 B p1 i2 h' Q)) ∧ (b11 = false →
 Fin B h10 (Q (0)))))
def S_feed_Feed_Place (B : RO) (p1 : Option Addr) (i2 : Int) (h : Heap) (Q : Int → Int → Heap → Prop) : Prop :=
 (p1 = none →
 Fin B h (Q (0) (0))) ∧ (¬ (p1 = none) →
 ∃ A6 : Addr, p1 = some A6 ∧
 ∃ p8 : Option Addr, cellH B h (Addr.add A6 3) = some (.pointer p8) ∧
 C_cell_Row_int_Get B p8 (i2) h (fun i10 i11 h9 =>
 Fin B h9 (Q (i10) (i11))))
def S_feed_Feed_Take_J1 (B : RO) (p1 : Option Addr) (i2 : Int) (i3 : Int) (i4 : Int) (h10 : Heap) (Q : Bool → Heap → Prop) : Prop :=
 ∃ A11 : Addr, p1 = some A11 ∧
 ∃ p13 : Option Addr, cellH B h10 (Addr.add A11 3) = some (.pointer p13) ∧
 C_cell_Row_int_Set B p13 (i2) (i3) (i4) h10 (fun b15 h14 =>
 Fin B h14 (Q (b15)))
def S_feed_Feed_Take (B : RO) (p1 : Option Addr) (i2 : Int) (i3 : Int) (i4 : Int) (h : Heap) (Q : Bool → Heap → Prop) : Prop :=
 C_feed_Feed_Place B p1 (i2) h (fun i7 i8 h6 =>
 C_feed_Feed_is B p1 (i2) h6 (fun b17 h16 =>
 (b17 = true →
 ((i3 : Int) < (i7) →
 Fin B h16 (Q (false))) ∧ (¬ ((i3 : Int) < (i7)) →
 ∃ A18 : Addr, p1 = some A18 ∧
 0 ≤ (i2 : Int) ∧ (i2 : Int) < (3 : Nat) ∧
 ∃ s20 : ByteArray, cellH B h16 (Addr.add A18 (Int.toNat (i2) * 1)) = some (.string s20) ∧
 ((i3 : Int) > ((ByteArray.size s20 : Nat)) →
 Fin B h16 (Q (false))) ∧ (¬ ((i3 : Int) > ((ByteArray.size s20 : Nat))) →
 Fin B h16 (fun h' => S_feed_Feed_Take_J1 B p1 i2 i3 i4 h' Q)))) ∧ (b17 = false →
 Fin B h16 (Q (false)))))
def S_tome_Tome_Get (B : RO) (p1 : Option Addr) (i2 : Int) (h : Heap) (Q : Bool → ByteArray → Int → Heap → Prop) : Prop :=
 ∀ k6 : Nat, h k6 = none → B k6 = none → ∀ h7 : Heap, h7 = Heap.set h k6 (.vec 119 (plains [(.bool false), (.string ByteArray.empty)]) 2) →
 (p1 = none →
 ∃ h9 : Heap, StoresAt ⟨k6, 0, none⟩ h7 0 [(.bool false), (.string ByteArray.empty)] h9 ∧
 ∃ b10 : Bool, ∃ s11 : ByteArray, CellsAt B h9 ⟨k6, 0, none⟩ 0 [(.bool b10), (.string s11)] ∧ Fin B h9 (Q (b10) s11 (0))) ∧ (¬ (p1 = none) →
 ∃ A12 : Addr, p1 = some A12 ∧
 ∃ p14 : Option Addr, cellH B h7 A12 = some (.pointer p14) ∧
 C_cell_Row_file_File_Get B p14 (i2) h7 (fun b16 s17 i18 h15 =>
 ∃ h19 : Heap, StoresAt ⟨k6, 0, none⟩ h15 0 [(.bool b16), (.string s17)] h19 ∧
 ∃ b20 : Bool, ∃ s21 : ByteArray, CellsAt B h19 ⟨k6, 0, none⟩ 0 [(.bool b20), (.string s21)] ∧ Fin B h19 (Q (b20) s21 (i18))))
def S_feed_Feed_Text (B : RO) (p1 : Option Addr) (i2 : Int) (h : Heap) (Q : ByteArray → Heap → Prop) : Prop :=
 C_feed_Feed_is B p1 (i2) h (fun b5 h4 =>
 (b5 = true →
 ∃ A6 : Addr, p1 = some A6 ∧
 0 ≤ (i2 : Int) ∧ (i2 : Int) < (3 : Nat) ∧
 ∃ s8 : ByteArray, cellH B h4 (Addr.add A6 (Int.toNat (i2) * 1)) = some (.string s8) ∧
 Fin B h4 (Q s8)) ∧ (b5 = false →
 Fin B h4 (Q (ByteArray.mk #[]))))
def S_attempt_Attempt_Read (B : RO) (p1 : Option Addr) (i2 : Int) (i3 : Int) (h : Heap) (Q : Int → Int → Heap → Prop) : Prop :=
 C_attempt_Attempt_touch B p1 (i2) h (fun b7 s8 i9 h6 =>
 ∀ k10 : Nat, h6 k10 = none → B k10 = none → ∀ h11 : Heap, h11 = Heap.set h6 k10 (.vec 119 (plains [(.bool false), (.string ByteArray.empty)]) 2) →
 ∃ h12 : Heap, StoresAt ⟨k10, 0, none⟩ h11 0 [(.bool b7), (.string s8)] h12 ∧
 ((i9 : Int) = 0 →
 ∃ b13 : Bool, ∃ s14 : ByteArray, CellsAt B h12 ⟨k10, 0, none⟩ 0 [(.bool b13), (.string s14)] ∧
 C_file_At B (b13) s14 (i3) h12 (fun i16 h15 =>
 Fin B h15 (Q (i16) (0)))) ∧ (¬ ((i9 : Int) = 0) →
 Fin B h12 (Q (0) (i9))))
def S_attempt_Attempt_Write (B : RO) (p1 : Option Addr) (i2 : Int) (i3 : Int) (i4 : Int) (h : Heap) (Q : Int → Heap → Prop) : Prop :=
 C_attempt_Attempt_touch B p1 (i2) h (fun b7 s8 i9 h6 =>
 ∀ k10 : Nat, h6 k10 = none → B k10 = none → ∀ h11 : Heap, h11 = Heap.set h6 k10 (.vec 119 (plains [(.bool false), (.string ByteArray.empty)]) 2) →
 ∃ h12 : Heap, StoresAt ⟨k10, 0, none⟩ h11 0 [(.bool b7), (.string s8)] h12 ∧
 ((i9 : Int) = 0 →
 ∃ A13 : Addr, p1 = some A13 ∧
 ∃ p15 : Option Addr, cellH B h12 (Addr.add (Addr.add A13 2) 1) = some (.pointer p15) ∧
 ∃ A16 : Addr, p1 = some A16 ∧
 ∃ p18 : Option Addr, cellH B h12 A16 = some (.pointer p18) ∧
 ∃ A19 : Addr, p18 = some A19 ∧
 ∃ p21 : Option Addr, cellH B h12 (Addr.add A19 1) = some (.pointer p21) ∧
 C_sheet_Sheet_Write B p15 p21 (i2) (i3) (i4) h12 (fun b23 h22 =>
 Fin B h22 (Q (i9)))) ∧ (¬ ((i9 : Int) = 0) →
 Fin B h12 (Q (i9))))
def S_attempt_Attempt_Create (B : RO) (p1 : Option Addr) (i2 : Int) (h : Heap) (Q : Int → Heap → Prop) : Prop :=
 C_attempt_Attempt_touch B p1 (i2) h (fun b5 s6 i7 h4 =>
 ∀ k8 : Nat, h4 k8 = none → B k8 = none → ∀ h9 : Heap, h9 = Heap.set h4 k8 (.vec 119 (plains [(.bool false), (.string ByteArray.empty)]) 2) →
 ∃ h10 : Heap, StoresAt ⟨k8, 0, none⟩ h9 0 [(.bool b5), (.string s6)] h10 ∧
 ((i7 : Int) = 0 →
 ∃ A11 : Addr, p1 = some A11 ∧
 ∃ p13 : Option Addr, cellH B h10 (Addr.add (Addr.add A11 2) 1) = some (.pointer p13) ∧
 ∃ A14 : Addr, p1 = some A14 ∧
 ∃ p16 : Option Addr, cellH B h10 A14 = some (.pointer p16) ∧
 ∃ A17 : Addr, p16 = some A17 ∧
 ∃ p19 : Option Addr, cellH B h10 (Addr.add A17 1) = some (.pointer p19) ∧
 C_sheet_Sheet_Create B p13 p19 (i2) h10 (fun b21 h20 =>
 Fin B h20 (Q (i7)))) ∧ (¬ ((i7 : Int) = 0) →
 Fin B h10 (Q (i7))))
def S_attempt_Attempt_Remove (B : RO) (p1 : Option Addr) (i2 : Int) (h : Heap) (Q : Int → Heap → Prop) : Prop :=
 C_attempt_Attempt_touch B p1 (i2) h (fun b5 s6 i7 h4 =>
 ∀ k8 : Nat, h4 k8 = none → B k8 = none → ∀ h9 : Heap, h9 = Heap.set h4 k8 (.vec 119 (plains [(.bool false), (.string ByteArray.empty)]) 2) →
 ∃ h10 : Heap, StoresAt ⟨k8, 0, none⟩ h9 0 [(.bool b5), (.string s6)] h10 ∧
 ((i7 : Int) = 0 →
 ∃ A11 : Addr, p1 = some A11 ∧
 ∃ p13 : Option Addr, cellH B h10 (Addr.add (Addr.add A11 2) 1) = some (.pointer p13) ∧
 ∃ A14 : Addr, p1 = some A14 ∧
 ∃ p16 : Option Addr, cellH B h10 A14 = some (.pointer p16) ∧
 ∃ A17 : Addr, p16 = some A17 ∧
 ∃ p19 : Option Addr, cellH B h10 (Addr.add A17 1) = some (.pointer p19) ∧
 C_sheet_Sheet_Remove B p13 p19 (i2) h10 (fun b21 h20 =>
 Fin B h20 (Q (i7)))) ∧ (¬ ((i7 : Int) = 0) →
 Fin B h10 (Q (i7))))
def S_attempt_Attempt_Rename_J2 (B : RO) (p1 : Option Addr) (i2 : Int) (i3 : Int) (i15 : Int) (h16 : Heap) (Q : Int → Heap → Prop) : Prop :=
 ((i15 : Int) = 0 →
 ∃ A17 : Addr, p1 = some A17 ∧
 ∃ p19 : Option Addr, cellH B h16 (Addr.add (Addr.add A17 2) 1) = some (.pointer p19) ∧
 ∃ A20 : Addr, p1 = some A20 ∧
 ∃ p22 : Option Addr, cellH B h16 A20 = some (.pointer p22) ∧
 ∃ A23 : Addr, p22 = some A23 ∧
 ∃ p25 : Option Addr, cellH B h16 (Addr.add A23 1) = some (.pointer p25) ∧
 C_sheet_Sheet_Rename B p19 p25 (i2) (i3) h16 (fun b27 h26 =>
 Fin B h26 (Q (i15)))) ∧ (¬ ((i15 : Int) = 0) →
 Fin B h16 (Q (i15)))
def S_attempt_Attempt_Rename_J1 (B : RO) (p1 : Option Addr) (i2 : Int) (i3 : Int) (h6 : Heap) (Q : Int → Heap → Prop) : Prop :=
 C_attempt_Attempt_touch B p1 (i2) h6 (fun b8 s9 i10 h7 =>
 ∀ k11 : Nat, h7 k11 = none → B k11 = none → ∀ h12 : Heap, h12 = Heap.set h7 k11 (.vec 119 (plains [(.bool false), (.string ByteArray.empty)]) 2) →
 ∃ h13 : Heap, StoresAt ⟨k11, 0, none⟩ h12 0 [(.bool b8), (.string s9)] h13 ∧
 ((i10 : Int) = 0 →
 C_attempt_Attempt_touch B p1 (i3) h13 (fun b29 s30 i31 h28 =>
 Fin B h28 (fun h' => S_attempt_Attempt_Rename_J2 B p1 i2 i3 (i31) h' Q))) ∧ (¬ ((i10 : Int) = 0) →
 Fin B h13 (fun h' => S_attempt_Attempt_Rename_J2 B p1 i2 i3 (i10) h' Q)))
def S_attempt_Attempt_Rename (B : RO) (p1 : Option Addr) (i2 : Int) (i3 : Int) (h : Heap) (Q : Int → Heap → Prop) : Prop :=
 (p1 = none →
 Fin B h (fun h' => S_attempt_Attempt_Rename_J1 B p1 i2 i3 h' Q)) ∧ (¬ (p1 = none) →
 ((i3 : Int) < (0) →
 Fin B h (Q (1))) ∧ (¬ ((i3 : Int) < (0)) →
 ((i3 : Int) ≥ (6) →
 Fin B h (Q (1))) ∧ (¬ ((i3 : Int) ≥ (6)) →
 Fin B h (fun h' => S_attempt_Attempt_Rename_J1 B p1 i2 i3 h' Q))))
def S_attempt_Attempt_Cut (B : RO) (p1 : Option Addr) (i2 : Int) (i3 : Int) (h : Heap) (Q : Int → Heap → Prop) : Prop :=
 C_attempt_Attempt_touch B p1 (i2) h (fun b6 s7 i8 h5 =>
 ∀ k9 : Nat, h5 k9 = none → B k9 = none → ∀ h10 : Heap, h10 = Heap.set h5 k9 (.vec 119 (plains [(.bool false), (.string ByteArray.empty)]) 2) →
 ∃ h11 : Heap, StoresAt ⟨k9, 0, none⟩ h10 0 [(.bool b6), (.string s7)] h11 ∧
 ((i8 : Int) = 0 →
 ∃ A12 : Addr, p1 = some A12 ∧
 ∃ p14 : Option Addr, cellH B h11 (Addr.add (Addr.add A12 2) 1) = some (.pointer p14) ∧
 ∃ A15 : Addr, p1 = some A15 ∧
 ∃ p17 : Option Addr, cellH B h11 A15 = some (.pointer p17) ∧
 ∃ A18 : Addr, p17 = some A18 ∧
 ∃ p20 : Option Addr, cellH B h11 (Addr.add A18 1) = some (.pointer p20) ∧
 C_sheet_Sheet_Cut B p14 p20 (i2) (i3) h11 (fun b22 h21 =>
 Fin B h21 (Q (i8)))) ∧ (¬ ((i8 : Int) = 0) →
 Fin B h11 (Q (i8))))
def S_attempt_Attempt_Recv_J1 (B : RO) (p1 : Option Addr) (i2 : Int) (h6 : Heap) (Q : Int → Int → Heap → Prop) : Prop :=
 C_attempt_Attempt_note B p1 (2) (i2) h6 (fun i8 h7 =>
 ((i8 : Int) = 0 →
 ∃ A9 : Addr, p1 = some A9 ∧
 ∃ p11 : Option Addr, cellH B h7 A9 = some (.pointer p11) ∧
 ∃ A12 : Addr, p11 = some A12 ∧
 ∃ p14 : Option Addr, cellH B h7 (Addr.add A12 2) = some (.pointer p14) ∧
 C_feed_Feed_Place B p14 (i2) h7 (fun i16 i17 h15 =>
 ∃ A19 : Addr, p1 = some A19 ∧
 ∃ p23 : Option Addr, cellH B h15 A19 = some (.pointer p23) ∧
 ∃ A25 : Addr, p23 = some A25 ∧
 ∃ p29 : Option Addr, cellH B h15 (Addr.add A25 2) = some (.pointer p29) ∧
 ∃ A33 : Addr, p1 = some A33 ∧
 ∃ p38 : Option Addr, cellH B h15 (Addr.add (Addr.add A33 2) 2) = some (.pointer p38) ∧
 C_cursor_Cursor_At B p38 (i2) (i16) h15 (fun i43 h42 =>
 cellH B h42 A19 = some (.pointer p23) ∧ cellH B h42 (Addr.add A25 2) = some (.pointer p29) ∧ cellH B h42 (Addr.add (Addr.add A33 2) 2) = some (.pointer p38) ∧
 C_feed_Feed_At B p29 (i2) (i43) h42 (fun i48 h47 =>
 cellH B h47 A19 = some (.pointer p23) ∧ cellH B h47 (Addr.add A25 2) = some (.pointer p29) ∧ cellH B h47 (Addr.add (Addr.add A33 2) 2) = some (.pointer p38) ∧
 ((i48 : Int) < (0) →
 Fin B h47 (Q (0) (10))) ∧ (¬ ((i48 : Int) < (0)) →
 ∃ A52 : Addr, p1 = some A52 ∧
 ∃ p54 : Option Addr, cellH B h47 (Addr.add (Addr.add A52 2) 2) = some (.pointer p54) ∧
 C_cursor_Cursor_Step B p54 (i2) h47 (fun b56 h55 =>
 Fin B h55 (Q (i48) (0)))))))) ∧ (¬ ((i8 : Int) = 0) →
 Fin B h7 (Q (0) (i8))))
def S_attempt_Attempt_Recv (B : RO) (p1 : Option Addr) (i2 : Int) (h : Heap) (Q : Int → Int → Heap → Prop) : Prop :=
 (p1 = none →
 Fin B h (Q (0) (2))) ∧ (¬ (p1 = none) →
 ((i2 : Int) < (0) →
 Fin B h (Q (0) (1))) ∧ (¬ ((i2 : Int) < (0)) →
 ((i2 : Int) ≥ (3) →
 Fin B h (Q (0) (1))) ∧ (¬ ((i2 : Int) ≥ (3)) →
 Fin B h (fun h' => S_attempt_Attempt_Recv_J1 B p1 i2 h' Q))))
def S_feed_Feed_is (B : RO) (p1 : Option Addr) (i2 : Int) (h : Heap) (Q : Bool → Heap → Prop) : Prop :=
 (p1 = none →
 Fin B h (Q (false))) ∧ (¬ (p1 = none) →
 ((i2 : Int) ≥ (0) →
 Fin B h (Q ((decide ((i2 : Int) < (3)))))) ∧ (¬ ((i2 : Int) ≥ (0)) →
 Fin B h (Q (false))))
def S_cell_Row_int_Version (B : RO) (p1 : Option Addr) (i2 : Int) (h : Heap) (Q : Int → Heap → Prop) : Prop :=
 C_cell_Row_int_Get B p1 (i2) h (fun i5 i6 h4 =>
 Fin B h4 (Q (i6)))
def S_draft_Draft_int_Put (B : RO) (p1 : Option Addr) (i2 : Int) (i3 : Int) (h : Heap) (Q : Bool → Heap → Prop) : Prop :=
 (p1 = none →
 Fin B h (Q (false))) ∧ (¬ (p1 = none) →
 C_draft_Draft_int_find B p1 (i2) h (fun i7 b8 h6 =>
 (b8 = true →
 ∃ A24 : Addr, p1 = some A24 ∧
 LdSl B h6 A24 fun a26 n27 c28 h29 =>
 ∃ A30 : Addr, a26 = some A30 ∧ 0 ≤ (i7 : Int) ∧ (i7 : Int) < (n27 : Nat) ∧
 ∃ h32 : Heap, storeH h29 (Addr.add (Addr.add A30 (Int.toNat (i7) * 2)) 1) (.int .i64 (i3)) = some h32 ∧
 Fin B h32 (Q (true))) ∧ (b8 = false →
 ∃ A9 : Addr, p1 = some A9 ∧
 LdSl B h6 A9 fun a11 n12 c13 h14 =>
 ∀ k15 : Nat, h14 k15 = none → B k15 = none → ∀ h16 : Heap, h16 = Heap.set h14 k15 (.vec 163 (plains [(.int .i64 (i2)), (.int .i64 (i3))]) 2) →
 C_slices_Insert_s_draft_entry_int_draft_entry_int B a11 n12 c13 (i7) (some ⟨k15, 0, none⟩) 1 1 h16 (fun a18 n19 c20 h17 =>
 ∃ A21 : Addr, p1 = some A21 ∧
 ∃ h23 : Heap, storeH h17 A21 (.slice a18 n19 c20) = some h23 ∧
 Fin B h23 (Q (true))))))
def S_cell_New_int (B : RO) (i1 : Int) (i2 : Int) (h : Heap) (Q : Option Addr → Heap → Prop) : Prop :=
 ∀ k4 : Nat, h k4 = none → B k4 = none → ∀ h5 : Heap, h5 = Heap.set h k4 (.vec 172 (plains [(.slice none 0 0)]) 1) →
 ∃ (J11 : Int → Nat → Heap → Prop) (m9 : Nat), Fin B h5 (J11 (0) m9) ∧
 ∀ (i6 : Int) (m8 : Nat) (h7 : Heap), J11 i6 m8 h7 →
 ((i6 : Int) < (i1) →
 LdSl B h7 ⟨k4, 0, none⟩ fun a12 n13 c14 h15 =>
 ∀ k16 : Nat, h15 k16 = none → B k16 = none → ∀ h17 : Heap, h17 = Heap.set h15 k16 (.vec 169 (plains [(.int .i64 (i2)), (.int .i64 (0))]) 2) →
 semH PG B (Builtin.append_ #[170, 170] 170 #[(.slice a12 n13 c14), (.slice (some ⟨k16, 0, none⟩) 1 1)]) h17 (fun v h18 => ∃ a19 : Option Addr, ∃ n20 : Nat, ∃ c21 : Nat, v = (.slice a19 n20 c21) ∧
 ∃ h22 : Heap, storeH h18 ⟨k4, 0, none⟩ (.slice a19 n20 c21) = some h22 ∧
 Fin B h22 (fun h' => ∃ m', m' < m8 ∧ J11 (IntKind.wrap .i64 ((i6) + (1))) m' h'))) ∧ (¬ ((i6 : Int) < (i1)) →
 Fin B h7 (Q (some ⟨k4, 0, none⟩)))
def S_tome_New (B : RO) (h : Heap) (Q : Option Addr → Heap → Prop) : Prop :=
 C_cell_New_file_File B (6) (false) ByteArray.empty h (fun p3 h2 =>
 ∀ k4 : Nat, h2 k4 = none → B k4 = none → ∀ h5 : Heap, h5 = Heap.set h2 k4 (.vec 184 (plains [(.pointer p3)]) 1) →
 Fin B h5 (Q (some ⟨k4, 0, none⟩)))
def S_feed_New (B : RO) (h : Heap) (Q : Option Addr → Heap → Prop) : Prop :=
 C_cell_New_int B (3) (0) h (fun p3 h2 =>
 ∀ k4 : Nat, h2 k4 = none → B k4 = none → ∀ h5 : Heap, h5 = Heap.set h2 k4 (.vec 128 (plains [(.string ByteArray.empty), (.string ByteArray.empty), (.string ByteArray.empty), (.pointer p3)]) 4) →
 Fin B h5 (Q (some ⟨k4, 0, none⟩)))
def S_reads_New (B : RO) (i1 : Int) (h : Heap) (Q : Option Addr → Heap → Prop) : Prop :=
 ∀ k3 : Nat, h k3 = none → B k3 = none → ∀ h4 : Heap, h4 = Heap.set h k3 (.vec 137 (plains [(.slice none 0 0), (.int .i64 (i1))]) 2) →
 Fin B h4 (Q (some ⟨k3, 0, none⟩))
def S_mark_Fresh_J1 (B : RO) (k12 : Nat) (k14 : Nat) (i18 : Int) (i19 : Int) (i20 : Int) (i21 : Int) (A69 : Addr) (p70 : Option Addr) (A71 : Addr) (h72 : Heap) (Q : Option Addr → Option Addr → Option Addr → Int → Int → Int → Int → Heap → Prop) : Prop :=
 ∃ h74 : Heap, StoresAt ⟨k14, 0, none⟩ h72 0 [(.pointer (some A69)), (.pointer p70), (.pointer (some A71)), (.int .i64 (i18)), (.int .i64 (i19)), (.int .i64 (i20)), (.int .i64 (i21))] h74 ∧
 ∃ p75 : Option Addr, ∃ p76 : Option Addr, ∃ p77 : Option Addr, ∃ i78 : Int, ∃ i79 : Int, ∃ i80 : Int, ∃ i81 : Int, CellsAt B h74 ⟨k14, 0, none⟩ 0 [(.pointer p75), (.pointer p76), (.pointer p77), (.int .i64 (i78)), (.int .i64 (i79)), (.int .i64 (i80)), (.int .i64 (i81))] ∧ Fin B h74 (Q p75 p76 p77 (i78) (i79) (i80) (i81))
def S_mark_Fresh (B : RO) (i1 : Int) (i2 : Int) (i3 : Int) (i4 : Int) (h : Heap) (Q : Option Addr → Option Addr → Option Addr → Int → Int → Int → Int → Heap → Prop) : Prop :=
 ∀ k12 : Nat, h k12 = none → B k12 = none → ∀ h13 : Heap, h13 = Heap.set h k12 (.vec 26 (plains [(.int .i64 (i1)), (.int .i64 (i2)), (.int .i64 (i3)), (.int .i64 (i4))]) 4) →
 ∀ k14 : Nat, h13 k14 = none → B k14 = none → ∀ h15 : Heap, h15 = Heap.set h13 k14 (.vec 95 (plains [(.pointer none), (.pointer none), (.pointer none), (.int .i64 (0)), (.int .i64 (0)), (.int .i64 (0)), (.int .i64 (0))]) 7) →
 ∃ i18 : Int, ∃ i19 : Int, ∃ i20 : Int, ∃ i21 : Int, CellsAt B h15 ⟨k12, 0, none⟩ 0 [(.int .i64 (i18)), (.int .i64 (i19)), (.int .i64 (i20)), (.int .i64 (i21))] ∧
 (∀ k82 : Nat, h15 k82 = none → B k82 = none → ∀ h83 : Heap, h83 = Heap.set h15 k82 (.vec 166 (plains [(.slice none 0 0)]) 1) →
 CellsAt B h83 ⟨k12, 0, none⟩ 0 [(.int .i64 (i18)), (.int .i64 (i19)), (.int .i64 (i20)), (.int .i64 (i21))] ∧
 (C_sheet_New B h83 (fun p86 h85 =>
 CellsAt B h85 ⟨k12, 0, none⟩ 0 [(.int .i64 (i18)), (.int .i64 (i19)), (.int .i64 (i20)), (.int .i64 (i21))] ∧
 ∀ k88 : Nat, h85 k88 = none → B k88 = none → ∀ h89 : Heap, h89 = Heap.set h85 k88 (.vec 181 (plains [(.int .i64 (0)), (.int .i64 (0)), (.int .i64 (0))]) 3) →
 CellsAt B h89 ⟨k12, 0, none⟩ 0 [(.int .i64 (i18)), (.int .i64 (i19)), (.int .i64 (i20)), (.int .i64 (i21))] ∧
 S_mark_Fresh_J1 B k12 k14 i18 i19 i20 i21 ⟨k82, 0, none⟩ p86 ⟨k88, 0, none⟩ h89 Q)) ∧
 (∀ k91 : Nat, h83 k91 = none → B k91 = none → ∀ h92 : Heap, h92 = Heap.set h83 k91 (.vec 181 (plains [(.int .i64 (0)), (.int .i64 (0)), (.int .i64 (0))]) 3) →
 CellsAt B h92 ⟨k12, 0, none⟩ 0 [(.int .i64 (i18)), (.int .i64 (i19)), (.int .i64 (i20)), (.int .i64 (i21))] ∧
 C_sheet_New B h92 (fun p95 h94 =>
 CellsAt B h94 ⟨k12, 0, none⟩ 0 [(.int .i64 (i18)), (.int .i64 (i19)), (.int .i64 (i20)), (.int .i64 (i21))] ∧
 S_mark_Fresh_J1 B k12 k14 i18 i19 i20 i21 ⟨k82, 0, none⟩ p95 ⟨k91, 0, none⟩ h94 Q))) ∧
 (C_sheet_New B h15 (fun p98 h97 =>
 CellsAt B h97 ⟨k12, 0, none⟩ 0 [(.int .i64 (i18)), (.int .i64 (i19)), (.int .i64 (i20)), (.int .i64 (i21))] ∧
 (∀ k100 : Nat, h97 k100 = none → B k100 = none → ∀ h101 : Heap, h101 = Heap.set h97 k100 (.vec 166 (plains [(.slice none 0 0)]) 1) →
 CellsAt B h101 ⟨k12, 0, none⟩ 0 [(.int .i64 (i18)), (.int .i64 (i19)), (.int .i64 (i20)), (.int .i64 (i21))] ∧
 ∀ k103 : Nat, h101 k103 = none → B k103 = none → ∀ h104 : Heap, h104 = Heap.set h101 k103 (.vec 181 (plains [(.int .i64 (0)), (.int .i64 (0)), (.int .i64 (0))]) 3) →
 CellsAt B h104 ⟨k12, 0, none⟩ 0 [(.int .i64 (i18)), (.int .i64 (i19)), (.int .i64 (i20)), (.int .i64 (i21))] ∧
 S_mark_Fresh_J1 B k12 k14 i18 i19 i20 i21 ⟨k100, 0, none⟩ p98 ⟨k103, 0, none⟩ h104 Q) ∧
 (∀ k106 : Nat, h97 k106 = none → B k106 = none → ∀ h107 : Heap, h107 = Heap.set h97 k106 (.vec 181 (plains [(.int .i64 (0)), (.int .i64 (0)), (.int .i64 (0))]) 3) →
 CellsAt B h107 ⟨k12, 0, none⟩ 0 [(.int .i64 (i18)), (.int .i64 (i19)), (.int .i64 (i20)), (.int .i64 (i21))] ∧
 ∀ k109 : Nat, h107 k109 = none → B k109 = none → ∀ h110 : Heap, h110 = Heap.set h107 k109 (.vec 166 (plains [(.slice none 0 0)]) 1) →
 CellsAt B h110 ⟨k12, 0, none⟩ 0 [(.int .i64 (i18)), (.int .i64 (i19)), (.int .i64 (i20)), (.int .i64 (i21))] ∧
 S_mark_Fresh_J1 B k12 k14 i18 i19 i20 i21 ⟨k109, 0, none⟩ p98 ⟨k106, 0, none⟩ h110 Q))) ∧
 (∀ k112 : Nat, h15 k112 = none → B k112 = none → ∀ h113 : Heap, h113 = Heap.set h15 k112 (.vec 181 (plains [(.int .i64 (0)), (.int .i64 (0)), (.int .i64 (0))]) 3) →
 CellsAt B h113 ⟨k12, 0, none⟩ 0 [(.int .i64 (i18)), (.int .i64 (i19)), (.int .i64 (i20)), (.int .i64 (i21))] ∧
 (∀ k115 : Nat, h113 k115 = none → B k115 = none → ∀ h116 : Heap, h116 = Heap.set h113 k115 (.vec 166 (plains [(.slice none 0 0)]) 1) →
 CellsAt B h116 ⟨k12, 0, none⟩ 0 [(.int .i64 (i18)), (.int .i64 (i19)), (.int .i64 (i20)), (.int .i64 (i21))] ∧
 C_sheet_New B h116 (fun p119 h118 =>
 CellsAt B h118 ⟨k12, 0, none⟩ 0 [(.int .i64 (i18)), (.int .i64 (i19)), (.int .i64 (i20)), (.int .i64 (i21))] ∧
 S_mark_Fresh_J1 B k12 k14 i18 i19 i20 i21 ⟨k115, 0, none⟩ p119 ⟨k112, 0, none⟩ h118 Q)) ∧
 (C_sheet_New B h113 (fun p122 h121 =>
 CellsAt B h121 ⟨k12, 0, none⟩ 0 [(.int .i64 (i18)), (.int .i64 (i19)), (.int .i64 (i20)), (.int .i64 (i21))] ∧
 ∀ k124 : Nat, h121 k124 = none → B k124 = none → ∀ h125 : Heap, h125 = Heap.set h121 k124 (.vec 166 (plains [(.slice none 0 0)]) 1) →
 CellsAt B h125 ⟨k12, 0, none⟩ 0 [(.int .i64 (i18)), (.int .i64 (i19)), (.int .i64 (i20)), (.int .i64 (i21))] ∧
 S_mark_Fresh_J1 B k12 k14 i18 i19 i20 i21 ⟨k124, 0, none⟩ p122 ⟨k112, 0, none⟩ h125 Q)))
def S_sheet_Sheet_Draft (B : RO) (p1 : Option Addr) (h : Heap) (Q : Option Addr → Heap → Prop) : Prop :=
 (p1 = none →
 Fin B h (Q none)) ∧ (¬ (p1 = none) →
 ∃ A4 : Addr, p1 = some A4 ∧
 ∃ p6 : Option Addr, cellH B h A4 = some (.pointer p6) ∧
 Fin B h (Q p6))
def S_draft_Draft_int_find (B : RO) (p1 : Option Addr) (i2 : Int) (h : Heap) (Q : Int → Bool → Heap → Prop) : Prop :=
 ∃ A5 : Addr, p1 = some A5 ∧
 LdSl B h A5 fun a7 n8 c9 h10 =>
 C_slices_BinarySearchFunc_s_draft_entry_int_draft_entry_int_int B a7 n8 c9 (i2) (Value.func (.func 115) #[] #[]) h10 (fun i12 b13 h11 =>
 Fin B h11 (Q (i12) (b13)))
def S_reads_Set_Note_J1 (B : RO) (p1 : Option Addr) (i3 : Int) (i4 : Int) (i11 : Int) (h24 : Heap) (Q : Bool → Heap → Prop) : Prop :=
 ∃ A25 : Addr, p1 = some A25 ∧
 LdSl B h24 A25 fun a27 n28 c29 h30 =>
 ∀ k31 : Nat, h30 k31 = none → B k31 = none → ∀ h32 : Heap, h32 = Heap.set h30 k31 (.vec 174 (plains [(.int .i64 (i3)), (.int .i64 (i4)), (.int .i64 (i11))]) 3) →
 semH PG B (Builtin.append_ #[135, 135] 135 #[(.slice a27 n28 c29), (.slice (some ⟨k31, 0, none⟩) 1 1)]) h32 (fun v h33 => ∃ a34 : Option Addr, ∃ n35 : Nat, ∃ c36 : Nat, v = (.slice a34 n35 c36) ∧
 ∃ A37 : Addr, p1 = some A37 ∧
 ∃ h39 : Heap, storeH h33 A37 (.slice a34 n35 c36) = some h39 ∧
 Fin B h39 (Q (true)))
def S_reads_Set_Note (B : RO) (p1 : Option Addr) (l2 : List Value) (i3 : Int) (i4 : Int) (h : Heap) (Q : Bool → Heap → Prop) : Prop :=
 ∀ k6 : Nat, h k6 = none → B k6 = none → ∀ h7 : Heap, h7 = Heap.set h k6 (.vec 65 (plains l2) (List.length l2)) →
 (p1 = none →
 Fin B h7 (Q (false))) ∧ (¬ (p1 = none) →
 ∃ l9 : List Value, List.length l9 = 25 ∧ CellsAt B h7 ⟨k6, 0, none⟩ 0 l9 ∧
 C_reads_Now_Of B l9 (i3) (i4) h7 (fun i11 h10 =>
 C_reads_Set_place B p1 (i3) (i4) h10 (fun i13 h12 =>
 ((i13 : Int) ≥ (0) →
 ∃ A14 : Addr, p1 = some A14 ∧
 LdSl B h12 A14 fun a16 n17 c18 h19 =>
 ∃ A20 : Addr, a16 = some A20 ∧ 0 ≤ (i13 : Int) ∧ (i13 : Int) < (n17 : Nat) ∧
 ∃ i22 : Int, cellH B h19 (Addr.add (Addr.add A20 (Int.toNat (i13) * 3)) 2) = some (.int .i64 (i22)) ∧
 Fin B h19 (Q (((i22 : Int) == (i11))))) ∧ (¬ ((i13 : Int) ≥ (0)) →
 ∃ A40 : Addr, p1 = some A40 ∧
 ∃ i42 : Int, cellH B h12 (Addr.add A40 1) = some (.int .i64 (i42)) ∧
 ((i11 : Int) > (i42) →
 ∃ l43 : List Value, List.length l43 = 25 ∧ CellsAt B h12 ⟨k6, 0, none⟩ 0 l43 ∧
 C_reads_Set_Valid B p1 l43 h12 (fun b45 h44 =>
 (b45 = true →
 ∃ i46 : Int, cellH B h44 ⟨k6, 24, none⟩ = some (.int .i64 (i46)) ∧
 ∃ A47 : Addr, p1 = some A47 ∧
 ∃ h49 : Heap, storeH h44 (Addr.add A47 1) (.int .i64 (i46)) = some h49 ∧
 Fin B h49 (fun h' => S_reads_Set_Note_J1 B p1 i3 i4 i11 h' Q)) ∧ (b45 = false →
 Fin B h44 (Q (false))))) ∧ (¬ ((i11 : Int) > (i42)) →
 Fin B h12 (fun h' => S_reads_Set_Note_J1 B p1 i3 i4 i11 h' Q))))))
def S_cell_Row_int_is (B : RO) (p1 : Option Addr) (i2 : Int) (h : Heap) (Q : Bool → Heap → Prop) : Prop :=
 (p1 = none →
 Fin B h (Q (false))) ∧ (¬ (p1 = none) →
 ((i2 : Int) ≥ (0) →
 ∃ A5 : Addr, p1 = some A5 ∧
 LdSl B h A5 fun a7 n8 c9 h10 =>
 Fin B h10 (Q ((decide ((i2 : Int) < ((n8 : Nat))))))) ∧ (¬ ((i2 : Int) ≥ (0)) →
 Fin B h (Q (false))))
def S_reads_Now_Of_J1 (B : RO) (i2 : Int) (i3 : Int) (k5 : Nat) (h8 : Heap) (Q : Int → Heap → Prop) : Prop :=
 0 ≤ (i2 : Int) ∧ (i2 : Int) < (3 : Nat) ∧
 0 ≤ (i3 : Int) ∧ (i3 : Int) < (8 : Nat) ∧
 ∃ i9 : Int, cellH B h8 (Addr.add (Addr.add ⟨k5, 0, none⟩ (Int.toNat (i2) * 8)) (Int.toNat (i3) * 1)) = some (.int .i64 (i9)) ∧
 Fin B h8 (Q (i9))
def S_reads_Now_Of (B : RO) (l1 : List Value) (i2 : Int) (i3 : Int) (h : Heap) (Q : Int → Heap → Prop) : Prop :=
 ∀ k5 : Nat, h k5 = none → B k5 = none → ∀ h6 : Heap, h6 = Heap.set h k5 (.vec 65 (plains l1) (List.length l1)) →
 ((i2 : Int) < (0) →
 Fin B h6 (Q (0))) ∧ (¬ ((i2 : Int) < (0)) →
 ((i2 : Int) > (2) →
 Fin B h6 (Q (0))) ∧ (¬ ((i2 : Int) > (2)) →
 ((i3 : Int) < (0) →
 Fin B h6 (Q (0))) ∧ (¬ ((i3 : Int) < (0)) →
 ((i3 : Int) ≥ (8) →
 Fin B h6 (Q (0))) ∧ (¬ ((i3 : Int) ≥ (8)) →
 Fin B h6 (fun h' => S_reads_Now_Of_J1 B i2 i3 k5 h' Q)))))
def S_draft_Draft_int_All_1 (B : RO) (v1 : Value) (A2 : Addr) (h : Heap) (Q : Heap → Prop) : Prop :=
 ∃ p3 : Option Addr, cellH B h A2 = some (.pointer p3) ∧
 (p3 = none →
 Fin B h (Q)) ∧ (¬ (p3 = none) →
 ∃ p5 : Option Addr, cellH B h A2 = some (.pointer p5) ∧
 ∃ A6 : Addr, p5 = some A6 ∧
 LdSl B h A6 fun a8 n9 c10 h11 =>
 ∃ (J17 : Int → Nat → Heap → Prop) (m15 : Nat), Fin B h11 (J17 (0) m15) ∧
 ∀ (i12 : Int) (m14 : Nat) (h13 : Heap), J17 i12 m14 h13 →
 ((i12 : Int) < ((n9 : Nat)) →
 ∃ A18 : Addr, a8 = some A18 ∧ 0 ≤ (i12 : Int) ∧ (i12 : Int) < (n9 : Nat) ∧
 ∃ i20 : Int, ∃ i21 : Int, CellsAt B h13 (Addr.add A18 (Int.toNat (i12) * 2)) 0 [(.int .i64 (i20)), (.int .i64 (i21))] ∧
 ∀ k22 : Nat, h13 k22 = none → B k22 = none → ∀ h23 : Heap, h23 = Heap.set h13 k22 (.vec 163 (plains [(.int .i64 (0)), (.int .i64 (0))]) 2) →
 ∃ h24 : Heap, StoresAt ⟨k22, 0, none⟩ h23 0 [(.int .i64 (i20)), (.int .i64 (i21))] h24 ∧
 ∃ i25 : Int, cellH B h24 ⟨k22, 0, none⟩ = some (.int .i64 (i25)) ∧
 ∃ i26 : Int, cellH B h24 ⟨k22, 1, none⟩ = some (.int .i64 (i26)) ∧
 CallV PG B v1 [(.int .i64 (i25)), (.int .i64 (i26))] h24 (fun v h27 => ∃ b28 : Bool, v = (.bool b28) ∧
 (b28 = true →
 Fin B h27 (fun h' => ∃ m', m' < m14 ∧ J17 (IntKind.wrap .i64 ((i12) + (1))) m' h')) ∧ (b28 = false →
 Fin B h27 (Q)))) ∧ (¬ ((i12 : Int) < ((n9 : Nat))) →
 Fin B h13 (Q)))
def S_draft_Draft_file_File_All (B : RO) (p1 : Option Addr) (h : Heap) (Q : Value → Heap → Prop) : Prop :=
 ∀ k3 : Nat, h k3 = none → B k3 = none → ∀ h4 : Heap, h4 = Heap.set h k3 (.vec 157 [.plain (.pointer p1)] 1) →
 Fin B h4 (Q (Value.func (.func 117) #[] #[(.pointer (some ⟨k3, 0, none⟩))]))
def S_tome_Tome_Set_J1 (B : RO) (h14 : Heap) (Q : Bool → Heap → Prop) : Prop :=
 Fin B h14 (Q (false))
def S_tome_Tome_Set_J2 (B : RO) (k7 : Nat) (b17 : Bool) (s18 : ByteArray) (h24 : Heap) (Q : Bool → Heap → Prop) : Prop :=
 Fin B h24 (Q (false))
def S_tome_Tome_Set_J3 (B : RO) (i2 : Int) (i5 : Int) (k7 : Nat) (b17 : Bool) (s18 : ByteArray) (p36 : Option Addr) (b37 : Bool) (s38 : ByteArray) (h39 : Heap) (Q : Bool → Heap → Prop) : Prop :=
 C_cell_Row_file_File_Set B p36 (i2) (b37) s38 (i5) h39 (fun b42 h41 =>
 CellsAt B h41 ⟨k7, 0, none⟩ 0 [(.bool b17), (.string s18)] ∧
 Fin B h41 (Q (b42)))
def S_tome_Tome_Set (B : RO) (p1 : Option Addr) (i2 : Int) (b3 : Bool) (s4 : ByteArray) (i5 : Int) (h : Heap) (Q : Bool → Heap → Prop) : Prop :=
 ∀ k7 : Nat, h k7 = none → B k7 = none → ∀ h8 : Heap, h8 = Heap.set h k7 (.vec 119 (plains [(.bool b3), (.string s4)]) 2) →
 (p1 = none →
 (S_tome_Tome_Set_J1 B h8 Q) ∧
 (S_tome_Tome_Set_J1 B h8 Q)) ∧ (¬ (p1 = none) →
 ∃ b17 : Bool, ∃ s18 : ByteArray, CellsAt B h8 ⟨k7, 0, none⟩ 0 [(.bool b17), (.string s18)] ∧
 C_file_Good B (b17) s18 h8 (fun b21 h20 =>
 (b21 = true →
 CellsAt B h20 ⟨k7, 0, none⟩ 0 [(.bool b17), (.string s18)] ∧
 ∃ A27 : Addr, p1 = some A27 ∧
 (∃ p44 : Option Addr, cellH B h20 A27 = some (.pointer p44) ∧
 ∃ b45 : Bool, ∃ s46 : ByteArray, CellsAt B h20 ⟨k7, 0, none⟩ 0 [(.bool b45), (.string s46)] ∧
 S_tome_Tome_Set_J3 B i2 i5 k7 b17 s18 p44 (b45) s46 h20 Q) ∧
 (∃ b47 : Bool, ∃ s48 : ByteArray, CellsAt B h20 ⟨k7, 0, none⟩ 0 [(.bool b47), (.string s48)] ∧
 ∃ p49 : Option Addr, cellH B h20 A27 = some (.pointer p49) ∧
 S_tome_Tome_Set_J3 B i2 i5 k7 b17 s18 p49 (b47) s48 h20 Q)) ∧ (b21 = false →
 CellsAt B h20 ⟨k7, 0, none⟩ 0 [(.bool b17), (.string s18)] ∧
 (S_tome_Tome_Set_J2 B k7 b17 s18 h20 Q) ∧
 (S_tome_Tome_Set_J2 B k7 b17 s18 h20 Q))))
def S_cursor_is (B : RO) (i1 : Int) (h : Heap) (Q : Bool → Heap → Prop) : Prop :=
 ((i1 : Int) ≥ (0) →
 Fin B h (Q ((decide ((i1 : Int) < (3)))))) ∧ (¬ ((i1 : Int) ≥ (0)) →
 Fin B h (Q (false)))
def S_cell_Row_file_File_Get (B : RO) (p1 : Option Addr) (i2 : Int) (h : Heap) (Q : Bool → ByteArray → Int → Heap → Prop) : Prop :=
 ∀ k6 : Nat, h k6 = none → B k6 = none → ∀ h7 : Heap, h7 = Heap.set h k6 (.vec 119 (plains [(.bool false), (.string ByteArray.empty)]) 2) →
 C_cell_Row_file_File_is B p1 (i2) h7 (fun b9 h8 =>
 (b9 = true →
 ∃ A18 : Addr, p1 = some A18 ∧
 ∃ a22 : Option Addr, ∃ n23 : Nat, ∃ c24 : Nat, cellH B h8 A18 = some (.slice a22 n23 c24) ∧
 ∃ A27 : Addr, a22 = some A27 ∧ 0 ≤ (i2 : Int) ∧ (i2 : Int) < (n23 : Nat) ∧
 ∃ b33 : Bool, ∃ s34 : ByteArray, CellsAt B h8 (Addr.add A27 (Int.toNat (i2) * 3)) 0 [(.bool b33), (.string s34)] ∧
 ∃ A37 : Addr, p1 = some A37 ∧
 ∃ a41 : Option Addr, ∃ n42 : Nat, ∃ c43 : Nat, cellH B h8 A37 = some (.slice a41 n42 c43) ∧
 ∃ A46 : Addr, a41 = some A46 ∧ 0 ≤ (i2 : Int) ∧ (i2 : Int) < (n42 : Nat) ∧
 ∃ i52 : Int, cellH B h8 (Addr.add (Addr.add A46 (Int.toNat (i2) * 3)) 2) = some (.int .i64 (i52)) ∧
 ∃ h54 : Heap, StoresAt ⟨k6, 0, none⟩ h8 0 [(.bool b33), (.string s34)] h54 ∧
 cellH B h54 A18 = some (.slice a22 n23 c24) ∧ CellsAt B h54 (Addr.add A27 (Int.toNat (i2) * 3)) 0 [(.bool b33), (.string s34)] ∧ cellH B h54 A37 = some (.slice a41 n42 c43) ∧ cellH B h54 (Addr.add (Addr.add A46 (Int.toNat (i2) * 3)) 2) = some (.int .i64 (i52)) ∧
 ∃ b59 : Bool, ∃ s60 : ByteArray, CellsAt B h54 ⟨k6, 0, none⟩ 0 [(.bool b59), (.string s60)] ∧ Fin B h54 (Q (b59) s60 (i52))) ∧ (b9 = false →
 ∀ k10 : Nat, h8 k10 = none → B k10 = none → ∀ h11 : Heap, h11 = Heap.set h8 k10 (.vec 119 (plains [(.bool false), (.string ByteArray.empty)]) 2) →
 ∃ b12 : Bool, ∃ s13 : ByteArray, CellsAt B h11 ⟨k10, 0, none⟩ 0 [(.bool b12), (.string s13)] ∧
 ∃ h14 : Heap, StoresAt ⟨k6, 0, none⟩ h11 0 [(.bool b12), (.string s13)] h14 ∧
 ∃ b15 : Bool, ∃ s16 : ByteArray, CellsAt B h14 ⟨k6, 0, none⟩ 0 [(.bool b15), (.string s16)] ∧ Fin B h14 (Q (b15) s16 (0))))
def S_attempt_Attempt_touch_J2 (B : RO) (p1 : Option Addr) (i2 : Int) (k6 : Nat) (A11 : Addr) (b12 : Bool) (h13 : Heap) (Q : Bool → ByteArray → Int → Heap → Prop) : Prop :=
 (b12 = true →
 ∃ b26 : Bool, ∃ s27 : ByteArray, CellsAt B h13 A11 0 [(.bool b26), (.string s27)] ∧
 ∃ h28 : Heap, StoresAt ⟨k6, 0, none⟩ h13 0 [(.bool b26), (.string s27)] h28 ∧
 ∃ b29 : Bool, ∃ s30 : ByteArray, CellsAt B h28 ⟨k6, 0, none⟩ 0 [(.bool b29), (.string s30)] ∧ Fin B h28 (Q (b29) s30 (0))) ∧ (b12 = false →
 ∃ b14 : Bool, ∃ s15 : ByteArray, CellsAt B h13 A11 0 [(.bool b14), (.string s15)] ∧
 C_attempt_Attempt_note B p1 (1) (i2) h13 (fun i20 h19 =>
 CellsAt B h19 A11 0 [(.bool b14), (.string s15)] ∧
 ∃ h22 : Heap, StoresAt ⟨k6, 0, none⟩ h19 0 [(.bool b14), (.string s15)] h22 ∧
 CellsAt B h22 A11 0 [(.bool b14), (.string s15)] ∧
 ∃ b24 : Bool, ∃ s25 : ByteArray, CellsAt B h22 ⟨k6, 0, none⟩ 0 [(.bool b24), (.string s25)] ∧ Fin B h22 (Q (b24) s25 (i20))))
def S_attempt_Attempt_touch_J3 (B : RO) (p1 : Option Addr) (i2 : Int) (k6 : Nat) (A32 : Addr) (p37 : Option Addr) (A40 : Addr) (p44 : Option Addr) (A46 : Addr) (p50 : Option Addr) (A83 : Addr) (b84 : Bool) (s85 : ByteArray) (b86 : Bool) (h87 : Heap) (Q : Bool → ByteArray → Int → Heap → Prop) : Prop :=
 ∃ h91 : Heap, StoresAt A83 h87 0 [(.bool b84), (.string s85)] h91 ∧
 cellH B h91 (Addr.add (Addr.add A32 2) 1) = some (.pointer p37) ∧ cellH B h91 A40 = some (.pointer p44) ∧ cellH B h91 (Addr.add A46 1) = some (.pointer p50) ∧
 (b86 = true →
 Fin B h91 (fun h' => S_attempt_Attempt_touch_J2 B p1 i2 k6 A83 (true) h' Q)) ∧ (b86 = false →
 Fin B h91 (fun h' => S_attempt_Attempt_touch_J2 B p1 i2 k6 A83 (false) h' Q))
def S_attempt_Attempt_touch_J1 (B : RO) (p1 : Option Addr) (i2 : Int) (k6 : Nat) (h9 : Heap) (Q : Bool → ByteArray → Int → Heap → Prop) : Prop :=
 ∃ A32 : Addr, p1 = some A32 ∧
 ∃ p37 : Option Addr, cellH B h9 (Addr.add (Addr.add A32 2) 1) = some (.pointer p37) ∧
 ∃ A40 : Addr, p1 = some A40 ∧
 ∃ p44 : Option Addr, cellH B h9 A40 = some (.pointer p44) ∧
 ∃ A46 : Addr, p44 = some A46 ∧
 ∃ p50 : Option Addr, cellH B h9 (Addr.add A46 1) = some (.pointer p50) ∧
 (C_sheet_Sheet_Get B p37 p50 (i2) h9 (fun b96 s97 b98 h95 =>
 cellH B h95 (Addr.add (Addr.add A32 2) 1) = some (.pointer p37) ∧ cellH B h95 A40 = some (.pointer p44) ∧ cellH B h95 (Addr.add A46 1) = some (.pointer p50) ∧
 (b98 = true →
 ∀ k107 : Nat, h95 k107 = none → B k107 = none → ∀ h108 : Heap, h108 = Heap.set h95 k107 (.vec 119 (plains [(.bool false), (.string ByteArray.empty)]) 2) →
 cellH B h108 (Addr.add (Addr.add A32 2) 1) = some (.pointer p37) ∧ cellH B h108 A40 = some (.pointer p44) ∧ cellH B h108 (Addr.add A46 1) = some (.pointer p50) ∧
 S_attempt_Attempt_touch_J3 B p1 i2 k6 A32 p37 A40 p44 A46 p50 ⟨k107, 0, none⟩ (b96) s97 (true) h108 Q) ∧ (b98 = false →
 ∀ k102 : Nat, h95 k102 = none → B k102 = none → ∀ h103 : Heap, h103 = Heap.set h95 k102 (.vec 119 (plains [(.bool false), (.string ByteArray.empty)]) 2) →
 cellH B h103 (Addr.add (Addr.add A32 2) 1) = some (.pointer p37) ∧ cellH B h103 A40 = some (.pointer p44) ∧ cellH B h103 (Addr.add A46 1) = some (.pointer p50) ∧
 S_attempt_Attempt_touch_J3 B p1 i2 k6 A32 p37 A40 p44 A46 p50 ⟨k102, 0, none⟩ (b96) s97 (false) h103 Q))) ∧
 (∀ k112 : Nat, h9 k112 = none → B k112 = none → ∀ h113 : Heap, h113 = Heap.set h9 k112 (.vec 119 (plains [(.bool false), (.string ByteArray.empty)]) 2) →
 cellH B h113 (Addr.add (Addr.add A32 2) 1) = some (.pointer p37) ∧ cellH B h113 A40 = some (.pointer p44) ∧ cellH B h113 (Addr.add A46 1) = some (.pointer p50) ∧
 C_sheet_Sheet_Get B p37 p50 (i2) h113 (fun b118 s119 b120 h117 =>
 cellH B h117 (Addr.add (Addr.add A32 2) 1) = some (.pointer p37) ∧ cellH B h117 A40 = some (.pointer p44) ∧ cellH B h117 (Addr.add A46 1) = some (.pointer p50) ∧
 (b120 = true →
 S_attempt_Attempt_touch_J3 B p1 i2 k6 A32 p37 A40 p44 A46 p50 ⟨k112, 0, none⟩ (b118) s119 (true) h117 Q) ∧ (b120 = false →
 S_attempt_Attempt_touch_J3 B p1 i2 k6 A32 p37 A40 p44 A46 p50 ⟨k112, 0, none⟩ (b118) s119 (false) h117 Q)))
def S_attempt_Attempt_touch (B : RO) (p1 : Option Addr) (i2 : Int) (h : Heap) (Q : Bool → ByteArray → Int → Heap → Prop) : Prop :=
 ∀ k6 : Nat, h k6 = none → B k6 = none → ∀ h7 : Heap, h7 = Heap.set h k6 (.vec 119 (plains [(.bool false), (.string ByteArray.empty)]) 2) →
 (p1 = none →
 ∃ h125 : Heap, StoresAt ⟨k6, 0, none⟩ h7 0 [(.bool false), (.string ByteArray.empty)] h125 ∧
 ∃ b126 : Bool, ∃ s127 : ByteArray, CellsAt B h125 ⟨k6, 0, none⟩ 0 [(.bool b126), (.string s127)] ∧ Fin B h125 (Q (b126) s127 (2))) ∧ (¬ (p1 = none) →
 ((i2 : Int) < (0) →
 ∃ h128 : Heap, StoresAt ⟨k6, 0, none⟩ h7 0 [(.bool false), (.string ByteArray.empty)] h128 ∧
 ∃ b129 : Bool, ∃ s130 : ByteArray, CellsAt B h128 ⟨k6, 0, none⟩ 0 [(.bool b129), (.string s130)] ∧ Fin B h128 (Q (b129) s130 (1))) ∧ (¬ ((i2 : Int) < (0)) →
 ((i2 : Int) ≥ (6) →
 ∃ h131 : Heap, StoresAt ⟨k6, 0, none⟩ h7 0 [(.bool false), (.string ByteArray.empty)] h131 ∧
 ∃ b132 : Bool, ∃ s133 : ByteArray, CellsAt B h131 ⟨k6, 0, none⟩ 0 [(.bool b132), (.string s133)] ∧ Fin B h131 (Q (b132) s133 (1))) ∧ (¬ ((i2 : Int) ≥ (6)) →
 Fin B h7 (fun h' => S_attempt_Attempt_touch_J1 B p1 i2 k6 h' Q))))
def S_file_At_J1 (B : RO) (i3 : Int) (k5 : Nat) (b8 : Bool) (h9 : Heap) (Q : Int → Heap → Prop) : Prop :=
 (b8 = true →
 Fin B h9 (Q ((-1)))) ∧ (b8 = false →
 ∃ s10 : ByteArray, cellH B h9 ⟨k5, 1, none⟩ = some (.string s10) ∧
 0 ≤ (i3 : Int) ∧ (i3 : Int) < (ByteArray.size s10 : Nat) ∧
 Fin B h9 (Q (IntKind.wrap .i64 (byteAt s10 (Int.toNat (i3))))))
def S_file_At (B : RO) (b1 : Bool) (s2 : ByteArray) (i3 : Int) (h : Heap) (Q : Int → Heap → Prop) : Prop :=
 ∀ k5 : Nat, h k5 = none → B k5 = none → ∀ h6 : Heap, h6 = Heap.set h k5 (.vec 119 (plains [(.bool b1), (.string s2)]) 2) →
 ((i3 : Int) < (0) →
 Fin B h6 (fun h' => S_file_At_J1 B i3 k5 (true) h' Q)) ∧ (¬ ((i3 : Int) < (0)) →
 ∃ s11 : ByteArray, cellH B h6 ⟨k5, 1, none⟩ = some (.string s11) ∧
 ((i3 : Int) ≥ ((ByteArray.size s11 : Nat)) →
 Fin B h6 (fun h' => S_file_At_J1 B i3 k5 (true) h' Q)) ∧ (¬ ((i3 : Int) ≥ ((ByteArray.size s11 : Nat))) →
 Fin B h6 (fun h' => S_file_At_J1 B i3 k5 (false) h' Q)))
def S_sheet_Sheet_Write (B : RO) (p1 : Option Addr) (p2 : Option Addr) (i3 : Int) (i4 : Int) (i5 : Int) (h : Heap) (Q : Bool → Heap → Prop) : Prop :=
 C_sheet_Sheet_Get B p1 p2 (i3) h (fun b8 s9 b10 h7 =>
 ∀ k11 : Nat, h7 k11 = none → B k11 = none → ∀ h12 : Heap, h12 = Heap.set h7 k11 (.vec 119 (plains [(.bool false), (.string ByteArray.empty)]) 2) →
 ∃ h13 : Heap, StoresAt ⟨k11, 0, none⟩ h12 0 [(.bool b8), (.string s9)] h13 ∧
 ∃ b14 : Bool, ∃ s15 : ByteArray, CellsAt B h13 ⟨k11, 0, none⟩ 0 [(.bool b14), (.string s15)] ∧
 C_file_Put B (b14) s15 (i4) (i5) h13 (fun b17 s18 h16 =>
 C_sheet_Sheet_put B p1 p2 (i3) (b17) s18 h16 (fun b20 h19 =>
 Fin B h19 (Q (b20)))))
def S_sheet_Sheet_Create (B : RO) (p1 : Option Addr) (p2 : Option Addr) (i3 : Int) (h : Heap) (Q : Bool → Heap → Prop) : Prop :=
 C_sheet_Sheet_Get B p1 p2 (i3) h (fun b6 s7 b8 h5 =>
 ∀ k9 : Nat, h5 k9 = none → B k9 = none → ∀ h10 : Heap, h10 = Heap.set h5 k9 (.vec 119 (plains [(.bool false), (.string ByteArray.empty)]) 2) →
 ∃ h11 : Heap, StoresAt ⟨k9, 0, none⟩ h10 0 [(.bool b6), (.string s7)] h11 ∧
 ∃ b12 : Bool, ∃ s13 : ByteArray, CellsAt B h11 ⟨k9, 0, none⟩ 0 [(.bool b12), (.string s13)] ∧
 C_file_Make B (b12) s13 h11 (fun b15 s16 h14 =>
 C_sheet_Sheet_put B p1 p2 (i3) (b15) s16 h14 (fun b18 h17 =>
 Fin B h17 (Q (b18)))))
def S_sheet_Sheet_Remove (B : RO) (p1 : Option Addr) (p2 : Option Addr) (i3 : Int) (h : Heap) (Q : Bool → Heap → Prop) : Prop :=
 C_sheet_Sheet_put B p1 p2 (i3) (false) ByteArray.empty h (fun b6 h5 =>
 Fin B h5 (Q (b6)))
def S_sheet_Sheet_Rename_J1 (B : RO) (p1 : Option Addr) (p2 : Option Addr) (i3 : Int) (i4 : Int) (k10 : Nat) (h14 : Heap) (Q : Bool → Heap → Prop) : Prop :=
 ∃ b15 : Bool, ∃ s16 : ByteArray, CellsAt B h14 ⟨k10, 0, none⟩ 0 [(.bool b15), (.string s16)] ∧
 C_sheet_Sheet_put B p1 p2 (i4) (b15) s16 h14 (fun b18 h17 =>
 C_sheet_Sheet_put B p1 p2 (i3) (false) ByteArray.empty h17 (fun b20 h19 =>
 Fin B h19 (Q (b20))))
def S_sheet_Sheet_Rename_J2 (B : RO) (p1 : Option Addr) (p2 : Option Addr) (i3 : Int) (i4 : Int) (k10 : Nat) (b22 : Bool) (h23 : Heap) (Q : Bool → Heap → Prop) : Prop :=
 (b22 = true →
 Fin B h23 (Q (false))) ∧ (b22 = false →
 ∃ b24 : Bool, cellH B h23 ⟨k10, 0, none⟩ = some (.bool b24) ∧ (b24 = true →
 ((i3 : Int) = i4 →
 Fin B h23 (Q (true))) ∧ (¬ ((i3 : Int) = i4) →
 Fin B h23 (fun h' => S_sheet_Sheet_Rename_J1 B p1 p2 i3 i4 k10 h' Q))) ∧ (b24 = false →
 Fin B h23 (Q (true))))
def S_sheet_Sheet_Rename (B : RO) (p1 : Option Addr) (p2 : Option Addr) (i3 : Int) (i4 : Int) (h : Heap) (Q : Bool → Heap → Prop) : Prop :=
 C_sheet_Sheet_Get B p1 p2 (i3) h (fun b7 s8 b9 h6 =>
 ∀ k10 : Nat, h6 k10 = none → B k10 = none → ∀ h11 : Heap, h11 = Heap.set h6 k10 (.vec 119 (plains [(.bool false), (.string ByteArray.empty)]) 2) →
 ∃ h12 : Heap, StoresAt ⟨k10, 0, none⟩ h11 0 [(.bool b7), (.string s8)] h12 ∧
 (p1 = none →
 Fin B h12 (fun h' => S_sheet_Sheet_Rename_J2 B p1 p2 i3 i4 k10 (true) h' Q)) ∧ (¬ (p1 = none) →
 ((i3 : Int) < (0) →
 Fin B h12 (fun h' => S_sheet_Sheet_Rename_J2 B p1 p2 i3 i4 k10 (true) h' Q)) ∧ (¬ ((i3 : Int) < (0)) →
 ((i3 : Int) ≥ (6) →
 Fin B h12 (fun h' => S_sheet_Sheet_Rename_J2 B p1 p2 i3 i4 k10 (true) h' Q)) ∧ (¬ ((i3 : Int) ≥ (6)) →
 ((i4 : Int) < (0) →
 Fin B h12 (fun h' => S_sheet_Sheet_Rename_J2 B p1 p2 i3 i4 k10 (true) h' Q)) ∧ (¬ ((i4 : Int) < (0)) →
 ((i4 : Int) ≥ (6) →
 Fin B h12 (fun h' => S_sheet_Sheet_Rename_J2 B p1 p2 i3 i4 k10 (true) h' Q)) ∧ (¬ ((i4 : Int) ≥ (6)) →
 Fin B h12 (fun h' => S_sheet_Sheet_Rename_J2 B p1 p2 i3 i4 k10 (false) h' Q)))))))
def S_sheet_Sheet_Cut (B : RO) (p1 : Option Addr) (p2 : Option Addr) (i3 : Int) (i4 : Int) (h : Heap) (Q : Bool → Heap → Prop) : Prop :=
 C_sheet_Sheet_Get B p1 p2 (i3) h (fun b7 s8 b9 h6 =>
 ∀ k10 : Nat, h6 k10 = none → B k10 = none → ∀ h11 : Heap, h11 = Heap.set h6 k10 (.vec 119 (plains [(.bool false), (.string ByteArray.empty)]) 2) →
 ∃ h12 : Heap, StoresAt ⟨k10, 0, none⟩ h11 0 [(.bool b7), (.string s8)] h12 ∧
 ∃ b13 : Bool, ∃ s14 : ByteArray, CellsAt B h12 ⟨k10, 0, none⟩ 0 [(.bool b13), (.string s14)] ∧
 C_file_Cut B (b13) s14 (i4) h12 (fun b16 s17 h15 =>
 C_sheet_Sheet_put B p1 p2 (i3) (b16) s17 h15 (fun b19 h18 =>
 Fin B h18 (Q (b19)))))
def S_feed_Feed_At_J1 (B : RO) (p1 : Option Addr) (i2 : Int) (i3 : Int) (h6 : Heap) (Q : Int → Heap → Prop) : Prop :=
 ∃ A7 : Addr, p1 = some A7 ∧
 0 ≤ (i2 : Int) ∧ (i2 : Int) < (3 : Nat) ∧
 ∃ s9 : ByteArray, cellH B h6 (Addr.add A7 (Int.toNat (i2) * 1)) = some (.string s9) ∧
 0 ≤ (i3 : Int) ∧ (i3 : Int) < (ByteArray.size s9 : Nat) ∧
 Fin B h6 (Q (IntKind.wrap .i64 (byteAt s9 (Int.toNat (i3)))))
def S_feed_Feed_At (B : RO) (p1 : Option Addr) (i2 : Int) (i3 : Int) (h : Heap) (Q : Int → Heap → Prop) : Prop :=
 C_feed_Feed_is B p1 (i2) h (fun b11 h10 =>
 (b11 = true →
 ((i3 : Int) < (0) →
 Fin B h10 (Q ((-1)))) ∧ (¬ ((i3 : Int) < (0)) →
 ∃ A12 : Addr, p1 = some A12 ∧
 0 ≤ (i2 : Int) ∧ (i2 : Int) < (3 : Nat) ∧
 ∃ s14 : ByteArray, cellH B h10 (Addr.add A12 (Int.toNat (i2) * 1)) = some (.string s14) ∧
 ((i3 : Int) ≥ ((ByteArray.size s14 : Nat)) →
 Fin B h10 (Q ((-1)))) ∧ (¬ ((i3 : Int) ≥ ((ByteArray.size s14 : Nat))) →
 Fin B h10 (fun h' => S_feed_Feed_At_J1 B p1 i2 i3 h' Q)))) ∧ (b11 = false →
 Fin B h10 (Q ((-1)))))
def S_cursor_Cursor_At_J1 (B : RO) (p1 : Option Addr) (i2 : Int) (i3 : Int) (h6 : Heap) (Q : Int → Heap → Prop) : Prop :=
 ∃ A7 : Addr, p1 = some A7 ∧
 0 ≤ (i2 : Int) ∧ (i2 : Int) < (3 : Nat) ∧
 ∃ i9 : Int, cellH B h6 (Addr.add A7 (Int.toNat (i2) * 1)) = some (.int .i64 (i9)) ∧
 Fin B h6 (Q (IntKind.wrap .i64 ((i3) + (i9))))
def S_cursor_Cursor_At (B : RO) (p1 : Option Addr) (i2 : Int) (i3 : Int) (h : Heap) (Q : Int → Heap → Prop) : Prop :=
 (p1 = none →
 Fin B h (Q (i3))) ∧ (¬ (p1 = none) →
 C_cursor_is B (i2) h (fun b12 h11 =>
 (b12 = true →
 Fin B h11 (fun h' => S_cursor_Cursor_At_J1 B p1 i2 i3 h' Q)) ∧ (b12 = false →
 Fin B h11 (Q (i3)))))
def S_cursor_Cursor_Step_J1 (B : RO) (p1 : Option Addr) (i2 : Int) (h5 : Heap) (Q : Bool → Heap → Prop) : Prop :=
 ∃ A6 : Addr, p1 = some A6 ∧
 0 ≤ (i2 : Int) ∧ (i2 : Int) < (3 : Nat) ∧
 ∃ i8 : Int, cellH B h5 (Addr.add A6 (Int.toNat (i2) * 1)) = some (.int .i64 (i8)) ∧
 ∃ A9 : Addr, p1 = some A9 ∧
 0 ≤ (i2 : Int) ∧ (i2 : Int) < (3 : Nat) ∧
 ∃ h11 : Heap, storeH h5 (Addr.add A9 (Int.toNat (i2) * 1)) (.int .i64 (IntKind.wrap .i64 ((i8) + (1)))) = some h11 ∧
 Fin B h11 (Q (true))
def S_cursor_Cursor_Step (B : RO) (p1 : Option Addr) (i2 : Int) (h : Heap) (Q : Bool → Heap → Prop) : Prop :=
 (p1 = none →
 Fin B h (Q (false))) ∧ (¬ (p1 = none) →
 C_cursor_is B (i2) h (fun b14 h13 =>
 (b14 = true →
 ∃ A15 : Addr, p1 = some A15 ∧
 0 ≤ (i2 : Int) ∧ (i2 : Int) < (3 : Nat) ∧
 ∃ i17 : Int, cellH B h13 (Addr.add A15 (Int.toNat (i2) * 1)) = some (.int .i64 (i17)) ∧
 ((i17 : Int) ≥ (64) →
 Fin B h13 (Q (false))) ∧ (¬ ((i17 : Int) ≥ (64)) →
 Fin B h13 (fun h' => S_cursor_Cursor_Step_J1 B p1 i2 h' Q))) ∧ (b14 = false →
 Fin B h13 (Q (false)))))
def S_slices_Insert_s_draft_entry_int_draft_entry_int (B : RO) (a1 : Option Addr) (n2 : Nat) (c3 : Nat) (i4 : Int) (a5 : Option Addr) (n6 : Nat) (c7 : Nat) (h : Heap) (Q : Option Addr → Nat → Nat → Heap → Prop) : Prop :=
 0 ≤ (i4 : Int) ∧ (i4 : Int) ≤ ((n2 : Nat) : Int) ∧ ((n2 : Nat) : Int) ≤ (c3 : Nat) ∧
 (((n6 : Nat) : Int) = 0 →
 Fin B h (Q a1 n2 c3)) ∧ (¬ (((n6 : Nat) : Int) = 0) →
 ((i4 : Int) = (n2 : Nat) →
 semH PG B (Builtin.append_ #[164, 164] 164 #[(.slice a1 n2 c3), (.slice a5 n6 c7)]) h (fun v h11 => ∃ a12 : Option Addr, ∃ n13 : Nat, ∃ c14 : Nat, v = (.slice a12 n13 c14) ∧
 Fin B h11 (Q a12 n13 c14))) ∧ (¬ ((i4 : Int) = (n2 : Nat)) →
 ((IntKind.wrap .i64 (((n2 : Nat)) + ((n6 : Nat))) : Int) > ((c3 : Nat)) →
 0 ≤ (0 : Int) ∧ (0 : Int) ≤ (i4 : Int) ∧ (i4 : Int) ≤ (c3 : Nat) ∧
 semH PG B (Builtin.append_ #[164, 3] 164 #[(.slice (if c3 = Int.toNat (0) then a1 else Option.map (·.add (Int.toNat (0) * 2)) a1) (Int.toNat (i4) - Int.toNat (0)) (c3 - Int.toNat (0))), (.int .i64 (IntKind.wrap .i64 ((IntKind.wrap .i64 (((n2 : Nat)) + ((n6 : Nat)))) - (i4))))]) h (fun v h15 => ∃ a16 : Option Addr, ∃ n17 : Nat, ∃ c18 : Nat, v = (.slice a16 n17 c18) ∧
 0 ≤ (i4 : Int) ∧ (i4 : Int) ≤ ((n17 : Nat) : Int) ∧ ((n17 : Nat) : Int) ≤ (c18 : Nat) ∧
 semH PG B (Builtin.copy_ #[164, 164] 3 #[(.slice (if c18 = Int.toNat (i4) then a16 else Option.map (·.add (Int.toNat (i4) * 2)) a16) (Int.toNat ((n17 : Nat)) - Int.toNat (i4)) (c18 - Int.toNat (i4))), (.slice a5 n6 c7)]) h15 (fun v h19 => ∃ i20 : Int, v = (.int .i64 (i20)) ∧
 0 ≤ (IntKind.wrap .i64 ((i4) + ((n6 : Nat))) : Int) ∧ (IntKind.wrap .i64 ((i4) + ((n6 : Nat))) : Int) ≤ ((n17 : Nat) : Int) ∧ ((n17 : Nat) : Int) ≤ (c18 : Nat) ∧
 0 ≤ (i4 : Int) ∧ (i4 : Int) ≤ ((n2 : Nat) : Int) ∧ ((n2 : Nat) : Int) ≤ (c3 : Nat) ∧
 semH PG B (Builtin.copy_ #[164, 164] 3 #[(.slice (if c18 = Int.toNat (IntKind.wrap .i64 ((i4) + ((n6 : Nat)))) then a16 else Option.map (·.add (Int.toNat (IntKind.wrap .i64 ((i4) + ((n6 : Nat)))) * 2)) a16) (Int.toNat ((n17 : Nat)) - Int.toNat (IntKind.wrap .i64 ((i4) + ((n6 : Nat))))) (c18 - Int.toNat (IntKind.wrap .i64 ((i4) + ((n6 : Nat)))))), (.slice (if c3 = Int.toNat (i4) then a1 else Option.map (·.add (Int.toNat (i4) * 2)) a1) (Int.toNat ((n2 : Nat)) - Int.toNat (i4)) (c3 - Int.toNat (i4)))]) h19 (fun v h21 => ∃ i22 : Int, v = (.int .i64 (i22)) ∧
 Fin B h21 (Q a16 n17 c18))))) ∧ (¬ ((IntKind.wrap .i64 (((n2 : Nat)) + ((n6 : Nat))) : Int) > ((c3 : Nat))) →
 0 ≤ (0 : Int) ∧ (0 : Int) ≤ (IntKind.wrap .i64 (((n2 : Nat)) + ((n6 : Nat))) : Int) ∧ (IntKind.wrap .i64 (((n2 : Nat)) + ((n6 : Nat))) : Int) ≤ (c3 : Nat) ∧
 0 ≤ (IntKind.wrap .i64 ((i4) + ((n6 : Nat))) : Int) ∧ (IntKind.wrap .i64 ((i4) + ((n6 : Nat))) : Int) ≤ (((Int.toNat (IntKind.wrap .i64 (((n2 : Nat)) + ((n6 : Nat)))) - Int.toNat (0)) : Nat) : Int) ∧ (((Int.toNat (IntKind.wrap .i64 (((n2 : Nat)) + ((n6 : Nat)))) - Int.toNat (0)) : Nat) : Int) ≤ ((c3 - Int.toNat (0)) : Nat) ∧
 semH PG B (Extern.SlicesOverlaps.overlaps #[164, 164] #[4] #[(.slice a5 n6 c7), (.slice (if (c3 - Int.toNat (0)) = Int.toNat (IntKind.wrap .i64 ((i4) + ((n6 : Nat)))) then (if c3 = Int.toNat (0) then a1 else Option.map (·.add (Int.toNat (0) * 2)) a1) else Option.map (·.add (Int.toNat (IntKind.wrap .i64 ((i4) + ((n6 : Nat)))) * 2)) (if c3 = Int.toNat (0) then a1 else Option.map (·.add (Int.toNat (0) * 2)) a1)) (Int.toNat (((Int.toNat (IntKind.wrap .i64 (((n2 : Nat)) + ((n6 : Nat)))) - Int.toNat (0)) : Nat)) - Int.toNat (IntKind.wrap .i64 ((i4) + ((n6 : Nat))))) ((c3 - Int.toNat (0)) - Int.toNat (IntKind.wrap .i64 ((i4) + ((n6 : Nat))))))]) h (fun v h23 => ∃ b24 : Bool, v = (.bool b24) ∧
 (b24 = true →
 0 ≤ ((n2 : Nat) : Int) ∧ ((n2 : Nat) : Int) ≤ (((Int.toNat (IntKind.wrap .i64 (((n2 : Nat)) + ((n6 : Nat)))) - Int.toNat (0)) : Nat) : Int) ∧ (((Int.toNat (IntKind.wrap .i64 (((n2 : Nat)) + ((n6 : Nat)))) - Int.toNat (0)) : Nat) : Int) ≤ ((c3 - Int.toNat (0)) : Nat) ∧
 semH PG B (Builtin.copy_ #[164, 164] 3 #[(.slice (if (c3 - Int.toNat (0)) = Int.toNat ((n2 : Nat)) then (if c3 = Int.toNat (0) then a1 else Option.map (·.add (Int.toNat (0) * 2)) a1) else Option.map (·.add (Int.toNat ((n2 : Nat)) * 2)) (if c3 = Int.toNat (0) then a1 else Option.map (·.add (Int.toNat (0) * 2)) a1)) (Int.toNat (((Int.toNat (IntKind.wrap .i64 (((n2 : Nat)) + ((n6 : Nat)))) - Int.toNat (0)) : Nat)) - Int.toNat ((n2 : Nat))) ((c3 - Int.toNat (0)) - Int.toNat ((n2 : Nat)))), (.slice a5 n6 c7)]) h23 (fun v h29 => ∃ i30 : Int, v = (.int .i64 (i30)) ∧
 0 ≤ (i4 : Int) ∧ (i4 : Int) ≤ (((Int.toNat (IntKind.wrap .i64 (((n2 : Nat)) + ((n6 : Nat)))) - Int.toNat (0)) : Nat) : Int) ∧ (((Int.toNat (IntKind.wrap .i64 (((n2 : Nat)) + ((n6 : Nat)))) - Int.toNat (0)) : Nat) : Int) ≤ ((c3 - Int.toNat (0)) : Nat) ∧
 C_slices_rotateRight_draft_entry_int B (if (c3 - Int.toNat (0)) = Int.toNat (i4) then (if c3 = Int.toNat (0) then a1 else Option.map (·.add (Int.toNat (0) * 2)) a1) else Option.map (·.add (Int.toNat (i4) * 2)) (if c3 = Int.toNat (0) then a1 else Option.map (·.add (Int.toNat (0) * 2)) a1)) (Int.toNat (((Int.toNat (IntKind.wrap .i64 (((n2 : Nat)) + ((n6 : Nat)))) - Int.toNat (0)) : Nat)) - Int.toNat (i4)) ((c3 - Int.toNat (0)) - Int.toNat (i4)) ((n6 : Nat)) h29 (fun h31 =>
 Fin B h31 (Q (if c3 = Int.toNat (0) then a1 else Option.map (·.add (Int.toNat (0) * 2)) a1) (Int.toNat (IntKind.wrap .i64 (((n2 : Nat)) + ((n6 : Nat)))) - Int.toNat (0)) (c3 - Int.toNat (0)))))) ∧ (b24 = false →
 0 ≤ (IntKind.wrap .i64 ((i4) + ((n6 : Nat))) : Int) ∧ (IntKind.wrap .i64 ((i4) + ((n6 : Nat))) : Int) ≤ (((Int.toNat (IntKind.wrap .i64 (((n2 : Nat)) + ((n6 : Nat)))) - Int.toNat (0)) : Nat) : Int) ∧ (((Int.toNat (IntKind.wrap .i64 (((n2 : Nat)) + ((n6 : Nat)))) - Int.toNat (0)) : Nat) : Int) ≤ ((c3 - Int.toNat (0)) : Nat) ∧
 0 ≤ (i4 : Int) ∧ (i4 : Int) ≤ (((Int.toNat (IntKind.wrap .i64 (((n2 : Nat)) + ((n6 : Nat)))) - Int.toNat (0)) : Nat) : Int) ∧ (((Int.toNat (IntKind.wrap .i64 (((n2 : Nat)) + ((n6 : Nat)))) - Int.toNat (0)) : Nat) : Int) ≤ ((c3 - Int.toNat (0)) : Nat) ∧
 semH PG B (Builtin.copy_ #[164, 164] 3 #[(.slice (if (c3 - Int.toNat (0)) = Int.toNat (IntKind.wrap .i64 ((i4) + ((n6 : Nat)))) then (if c3 = Int.toNat (0) then a1 else Option.map (·.add (Int.toNat (0) * 2)) a1) else Option.map (·.add (Int.toNat (IntKind.wrap .i64 ((i4) + ((n6 : Nat)))) * 2)) (if c3 = Int.toNat (0) then a1 else Option.map (·.add (Int.toNat (0) * 2)) a1)) (Int.toNat (((Int.toNat (IntKind.wrap .i64 (((n2 : Nat)) + ((n6 : Nat)))) - Int.toNat (0)) : Nat)) - Int.toNat (IntKind.wrap .i64 ((i4) + ((n6 : Nat))))) ((c3 - Int.toNat (0)) - Int.toNat (IntKind.wrap .i64 ((i4) + ((n6 : Nat)))))), (.slice (if (c3 - Int.toNat (0)) = Int.toNat (i4) then (if c3 = Int.toNat (0) then a1 else Option.map (·.add (Int.toNat (0) * 2)) a1) else Option.map (·.add (Int.toNat (i4) * 2)) (if c3 = Int.toNat (0) then a1 else Option.map (·.add (Int.toNat (0) * 2)) a1)) (Int.toNat (((Int.toNat (IntKind.wrap .i64 (((n2 : Nat)) + ((n6 : Nat)))) - Int.toNat (0)) : Nat)) - Int.toNat (i4)) ((c3 - Int.toNat (0)) - Int.toNat (i4)))]) h23 (fun v h25 => ∃ i26 : Int, v = (.int .i64 (i26)) ∧
 0 ≤ (i4 : Int) ∧ (i4 : Int) ≤ (((Int.toNat (IntKind.wrap .i64 (((n2 : Nat)) + ((n6 : Nat)))) - Int.toNat (0)) : Nat) : Int) ∧ (((Int.toNat (IntKind.wrap .i64 (((n2 : Nat)) + ((n6 : Nat)))) - Int.toNat (0)) : Nat) : Int) ≤ ((c3 - Int.toNat (0)) : Nat) ∧
 semH PG B (Builtin.copy_ #[164, 164] 3 #[(.slice (if (c3 - Int.toNat (0)) = Int.toNat (i4) then (if c3 = Int.toNat (0) then a1 else Option.map (·.add (Int.toNat (0) * 2)) a1) else Option.map (·.add (Int.toNat (i4) * 2)) (if c3 = Int.toNat (0) then a1 else Option.map (·.add (Int.toNat (0) * 2)) a1)) (Int.toNat (((Int.toNat (IntKind.wrap .i64 (((n2 : Nat)) + ((n6 : Nat)))) - Int.toNat (0)) : Nat)) - Int.toNat (i4)) ((c3 - Int.toNat (0)) - Int.toNat (i4))), (.slice a5 n6 c7)]) h25 (fun v h27 => ∃ i28 : Int, v = (.int .i64 (i28)) ∧
 Fin B h27 (Q (if c3 = Int.toNat (0) then a1 else Option.map (·.add (Int.toNat (0) * 2)) a1) (Int.toNat (IntKind.wrap .i64 (((n2 : Nat)) + ((n6 : Nat)))) - Int.toNat (0)) (c3 - Int.toNat (0))))))))))
def S_cell_New_file_File (B : RO) (i1 : Int) (b2 : Bool) (s3 : ByteArray) (h : Heap) (Q : Option Addr → Heap → Prop) : Prop :=
 ∀ k5 : Nat, h k5 = none → B k5 = none → ∀ h6 : Heap, h6 = Heap.set h k5 (.vec 119 (plains [(.bool b2), (.string s3)]) 2) →
 ∀ k7 : Nat, h6 k7 = none → B k7 = none → ∀ h8 : Heap, h8 = Heap.set h6 k7 (.vec 219 (plains [(.slice none 0 0)]) 1) →
 ∃ (J14 : Int → Nat → Heap → Prop) (m12 : Nat), Fin B h8 (J14 (0) m12) ∧
 ∀ (i9 : Int) (m11 : Nat) (h10 : Heap), J14 i9 m11 h10 →
 ((i9 : Int) < (i1) →
 ∃ a19 : Option Addr, ∃ n20 : Nat, ∃ c21 : Nat, cellH B h10 ⟨k7, 0, none⟩ = some (.slice a19 n20 c21) ∧
 ∃ b23 : Bool, ∃ s24 : ByteArray, CellsAt B h10 ⟨k5, 0, none⟩ 0 [(.bool b23), (.string s24)] ∧
 ∀ k27 : Nat, h10 k27 = none → B k27 = none → ∀ h28 : Heap, h28 = Heap.set h10 k27 (.vec 216 (plains [(.bool b23), (.string s24), (.int .i64 (0))]) 3) →
 cellH B h28 ⟨k7, 0, none⟩ = some (.slice a19 n20 c21) ∧ CellsAt B h28 ⟨k5, 0, none⟩ 0 [(.bool b23), (.string s24)] ∧
 semH PG B (Builtin.append_ #[217, 217] 217 #[(.slice a19 n20 c21), (.slice (some ⟨k27, 0, none⟩) 1 1)]) h28 (fun v h31 => ∃ a32 : Option Addr, ∃ n33 : Nat, ∃ c34 : Nat, v = (.slice a32 n33 c34) ∧
 cellH B h31 ⟨k7, 0, none⟩ = some (.slice a19 n20 c21) ∧ CellsAt B h31 ⟨k5, 0, none⟩ 0 [(.bool b23), (.string s24)] ∧
 ∃ h37 : Heap, storeH h31 ⟨k7, 0, none⟩ (.slice a32 n33 c34) = some h37 ∧
 Fin B h37 (fun h' => ∃ m', m' < m11 ∧ J14 (IntKind.wrap .i64 ((i9) + (1))) m' h'))) ∧ (¬ ((i9 : Int) < (i1)) →
 Fin B h10 (Q (some ⟨k7, 0, none⟩)))
def S_sheet_New (B : RO) (h : Heap) (Q : Option Addr → Heap → Prop) : Prop :=
 ∀ k2 : Nat, h k2 = none → B k2 = none → ∀ h3 : Heap, h3 = Heap.set h k2 (.vec 207 (plains [(.slice none 0 0)]) 1) →
 ∀ k4 : Nat, h3 k4 = none → B k4 = none → ∀ h5 : Heap, h5 = Heap.set h3 k4 (.vec 204 (plains [(.pointer (some ⟨k2, 0, none⟩))]) 1) →
 Fin B h5 (Q (some ⟨k4, 0, none⟩))
def S_slices_BinarySearchFunc_s_draft_entry_int_draft_entry_int_int_J1 (B : RO) (a1 : Option Addr) (n2 : Nat) (c3 : Nat) (i4 : Int) (v5 : Value) (i9 : Int) (h10 : Heap) (Q : Int → Bool → Heap → Prop) : Prop :=
 ((i9 : Int) < ((n2 : Nat)) →
 ∃ A11 : Addr, a1 = some A11 ∧ 0 ≤ (i9 : Int) ∧ (i9 : Int) < (n2 : Nat) ∧
 ∃ i13 : Int, ∃ i14 : Int, CellsAt B h10 (Addr.add A11 (Int.toNat (i9) * 2)) 0 [(.int .i64 (i13)), (.int .i64 (i14))] ∧
 CallV PG B v5 [(.agg #[(.int .i64 (i13)), (.int .i64 (i14))]), (.int .i64 (i4))] h10 (fun v h15 => ∃ i16 : Int, v = (.int .i64 (i16)) ∧
 Fin B h15 (Q (i9) (((i16 : Int) == (0)))))) ∧ (¬ ((i9 : Int) < ((n2 : Nat))) →
 Fin B h10 (Q (i9) (false)))
def S_slices_BinarySearchFunc_s_draft_entry_int_draft_entry_int_int (B : RO) (a1 : Option Addr) (n2 : Nat) (c3 : Nat) (i4 : Int) (v5 : Value) (h : Heap) (Q : Int → Bool → Heap → Prop) : Prop :=
 ∃ (J23 : Int → Int → Nat → Heap → Prop) (m21 : Nat), Fin B h (J23 (0) ((n2 : Nat)) m21) ∧
 ∀ (i17 : Int) (i18 : Int) (m20 : Nat) (h19 : Heap), J23 i17 i18 m20 h19 →
 ((i17 : Int) < (i18) →
 ¬ ((1 : Int) < 0) ∧
 ∃ A24 : Addr, a1 = some A24 ∧ 0 ≤ (IntKind.wrap .i64 (Int.fdiv (IntKind.wrap .u64 (IntKind.wrap .i64 ((i17) + (i18)))) (2 ^ (min (Int.toNat (1)) (IntKind.bits .u64)))) : Int) ∧ (IntKind.wrap .i64 (Int.fdiv (IntKind.wrap .u64 (IntKind.wrap .i64 ((i17) + (i18)))) (2 ^ (min (Int.toNat (1)) (IntKind.bits .u64)))) : Int) < (n2 : Nat) ∧
 ∃ i26 : Int, ∃ i27 : Int, CellsAt B h19 (Addr.add A24 (Int.toNat (IntKind.wrap .i64 (Int.fdiv (IntKind.wrap .u64 (IntKind.wrap .i64 ((i17) + (i18)))) (2 ^ (min (Int.toNat (1)) (IntKind.bits .u64))))) * 2)) 0 [(.int .i64 (i26)), (.int .i64 (i27))] ∧
 CallV PG B v5 [(.agg #[(.int .i64 (i26)), (.int .i64 (i27))]), (.int .i64 (i4))] h19 (fun v h28 => ∃ i29 : Int, v = (.int .i64 (i29)) ∧
 ((i29 : Int) < (0) →
 Fin B h28 (fun h' => ∃ m', m' < m20 ∧ J23 (IntKind.wrap .i64 ((IntKind.wrap .i64 (Int.fdiv (IntKind.wrap .u64 (IntKind.wrap .i64 ((i17) + (i18)))) (2 ^ (min (Int.toNat (1)) (IntKind.bits .u64))))) + (1))) (i18) m' h')) ∧ (¬ ((i29 : Int) < (0)) →
 Fin B h28 (fun h' => ∃ m', m' < m20 ∧ J23 (i17) (IntKind.wrap .i64 (Int.fdiv (IntKind.wrap .u64 (IntKind.wrap .i64 ((i17) + (i18)))) (2 ^ (min (Int.toNat (1)) (IntKind.bits .u64))))) m' h')))) ∧ (¬ ((i17 : Int) < (i18)) →
 Fin B h19 (fun h' => S_slices_BinarySearchFunc_s_draft_entry_int_draft_entry_int_int_J1 B a1 n2 c3 i4 v5 (i17) h' Q))
def S_draft_by_int (B : RO) (i1 : Int) (i2 : Int) (i3 : Int) (h : Heap) (Q : Int → Heap → Prop) : Prop :=
 ∀ k5 : Nat, h k5 = none → B k5 = none → ∀ h6 : Heap, h6 = Heap.set h k5 (.vec 163 (plains [(.int .i64 (i1)), (.int .i64 (i2))]) 2) →
 ∃ i7 : Int, cellH B h6 ⟨k5, 0, none⟩ = some (.int .i64 (i7)) ∧
 ((i7 : Int) < (i3) →
 Fin B h6 (Q ((-1)))) ∧ (¬ ((i7 : Int) < (i3)) →
 ∃ i8 : Int, cellH B h6 ⟨k5, 0, none⟩ = some (.int .i64 (i8)) ∧
 ((i8 : Int) > (i3) →
 Fin B h6 (Q (1))) ∧ (¬ ((i8 : Int) > (i3)) →
 Fin B h6 (Q (0))))
def S_reads_Set_place (B : RO) (p1 : Option Addr) (i2 : Int) (i3 : Int) (h : Heap) (Q : Int → Heap → Prop) : Prop :=
 ∀ k5 : Nat, h k5 = none → B k5 = none → ∀ h6 : Heap, h6 = Heap.set h k5 (.vec 110 [.plain (.int .i64 (i2))] 1) →
 ∀ k7 : Nat, h6 k7 = none → B k7 = none → ∀ h8 : Heap, h8 = Heap.set h6 k7 (.vec 3 [.plain (.int .i64 (i3))] 1) →
 ∃ A9 : Addr, p1 = some A9 ∧
 LdSl B h8 A9 fun a11 n12 c13 h14 =>
 C_slices_IndexFunc_s_reads_Entry_reads_Entry B a11 n12 c13 (Value.func (.func 133) #[] #[(.pointer (some ⟨k5, 0, none⟩)), (.pointer (some ⟨k7, 0, none⟩))]) h14 (fun i16 h15 =>
 Fin B h15 (Q (i16)))
def S_draft_Draft_file_File_All_1 (B : RO) (v1 : Value) (A2 : Addr) (h : Heap) (Q : Heap → Prop) : Prop :=
 ∃ p3 : Option Addr, cellH B h A2 = some (.pointer p3) ∧
 (p3 = none →
 Fin B h (Q)) ∧ (¬ (p3 = none) →
 ∃ p5 : Option Addr, cellH B h A2 = some (.pointer p5) ∧
 ∃ A6 : Addr, p5 = some A6 ∧
 LdSl B h A6 fun a8 n9 c10 h11 =>
 ∃ (J17 : Int → Nat → Heap → Prop) (m15 : Nat), Fin B h11 (J17 (0) m15) ∧
 ∀ (i12 : Int) (m14 : Nat) (h13 : Heap), J17 i12 m14 h13 →
 ((i12 : Int) < ((n9 : Nat)) →
 ∃ A18 : Addr, a8 = some A18 ∧ 0 ≤ (i12 : Int) ∧ (i12 : Int) < (n9 : Nat) ∧
 ∃ i20 : Int, ∃ b21 : Bool, ∃ s22 : ByteArray, CellsAt B h13 (Addr.add A18 (Int.toNat (i12) * 3)) 0 [(.int .i64 (i20)), (.bool b21), (.string s22)] ∧
 ∀ k23 : Nat, h13 k23 = none → B k23 = none → ∀ h24 : Heap, h24 = Heap.set h13 k23 (.vec 213 (plains [(.int .i64 (0)), (.bool false), (.string ByteArray.empty)]) 3) →
 ∃ h25 : Heap, StoresAt ⟨k23, 0, none⟩ h24 0 [(.int .i64 (i20)), (.bool b21), (.string s22)] h25 ∧
 ∃ i26 : Int, cellH B h25 ⟨k23, 0, none⟩ = some (.int .i64 (i26)) ∧
 ∃ b27 : Bool, ∃ s28 : ByteArray, CellsAt B h25 ⟨k23, 1, none⟩ 0 [(.bool b27), (.string s28)] ∧
 CallV PG B v1 [(.int .i64 (i26)), (.agg #[(.bool b27), (.string s28)])] h25 (fun v h29 => ∃ b30 : Bool, v = (.bool b30) ∧
 (b30 = true →
 Fin B h29 (fun h' => ∃ m', m' < m14 ∧ J17 (IntKind.wrap .i64 ((i12) + (1))) m' h')) ∧ (b30 = false →
 Fin B h29 (Q)))) ∧ (¬ ((i12 : Int) < ((n9 : Nat))) →
 Fin B h13 (Q)))
def S_file_Good (B : RO) (b1 : Bool) (s2 : ByteArray) (h : Heap) (Q : Bool → Heap → Prop) : Prop :=
 ∀ k4 : Nat, h k4 = none → B k4 = none → ∀ h5 : Heap, h5 = Heap.set h k4 (.vec 119 (plains [(.bool b1), (.string s2)]) 2) →
 ∃ s6 : ByteArray, cellH B h5 ⟨k4, 1, none⟩ = some (.string s6) ∧
 (((ByteArray.size s6 : Nat) : Int) ≤ (32) →
 ∃ b7 : Bool, cellH B h5 ⟨k4, 0, none⟩ = some (.bool b7) ∧ (b7 = true →
 Fin B h5 (Q (true))) ∧ (b7 = false →
 ∃ s8 : ByteArray, cellH B h5 ⟨k4, 1, none⟩ = some (.string s8) ∧
 Fin B h5 (Q ((decide (s8 = (ByteArray.mk #[]))))))) ∧ (¬ (((ByteArray.size s6 : Nat) : Int) ≤ (32)) →
 Fin B h5 (Q (false)))
def S_cell_Row_file_File_Set (B : RO) (p1 : Option Addr) (i2 : Int) (b3 : Bool) (s4 : ByteArray) (i5 : Int) (h : Heap) (Q : Bool → Heap → Prop) : Prop :=
 ∀ k7 : Nat, h k7 = none → B k7 = none → ∀ h8 : Heap, h8 = Heap.set h k7 (.vec 119 (plains [(.bool b3), (.string s4)]) 2) →
 C_cell_Row_file_File_is B p1 (i2) h8 (fun b10 h9 =>
 (b10 = true →
 ∃ A11 : Addr, p1 = some A11 ∧
 ∃ a13 : Option Addr, ∃ n14 : Nat, ∃ c15 : Nat, cellH B h9 A11 = some (.slice a13 n14 c15) ∧
 ∃ b16 : Bool, ∃ s17 : ByteArray, CellsAt B h9 ⟨k7, 0, none⟩ 0 [(.bool b16), (.string s17)] ∧
 ∃ A18 : Addr, a13 = some A18 ∧ 0 ≤ (i2 : Int) ∧ (i2 : Int) < (n14 : Nat) ∧
 ∃ h20 : Heap, StoresAt (Addr.add A18 (Int.toNat (i2) * 3)) h9 0 [(.bool b16), (.string s17), (.int .i64 (i5))] h20 ∧
 Fin B h20 (Q (true))) ∧ (b10 = false →
 Fin B h9 (Q (false))))
def S_cell_Row_file_File_is (B : RO) (p1 : Option Addr) (i2 : Int) (h : Heap) (Q : Bool → Heap → Prop) : Prop :=
 (p1 = none →
 Fin B h (Q (false))) ∧ (¬ (p1 = none) →
 ((i2 : Int) ≥ (0) →
 ∃ A5 : Addr, p1 = some A5 ∧
 LdSl B h A5 fun a7 n8 c9 h10 =>
 Fin B h10 (Q ((decide ((i2 : Int) < ((n8 : Nat))))))) ∧ (¬ ((i2 : Int) ≥ (0)) →
 Fin B h (Q (false))))
def S_sheet_Sheet_Get_J1 (B : RO) (p2 : Option Addr) (i3 : Int) (k7 : Nat) (h10 : Heap) (Q : Bool → ByteArray → Bool → Heap → Prop) : Prop :=
 C_tome_Tome_Get B p2 (i3) h10 (fun b12 s13 i14 h11 =>
 ∀ k15 : Nat, h11 k15 = none → B k15 = none → ∀ h16 : Heap, h16 = Heap.set h11 k15 (.vec 119 (plains [(.bool false), (.string ByteArray.empty)]) 2) →
 ∃ h17 : Heap, StoresAt ⟨k15, 0, none⟩ h16 0 [(.bool b12), (.string s13)] h17 ∧
 ∃ b18 : Bool, ∃ s19 : ByteArray, CellsAt B h17 ⟨k15, 0, none⟩ 0 [(.bool b18), (.string s19)] ∧
 ∃ h20 : Heap, StoresAt ⟨k7, 0, none⟩ h17 0 [(.bool b18), (.string s19)] h20 ∧
 ∃ b21 : Bool, ∃ s22 : ByteArray, CellsAt B h20 ⟨k7, 0, none⟩ 0 [(.bool b21), (.string s22)] ∧ Fin B h20 (Q (b21) s22 (false)))
def S_sheet_Sheet_Get (B : RO) (p1 : Option Addr) (p2 : Option Addr) (i3 : Int) (h : Heap) (Q : Bool → ByteArray → Bool → Heap → Prop) : Prop :=
 ∀ k7 : Nat, h k7 = none → B k7 = none → ∀ h8 : Heap, h8 = Heap.set h k7 (.vec 119 (plains [(.bool false), (.string ByteArray.empty)]) 2) →
 (p1 = none →
 Fin B h8 (fun h' => S_sheet_Sheet_Get_J1 B p2 i3 k7 h' Q)) ∧ (¬ (p1 = none) →
 ∃ A24 : Addr, p1 = some A24 ∧
 ∃ p26 : Option Addr, cellH B h8 A24 = some (.pointer p26) ∧
 C_draft_Draft_file_File_Get B p26 (i3) h8 (fun b28 s29 b30 h27 =>
 (b30 = true →
 ∀ k34 : Nat, h27 k34 = none → B k34 = none → ∀ h35 : Heap, h35 = Heap.set h27 k34 (.vec 119 (plains [(.bool false), (.string ByteArray.empty)]) 2) →
 ∃ h36 : Heap, StoresAt ⟨k34, 0, none⟩ h35 0 [(.bool b28), (.string s29)] h36 ∧
 ∃ b37 : Bool, ∃ s38 : ByteArray, CellsAt B h36 ⟨k34, 0, none⟩ 0 [(.bool b37), (.string s38)] ∧
 ∃ h39 : Heap, StoresAt ⟨k7, 0, none⟩ h36 0 [(.bool b37), (.string s38)] h39 ∧
 ∃ b40 : Bool, ∃ s41 : ByteArray, CellsAt B h39 ⟨k7, 0, none⟩ 0 [(.bool b40), (.string s41)] ∧ Fin B h39 (Q (b40) s41 (true))) ∧ (b30 = false →
 ∀ k31 : Nat, h27 k31 = none → B k31 = none → ∀ h32 : Heap, h32 = Heap.set h27 k31 (.vec 119 (plains [(.bool false), (.string ByteArray.empty)]) 2) →
 ∃ h33 : Heap, StoresAt ⟨k31, 0, none⟩ h32 0 [(.bool b28), (.string s29)] h33 ∧
 Fin B h33 (fun h' => S_sheet_Sheet_Get_J1 B p2 i3 k7 h' Q))))
def S_sheet_Sheet_put_J1 (B : RO) (p1 : Option Addr) (p2 : Option Addr) (i3 : Int) (k7 : Nat) (h10 : Heap) (Q : Bool → Heap → Prop) : Prop :=
 C_sheet_Sheet_Get B p1 p2 (i3) h10 (fun b12 s13 b14 h11 =>
 ∀ k15 : Nat, h11 k15 = none → B k15 = none → ∀ h16 : Heap, h16 = Heap.set h11 k15 (.vec 119 (plains [(.bool false), (.string ByteArray.empty)]) 2) →
 ∃ h17 : Heap, StoresAt ⟨k15, 0, none⟩ h16 0 [(.bool b12), (.string s13)] h17 ∧
 ∃ b18 : Bool, ∃ s19 : ByteArray, CellsAt B h17 ⟨k15, 0, none⟩ 0 [(.bool b18), (.string s19)] ∧
 ∃ b20 : Bool, ∃ s21 : ByteArray, CellsAt B h17 ⟨k7, 0, none⟩ 0 [(.bool b20), (.string s21)] ∧
 (eqL [(.bool b18), (.string s19)] [(.bool b20), (.string s21)] = true →
 Fin B h17 (Q (true))) ∧ (¬ (eqL [(.bool b18), (.string s19)] [(.bool b20), (.string s21)] = true) →
 ∃ A24 : Addr, p1 = some A24 ∧
 ∃ p28 : Option Addr, cellH B h17 A24 = some (.pointer p28) ∧
 ∃ b31 : Bool, ∃ s32 : ByteArray, CellsAt B h17 ⟨k7, 0, none⟩ 0 [(.bool b31), (.string s32)] ∧
 C_draft_Draft_file_File_Put B p28 (i3) (b31) s32 h17 (fun b35 h34 =>
 cellH B h34 A24 = some (.pointer p28) ∧ CellsAt B h34 ⟨k7, 0, none⟩ 0 [(.bool b31), (.string s32)] ∧
 Fin B h34 (Q (b35)))))
def S_sheet_Sheet_put (B : RO) (p1 : Option Addr) (p2 : Option Addr) (i3 : Int) (b4 : Bool) (s5 : ByteArray) (h : Heap) (Q : Bool → Heap → Prop) : Prop :=
 ∀ k7 : Nat, h k7 = none → B k7 = none → ∀ h8 : Heap, h8 = Heap.set h k7 (.vec 119 (plains [(.bool b4), (.string s5)]) 2) →
 (p1 = none →
 Fin B h8 (Q (false))) ∧ (¬ (p1 = none) →
 ((i3 : Int) < (0) →
 Fin B h8 (Q (false))) ∧ (¬ ((i3 : Int) < (0)) →
 ((i3 : Int) ≥ (6) →
 Fin B h8 (Q (false))) ∧ (¬ ((i3 : Int) ≥ (6)) →
 Fin B h8 (fun h' => S_sheet_Sheet_put_J1 B p1 p2 i3 k7 h' Q))))
def S_file_Put_J2 (B : RO) (i3 : Int) (i4 : Int) (k9 : Nat) (a19 : Option Addr) (n20 : Nat) (c21 : Nat) (h22 : Heap) (Q : Bool → ByteArray → Heap → Prop) : Prop :=
 ∃ A23 : Addr, a19 = some A23 ∧ 0 ≤ (i3 : Int) ∧ (i3 : Int) < (n20 : Nat) ∧
 ∃ h25 : Heap, storeH h22 (Addr.add A23 (Int.toNat (i3) * 1)) (.int .u8 (i4)) = some h25 ∧
 semH PG B (convert 226 9 (.slice a19 n20 c21)) h25 (fun v h27 => ∃ s26 : ByteArray, v = (.string s26) ∧
 ∃ h28 : Heap, StoresAt ⟨k9, 0, none⟩ h27 0 [(.bool true), (.string s26)] h28 ∧
 ∃ b29 : Bool, ∃ s30 : ByteArray, CellsAt B h28 ⟨k9, 0, none⟩ 0 [(.bool b29), (.string s30)] ∧ Fin B h28 (Q (b29) s30))
def S_file_Put_J1 (B : RO) (i3 : Int) (i4 : Int) (k7 : Nat) (k9 : Nat) (h12 : Heap) (Q : Bool → ByteArray → Heap → Prop) : Prop :=
 ∃ s13 : ByteArray, cellH B h12 ⟨k7, 1, none⟩ = some (.string s13) ∧
 semH PG B (convert 9 226 (.string s13)) h12 (fun v h17 => ∃ a14 : Option Addr, ∃ n15 : Nat, ∃ c16 : Nat, v = (.slice a14 n15 c16) ∧
 ∃ (J38 : Option Addr → Nat → Nat → Nat → Heap → Prop) (m36 : Nat), Fin B h17 (J38 a14 n15 c16 m36) ∧
 ∀ (a31 : Option Addr) (n32 : Nat) (c33 : Nat) (m35 : Nat) (h34 : Heap), J38 a31 n32 c33 m35 h34 →
 (((n32 : Nat) : Int) ≤ (i3) →
 ∀ k39 : Nat, h34 k39 = none → B k39 = none → ∀ h40 : Heap, h40 = Heap.set h34 k39 (.vec 5 (plains [(.int .u8 (0))]) 1) →
 semH PG B (Builtin.append_ #[226, 226] 226 #[(.slice a31 n32 c33), (.slice (some ⟨k39, 0, none⟩) 1 1)]) h40 (fun v h41 => ∃ a42 : Option Addr, ∃ n43 : Nat, ∃ c44 : Nat, v = (.slice a42 n43 c44) ∧
 Fin B h41 (fun h' => ∃ m', m' < m35 ∧ J38 a42 n43 c44 m' h'))) ∧ (¬ (((n32 : Nat) : Int) ≤ (i3)) →
 Fin B h34 (fun h' => S_file_Put_J2 B i3 i4 k9 a31 n32 c33 h' Q)))
def S_file_Put (B : RO) (b1 : Bool) (s2 : ByteArray) (i3 : Int) (i4 : Int) (h : Heap) (Q : Bool → ByteArray → Heap → Prop) : Prop :=
 ∀ k7 : Nat, h k7 = none → B k7 = none → ∀ h8 : Heap, h8 = Heap.set h k7 (.vec 119 (plains [(.bool b1), (.string s2)]) 2) →
 ∀ k9 : Nat, h8 k9 = none → B k9 = none → ∀ h10 : Heap, h10 = Heap.set h8 k9 (.vec 119 (plains [(.bool false), (.string ByteArray.empty)]) 2) →
 ((i3 : Int) < (0) →
 ∃ b45 : Bool, ∃ s46 : ByteArray, CellsAt B h10 ⟨k7, 0, none⟩ 0 [(.bool b45), (.string s46)] ∧
 ∃ h47 : Heap, StoresAt ⟨k9, 0, none⟩ h10 0 [(.bool b45), (.string s46)] h47 ∧
 ∃ b48 : Bool, ∃ s49 : ByteArray, CellsAt B h47 ⟨k9, 0, none⟩ 0 [(.bool b48), (.string s49)] ∧ Fin B h47 (Q (b48) s49)) ∧ (¬ ((i3 : Int) < (0)) →
 ((i3 : Int) ≥ (32) →
 ∃ b50 : Bool, ∃ s51 : ByteArray, CellsAt B h10 ⟨k7, 0, none⟩ 0 [(.bool b50), (.string s51)] ∧
 ∃ h52 : Heap, StoresAt ⟨k9, 0, none⟩ h10 0 [(.bool b50), (.string s51)] h52 ∧
 ∃ b53 : Bool, ∃ s54 : ByteArray, CellsAt B h52 ⟨k9, 0, none⟩ 0 [(.bool b53), (.string s54)] ∧ Fin B h52 (Q (b53) s54)) ∧ (¬ ((i3 : Int) ≥ (32)) →
 Fin B h10 (fun h' => S_file_Put_J1 B i3 i4 k7 k9 h' Q)))
def S_file_Make (B : RO) (b1 : Bool) (s2 : ByteArray) (h : Heap) (Q : Bool → ByteArray → Heap → Prop) : Prop :=
 ∀ k5 : Nat, h k5 = none → B k5 = none → ∀ h6 : Heap, h6 = Heap.set h k5 (.vec 119 (plains [(.bool b1), (.string s2)]) 2) →
 ∀ k7 : Nat, h6 k7 = none → B k7 = none → ∀ h8 : Heap, h8 = Heap.set h6 k7 (.vec 119 (plains [(.bool false), (.string ByteArray.empty)]) 2) →
 ∃ s9 : ByteArray, cellH B h8 ⟨k5, 1, none⟩ = some (.string s9) ∧
 ∃ h10 : Heap, StoresAt ⟨k7, 0, none⟩ h8 0 [(.bool true), (.string s9)] h10 ∧
 ∃ b11 : Bool, ∃ s12 : ByteArray, CellsAt B h10 ⟨k7, 0, none⟩ 0 [(.bool b11), (.string s12)] ∧ Fin B h10 (Q (b11) s12)
def S_file_Cut_J1 (B : RO) (i3 : Int) (k6 : Nat) (k8 : Nat) (h11 : Heap) (Q : Bool → ByteArray → Heap → Prop) : Prop :=
 ∃ s12 : ByteArray, cellH B h11 ⟨k6, 1, none⟩ = some (.string s12) ∧
 ((i3 : Int) ≤ ((ByteArray.size s12 : Nat)) →
 ∃ s13 : ByteArray, cellH B h11 ⟨k6, 1, none⟩ = some (.string s13) ∧
 0 ≤ (0 : Int) ∧ (0 : Int) ≤ (i3 : Int) ∧ (i3 : Int) ≤ (ByteArray.size s13 : Nat) ∧
 ∃ h14 : Heap, StoresAt ⟨k8, 0, none⟩ h11 0 [(.bool true), (.string (ByteArray.extract s13 (Int.toNat (0)) (Int.toNat (i3))))] h14 ∧
 ∃ b15 : Bool, ∃ s16 : ByteArray, CellsAt B h14 ⟨k8, 0, none⟩ 0 [(.bool b15), (.string s16)] ∧ Fin B h14 (Q (b15) s16)) ∧ (¬ ((i3 : Int) ≤ ((ByteArray.size s12 : Nat))) →
 ∃ s18 : ByteArray, cellH B h11 ⟨k6, 1, none⟩ = some (.string s18) ∧
 ∃ s22 : ByteArray, cellH B h11 ⟨k6, 1, none⟩ = some (.string s22) ∧
 C_strings_Repeat B (ByteArray.mk #[0]) (IntKind.wrap .i64 ((i3) - ((ByteArray.size s22 : Nat)))) h11 (fun s27 h26 =>
 cellH B h26 ⟨k6, 1, none⟩ = some (.string s18) ∧ cellH B h26 ⟨k6, 1, none⟩ = some (.string s22) ∧
 ByteArray.size s18 + ByteArray.size s27 ≤ 4611686018427387904 ∧
 ∃ h30 : Heap, StoresAt ⟨k8, 0, none⟩ h26 0 [(.bool true), (.string (s18 ++ s27))] h30 ∧
 ∃ b31 : Bool, ∃ s32 : ByteArray, CellsAt B h30 ⟨k8, 0, none⟩ 0 [(.bool b31), (.string s32)] ∧ Fin B h30 (Q (b31) s32)))
def S_file_Cut (B : RO) (b1 : Bool) (s2 : ByteArray) (i3 : Int) (h : Heap) (Q : Bool → ByteArray → Heap → Prop) : Prop :=
 ∀ k6 : Nat, h k6 = none → B k6 = none → ∀ h7 : Heap, h7 = Heap.set h k6 (.vec 119 (plains [(.bool b1), (.string s2)]) 2) →
 ∀ k8 : Nat, h7 k8 = none → B k8 = none → ∀ h9 : Heap, h9 = Heap.set h7 k8 (.vec 119 (plains [(.bool false), (.string ByteArray.empty)]) 2) →
 ∃ b33 : Bool, cellH B h9 ⟨k6, 0, none⟩ = some (.bool b33) ∧ (b33 = true →
 ((i3 : Int) < (0) →
 ∃ b39 : Bool, ∃ s40 : ByteArray, CellsAt B h9 ⟨k6, 0, none⟩ 0 [(.bool b39), (.string s40)] ∧
 ∃ h41 : Heap, StoresAt ⟨k8, 0, none⟩ h9 0 [(.bool b39), (.string s40)] h41 ∧
 ∃ b42 : Bool, ∃ s43 : ByteArray, CellsAt B h41 ⟨k8, 0, none⟩ 0 [(.bool b42), (.string s43)] ∧ Fin B h41 (Q (b42) s43)) ∧ (¬ ((i3 : Int) < (0)) →
 ((i3 : Int) > (32) →
 ∃ b44 : Bool, ∃ s45 : ByteArray, CellsAt B h9 ⟨k6, 0, none⟩ 0 [(.bool b44), (.string s45)] ∧
 ∃ h46 : Heap, StoresAt ⟨k8, 0, none⟩ h9 0 [(.bool b44), (.string s45)] h46 ∧
 ∃ b47 : Bool, ∃ s48 : ByteArray, CellsAt B h46 ⟨k8, 0, none⟩ 0 [(.bool b47), (.string s48)] ∧ Fin B h46 (Q (b47) s48)) ∧ (¬ ((i3 : Int) > (32)) →
 Fin B h9 (fun h' => S_file_Cut_J1 B i3 k6 k8 h' Q)))) ∧ (b33 = false →
 ∃ b34 : Bool, ∃ s35 : ByteArray, CellsAt B h9 ⟨k6, 0, none⟩ 0 [(.bool b34), (.string s35)] ∧
 ∃ h36 : Heap, StoresAt ⟨k8, 0, none⟩ h9 0 [(.bool b34), (.string s35)] h36 ∧
 ∃ b37 : Bool, ∃ s38 : ByteArray, CellsAt B h36 ⟨k8, 0, none⟩ 0 [(.bool b37), (.string s38)] ∧ Fin B h36 (Q (b37) s38))
def S_slices_IndexFunc_s_reads_Entry_reads_Entry (B : RO) (a1 : Option Addr) (n2 : Nat) (c3 : Nat) (v4 : Value) (h : Heap) (Q : Int → Heap → Prop) : Prop :=
 ∃ (J11 : Int → Nat → Heap → Prop) (m9 : Nat), Fin B h (J11 (0) m9) ∧
 ∀ (i6 : Int) (m8 : Nat) (h7 : Heap), J11 i6 m8 h7 →
 ((i6 : Int) < ((n2 : Nat)) →
 ∃ A12 : Addr, a1 = some A12 ∧ 0 ≤ (i6 : Int) ∧ (i6 : Int) < (n2 : Nat) ∧
 ∃ i14 : Int, ∃ i15 : Int, ∃ i16 : Int, CellsAt B h7 (Addr.add A12 (Int.toNat (i6) * 3)) 0 [(.int .i64 (i14)), (.int .i64 (i15)), (.int .i64 (i16))] ∧
 CallV PG B v4 [(.agg #[(.int .i64 (i14)), (.int .i64 (i15)), (.int .i64 (i16))])] h7 (fun v h17 => ∃ b18 : Bool, v = (.bool b18) ∧
 (b18 = true →
 Fin B h17 (Q (i6))) ∧ (b18 = false →
 Fin B h17 (fun h' => ∃ m', m' < m8 ∧ J11 (IntKind.wrap .i64 ((i6) + (1))) m' h')))) ∧ (¬ ((i6 : Int) < ((n2 : Nat))) →
 Fin B h7 (Q ((-1))))
def S_reads_Set_place_1 (B : RO) (i1 : Int) (i2 : Int) (i3 : Int) (A4 : Addr) (A5 : Addr) (h : Heap) (Q : Bool → Heap → Prop) : Prop :=
 ∀ k7 : Nat, h k7 = none → B k7 = none → ∀ h8 : Heap, h8 = Heap.set h k7 (.vec 174 (plains [(.int .i64 (i1)), (.int .i64 (i2)), (.int .i64 (i3))]) 3) →
 ∃ i9 : Int, cellH B h8 ⟨k7, 0, none⟩ = some (.int .i64 (i9)) ∧
 ∃ i10 : Int, cellH B h8 A4 = some (.int .i64 (i10)) ∧
 ((i9 : Int) = i10 →
 ∃ i11 : Int, cellH B h8 ⟨k7, 1, none⟩ = some (.int .i64 (i11)) ∧
 ∃ i12 : Int, cellH B h8 A5 = some (.int .i64 (i12)) ∧
 Fin B h8 (Q (((i11 : Int) == (i12))))) ∧ (¬ ((i9 : Int) = i10) →
 Fin B h8 (Q (false)))
def S_draft_Draft_file_File_Get (B : RO) (p1 : Option Addr) (i2 : Int) (h : Heap) (Q : Bool → ByteArray → Bool → Heap → Prop) : Prop :=
 ∀ k6 : Nat, h k6 = none → B k6 = none → ∀ h7 : Heap, h7 = Heap.set h k6 (.vec 119 (plains [(.bool false), (.string ByteArray.empty)]) 2) →
 ∀ k8 : Nat, h7 k8 = none → B k8 = none → ∀ h9 : Heap, h9 = Heap.set h7 k8 (.vec 119 (plains [(.bool false), (.string ByteArray.empty)]) 2) →
 (p1 = none →
 ∃ b11 : Bool, ∃ s12 : ByteArray, CellsAt B h9 ⟨k8, 0, none⟩ 0 [(.bool b11), (.string s12)] ∧
 ∃ h13 : Heap, StoresAt ⟨k6, 0, none⟩ h9 0 [(.bool b11), (.string s12)] h13 ∧
 ∃ b14 : Bool, ∃ s15 : ByteArray, CellsAt B h13 ⟨k6, 0, none⟩ 0 [(.bool b14), (.string s15)] ∧ Fin B h13 (Q (b14) s15 (false))) ∧ (¬ (p1 = none) →
 C_draft_Draft_file_File_find B p1 (i2) h9 (fun i17 b18 h16 =>
 (b18 = true →
 ∃ A24 : Addr, p1 = some A24 ∧
 LdSl B h16 A24 fun a26 n27 c28 h29 =>
 ∃ A30 : Addr, a26 = some A30 ∧ 0 ≤ (i17 : Int) ∧ (i17 : Int) < (n27 : Nat) ∧
 ∃ b32 : Bool, ∃ s33 : ByteArray, CellsAt B h29 (Addr.add (Addr.add A30 (Int.toNat (i17) * 3)) 1) 0 [(.bool b32), (.string s33)] ∧
 ∃ h34 : Heap, StoresAt ⟨k6, 0, none⟩ h29 0 [(.bool b32), (.string s33)] h34 ∧
 ∃ b35 : Bool, ∃ s36 : ByteArray, CellsAt B h34 ⟨k6, 0, none⟩ 0 [(.bool b35), (.string s36)] ∧ Fin B h34 (Q (b35) s36 (true))) ∧ (b18 = false →
 ∃ b19 : Bool, ∃ s20 : ByteArray, CellsAt B h16 ⟨k8, 0, none⟩ 0 [(.bool b19), (.string s20)] ∧
 ∃ h21 : Heap, StoresAt ⟨k6, 0, none⟩ h16 0 [(.bool b19), (.string s20)] h21 ∧
 ∃ b22 : Bool, ∃ s23 : ByteArray, CellsAt B h21 ⟨k6, 0, none⟩ 0 [(.bool b22), (.string s23)] ∧ Fin B h21 (Q (b22) s23 (false)))))
def S_draft_Draft_file_File_Put (B : RO) (p1 : Option Addr) (i2 : Int) (b3 : Bool) (s4 : ByteArray) (h : Heap) (Q : Bool → Heap → Prop) : Prop :=
 ∀ k6 : Nat, h k6 = none → B k6 = none → ∀ h7 : Heap, h7 = Heap.set h k6 (.vec 119 (plains [(.bool b3), (.string s4)]) 2) →
 (p1 = none →
 Fin B h7 (Q (false))) ∧ (¬ (p1 = none) →
 C_draft_Draft_file_File_find B p1 (i2) h7 (fun i10 b11 h9 =>
 (b11 = true →
 ∃ A41 : Addr, p1 = some A41 ∧
 ∃ a43 : Option Addr, ∃ n44 : Nat, ∃ c45 : Nat, cellH B h9 A41 = some (.slice a43 n44 c45) ∧
 ∃ b46 : Bool, ∃ s47 : ByteArray, CellsAt B h9 ⟨k6, 0, none⟩ 0 [(.bool b46), (.string s47)] ∧
 ∃ A48 : Addr, a43 = some A48 ∧ 0 ≤ (i10 : Int) ∧ (i10 : Int) < (n44 : Nat) ∧
 ∃ h50 : Heap, StoresAt (Addr.add (Addr.add A48 (Int.toNat (i10) * 3)) 1) h9 0 [(.bool b46), (.string s47)] h50 ∧
 Fin B h50 (Q (true))) ∧ (b11 = false →
 ∃ A14 : Addr, p1 = some A14 ∧
 ∃ a18 : Option Addr, ∃ n19 : Nat, ∃ c20 : Nat, cellH B h9 A14 = some (.slice a18 n19 c20) ∧
 ∃ b24 : Bool, ∃ s25 : ByteArray, CellsAt B h9 ⟨k6, 0, none⟩ 0 [(.bool b24), (.string s25)] ∧
 ∀ k28 : Nat, h9 k28 = none → B k28 = none → ∀ h29 : Heap, h29 = Heap.set h9 k28 (.vec 213 (plains [(.int .i64 (i2)), (.bool b24), (.string s25)]) 3) →
 cellH B h29 A14 = some (.slice a18 n19 c20) ∧ CellsAt B h29 ⟨k6, 0, none⟩ 0 [(.bool b24), (.string s25)] ∧
 C_slices_Insert_s_draft_entry_file_File_draft_entry_file_File B a18 n19 c20 (i10) (some ⟨k28, 0, none⟩) 1 1 h29 (fun a33 n34 c35 h32 =>
 cellH B h32 A14 = some (.slice a18 n19 c20) ∧ CellsAt B h32 ⟨k6, 0, none⟩ 0 [(.bool b24), (.string s25)] ∧
 ∃ A38 : Addr, p1 = some A38 ∧
 ∃ h40 : Heap, storeH h32 A38 (.slice a33 n34 c35) = some h40 ∧
 Fin B h40 (Q (true))))))
def S_draft_Draft_file_File_find (B : RO) (p1 : Option Addr) (i2 : Int) (h : Heap) (Q : Int → Bool → Heap → Prop) : Prop :=
 ∃ A5 : Addr, p1 = some A5 ∧
 LdSl B h A5 fun a7 n8 c9 h10 =>
 C_slices_BinarySearchFunc_s_draft_entry_file_File_draft_entry_file_File_int B a7 n8 c9 (i2) (Value.func (.func 152) #[] #[]) h10 (fun i12 b13 h11 =>
 Fin B h11 (Q (i12) (b13)))
def S_slices_Insert_s_draft_entry_file_File_draft_entry_file_File (B : RO) (a1 : Option Addr) (n2 : Nat) (c3 : Nat) (i4 : Int) (a5 : Option Addr) (n6 : Nat) (c7 : Nat) (h : Heap) (Q : Option Addr → Nat → Nat → Heap → Prop) : Prop :=
 0 ≤ (i4 : Int) ∧ (i4 : Int) ≤ ((n2 : Nat) : Int) ∧ ((n2 : Nat) : Int) ≤ (c3 : Nat) ∧
 (((n6 : Nat) : Int) = 0 →
 Fin B h (Q a1 n2 c3)) ∧ (¬ (((n6 : Nat) : Int) = 0) →
 ((i4 : Int) = (n2 : Nat) →
 semH PG B (Builtin.append_ #[205, 205] 205 #[(.slice a1 n2 c3), (.slice a5 n6 c7)]) h (fun v h11 => ∃ a12 : Option Addr, ∃ n13 : Nat, ∃ c14 : Nat, v = (.slice a12 n13 c14) ∧
 Fin B h11 (Q a12 n13 c14))) ∧ (¬ ((i4 : Int) = (n2 : Nat)) →
 ((IntKind.wrap .i64 (((n2 : Nat)) + ((n6 : Nat))) : Int) > ((c3 : Nat)) →
 0 ≤ (0 : Int) ∧ (0 : Int) ≤ (i4 : Int) ∧ (i4 : Int) ≤ (c3 : Nat) ∧
 semH PG B (Builtin.append_ #[205, 3] 205 #[(.slice (if c3 = Int.toNat (0) then a1 else Option.map (·.add (Int.toNat (0) * 3)) a1) (Int.toNat (i4) - Int.toNat (0)) (c3 - Int.toNat (0))), (.int .i64 (IntKind.wrap .i64 ((IntKind.wrap .i64 (((n2 : Nat)) + ((n6 : Nat)))) - (i4))))]) h (fun v h15 => ∃ a16 : Option Addr, ∃ n17 : Nat, ∃ c18 : Nat, v = (.slice a16 n17 c18) ∧
 0 ≤ (i4 : Int) ∧ (i4 : Int) ≤ ((n17 : Nat) : Int) ∧ ((n17 : Nat) : Int) ≤ (c18 : Nat) ∧
 semH PG B (Builtin.copy_ #[205, 205] 3 #[(.slice (if c18 = Int.toNat (i4) then a16 else Option.map (·.add (Int.toNat (i4) * 3)) a16) (Int.toNat ((n17 : Nat)) - Int.toNat (i4)) (c18 - Int.toNat (i4))), (.slice a5 n6 c7)]) h15 (fun v h19 => ∃ i20 : Int, v = (.int .i64 (i20)) ∧
 0 ≤ (IntKind.wrap .i64 ((i4) + ((n6 : Nat))) : Int) ∧ (IntKind.wrap .i64 ((i4) + ((n6 : Nat))) : Int) ≤ ((n17 : Nat) : Int) ∧ ((n17 : Nat) : Int) ≤ (c18 : Nat) ∧
 0 ≤ (i4 : Int) ∧ (i4 : Int) ≤ ((n2 : Nat) : Int) ∧ ((n2 : Nat) : Int) ≤ (c3 : Nat) ∧
 semH PG B (Builtin.copy_ #[205, 205] 3 #[(.slice (if c18 = Int.toNat (IntKind.wrap .i64 ((i4) + ((n6 : Nat)))) then a16 else Option.map (·.add (Int.toNat (IntKind.wrap .i64 ((i4) + ((n6 : Nat)))) * 3)) a16) (Int.toNat ((n17 : Nat)) - Int.toNat (IntKind.wrap .i64 ((i4) + ((n6 : Nat))))) (c18 - Int.toNat (IntKind.wrap .i64 ((i4) + ((n6 : Nat)))))), (.slice (if c3 = Int.toNat (i4) then a1 else Option.map (·.add (Int.toNat (i4) * 3)) a1) (Int.toNat ((n2 : Nat)) - Int.toNat (i4)) (c3 - Int.toNat (i4)))]) h19 (fun v h21 => ∃ i22 : Int, v = (.int .i64 (i22)) ∧
 Fin B h21 (Q a16 n17 c18))))) ∧ (¬ ((IntKind.wrap .i64 (((n2 : Nat)) + ((n6 : Nat))) : Int) > ((c3 : Nat))) →
 0 ≤ (0 : Int) ∧ (0 : Int) ≤ (IntKind.wrap .i64 (((n2 : Nat)) + ((n6 : Nat))) : Int) ∧ (IntKind.wrap .i64 (((n2 : Nat)) + ((n6 : Nat))) : Int) ≤ (c3 : Nat) ∧
 0 ≤ (IntKind.wrap .i64 ((i4) + ((n6 : Nat))) : Int) ∧ (IntKind.wrap .i64 ((i4) + ((n6 : Nat))) : Int) ≤ (((Int.toNat (IntKind.wrap .i64 (((n2 : Nat)) + ((n6 : Nat)))) - Int.toNat (0)) : Nat) : Int) ∧ (((Int.toNat (IntKind.wrap .i64 (((n2 : Nat)) + ((n6 : Nat)))) - Int.toNat (0)) : Nat) : Int) ≤ ((c3 - Int.toNat (0)) : Nat) ∧
 semH PG B (Extern.SlicesOverlaps.overlaps #[205, 205] #[4] #[(.slice a5 n6 c7), (.slice (if (c3 - Int.toNat (0)) = Int.toNat (IntKind.wrap .i64 ((i4) + ((n6 : Nat)))) then (if c3 = Int.toNat (0) then a1 else Option.map (·.add (Int.toNat (0) * 3)) a1) else Option.map (·.add (Int.toNat (IntKind.wrap .i64 ((i4) + ((n6 : Nat)))) * 3)) (if c3 = Int.toNat (0) then a1 else Option.map (·.add (Int.toNat (0) * 3)) a1)) (Int.toNat (((Int.toNat (IntKind.wrap .i64 (((n2 : Nat)) + ((n6 : Nat)))) - Int.toNat (0)) : Nat)) - Int.toNat (IntKind.wrap .i64 ((i4) + ((n6 : Nat))))) ((c3 - Int.toNat (0)) - Int.toNat (IntKind.wrap .i64 ((i4) + ((n6 : Nat))))))]) h (fun v h23 => ∃ b24 : Bool, v = (.bool b24) ∧
 (b24 = true →
 0 ≤ ((n2 : Nat) : Int) ∧ ((n2 : Nat) : Int) ≤ (((Int.toNat (IntKind.wrap .i64 (((n2 : Nat)) + ((n6 : Nat)))) - Int.toNat (0)) : Nat) : Int) ∧ (((Int.toNat (IntKind.wrap .i64 (((n2 : Nat)) + ((n6 : Nat)))) - Int.toNat (0)) : Nat) : Int) ≤ ((c3 - Int.toNat (0)) : Nat) ∧
 semH PG B (Builtin.copy_ #[205, 205] 3 #[(.slice (if (c3 - Int.toNat (0)) = Int.toNat ((n2 : Nat)) then (if c3 = Int.toNat (0) then a1 else Option.map (·.add (Int.toNat (0) * 3)) a1) else Option.map (·.add (Int.toNat ((n2 : Nat)) * 3)) (if c3 = Int.toNat (0) then a1 else Option.map (·.add (Int.toNat (0) * 3)) a1)) (Int.toNat (((Int.toNat (IntKind.wrap .i64 (((n2 : Nat)) + ((n6 : Nat)))) - Int.toNat (0)) : Nat)) - Int.toNat ((n2 : Nat))) ((c3 - Int.toNat (0)) - Int.toNat ((n2 : Nat)))), (.slice a5 n6 c7)]) h23 (fun v h29 => ∃ i30 : Int, v = (.int .i64 (i30)) ∧
 0 ≤ (i4 : Int) ∧ (i4 : Int) ≤ (((Int.toNat (IntKind.wrap .i64 (((n2 : Nat)) + ((n6 : Nat)))) - Int.toNat (0)) : Nat) : Int) ∧ (((Int.toNat (IntKind.wrap .i64 (((n2 : Nat)) + ((n6 : Nat)))) - Int.toNat (0)) : Nat) : Int) ≤ ((c3 - Int.toNat (0)) : Nat) ∧
 C_slices_rotateRight_draft_entry_file_File B (if (c3 - Int.toNat (0)) = Int.toNat (i4) then (if c3 = Int.toNat (0) then a1 else Option.map (·.add (Int.toNat (0) * 3)) a1) else Option.map (·.add (Int.toNat (i4) * 3)) (if c3 = Int.toNat (0) then a1 else Option.map (·.add (Int.toNat (0) * 3)) a1)) (Int.toNat (((Int.toNat (IntKind.wrap .i64 (((n2 : Nat)) + ((n6 : Nat)))) - Int.toNat (0)) : Nat)) - Int.toNat (i4)) ((c3 - Int.toNat (0)) - Int.toNat (i4)) ((n6 : Nat)) h29 (fun h31 =>
 Fin B h31 (Q (if c3 = Int.toNat (0) then a1 else Option.map (·.add (Int.toNat (0) * 3)) a1) (Int.toNat (IntKind.wrap .i64 (((n2 : Nat)) + ((n6 : Nat)))) - Int.toNat (0)) (c3 - Int.toNat (0)))))) ∧ (b24 = false →
 0 ≤ (IntKind.wrap .i64 ((i4) + ((n6 : Nat))) : Int) ∧ (IntKind.wrap .i64 ((i4) + ((n6 : Nat))) : Int) ≤ (((Int.toNat (IntKind.wrap .i64 (((n2 : Nat)) + ((n6 : Nat)))) - Int.toNat (0)) : Nat) : Int) ∧ (((Int.toNat (IntKind.wrap .i64 (((n2 : Nat)) + ((n6 : Nat)))) - Int.toNat (0)) : Nat) : Int) ≤ ((c3 - Int.toNat (0)) : Nat) ∧
 0 ≤ (i4 : Int) ∧ (i4 : Int) ≤ (((Int.toNat (IntKind.wrap .i64 (((n2 : Nat)) + ((n6 : Nat)))) - Int.toNat (0)) : Nat) : Int) ∧ (((Int.toNat (IntKind.wrap .i64 (((n2 : Nat)) + ((n6 : Nat)))) - Int.toNat (0)) : Nat) : Int) ≤ ((c3 - Int.toNat (0)) : Nat) ∧
 semH PG B (Builtin.copy_ #[205, 205] 3 #[(.slice (if (c3 - Int.toNat (0)) = Int.toNat (IntKind.wrap .i64 ((i4) + ((n6 : Nat)))) then (if c3 = Int.toNat (0) then a1 else Option.map (·.add (Int.toNat (0) * 3)) a1) else Option.map (·.add (Int.toNat (IntKind.wrap .i64 ((i4) + ((n6 : Nat)))) * 3)) (if c3 = Int.toNat (0) then a1 else Option.map (·.add (Int.toNat (0) * 3)) a1)) (Int.toNat (((Int.toNat (IntKind.wrap .i64 (((n2 : Nat)) + ((n6 : Nat)))) - Int.toNat (0)) : Nat)) - Int.toNat (IntKind.wrap .i64 ((i4) + ((n6 : Nat))))) ((c3 - Int.toNat (0)) - Int.toNat (IntKind.wrap .i64 ((i4) + ((n6 : Nat)))))), (.slice (if (c3 - Int.toNat (0)) = Int.toNat (i4) then (if c3 = Int.toNat (0) then a1 else Option.map (·.add (Int.toNat (0) * 3)) a1) else Option.map (·.add (Int.toNat (i4) * 3)) (if c3 = Int.toNat (0) then a1 else Option.map (·.add (Int.toNat (0) * 3)) a1)) (Int.toNat (((Int.toNat (IntKind.wrap .i64 (((n2 : Nat)) + ((n6 : Nat)))) - Int.toNat (0)) : Nat)) - Int.toNat (i4)) ((c3 - Int.toNat (0)) - Int.toNat (i4)))]) h23 (fun v h25 => ∃ i26 : Int, v = (.int .i64 (i26)) ∧
 0 ≤ (i4 : Int) ∧ (i4 : Int) ≤ (((Int.toNat (IntKind.wrap .i64 (((n2 : Nat)) + ((n6 : Nat)))) - Int.toNat (0)) : Nat) : Int) ∧ (((Int.toNat (IntKind.wrap .i64 (((n2 : Nat)) + ((n6 : Nat)))) - Int.toNat (0)) : Nat) : Int) ≤ ((c3 - Int.toNat (0)) : Nat) ∧
 semH PG B (Builtin.copy_ #[205, 205] 3 #[(.slice (if (c3 - Int.toNat (0)) = Int.toNat (i4) then (if c3 = Int.toNat (0) then a1 else Option.map (·.add (Int.toNat (0) * 3)) a1) else Option.map (·.add (Int.toNat (i4) * 3)) (if c3 = Int.toNat (0) then a1 else Option.map (·.add (Int.toNat (0) * 3)) a1)) (Int.toNat (((Int.toNat (IntKind.wrap .i64 (((n2 : Nat)) + ((n6 : Nat)))) - Int.toNat (0)) : Nat)) - Int.toNat (i4)) ((c3 - Int.toNat (0)) - Int.toNat (i4))), (.slice a5 n6 c7)]) h25 (fun v h27 => ∃ i28 : Int, v = (.int .i64 (i28)) ∧
 Fin B h27 (Q (if c3 = Int.toNat (0) then a1 else Option.map (·.add (Int.toNat (0) * 3)) a1) (Int.toNat (IntKind.wrap .i64 (((n2 : Nat)) + ((n6 : Nat)))) - Int.toNat (0)) (c3 - Int.toNat (0))))))))))
def S_slices_BinarySearchFunc_s_draft_entry_file_File_draft_entry_file_File_int_J1 (B : RO) (a1 : Option Addr) (n2 : Nat) (c3 : Nat) (i4 : Int) (v5 : Value) (i9 : Int) (h10 : Heap) (Q : Int → Bool → Heap → Prop) : Prop :=
 ((i9 : Int) < ((n2 : Nat)) →
 ∃ A11 : Addr, a1 = some A11 ∧ 0 ≤ (i9 : Int) ∧ (i9 : Int) < (n2 : Nat) ∧
 ∃ i13 : Int, ∃ b14 : Bool, ∃ s15 : ByteArray, CellsAt B h10 (Addr.add A11 (Int.toNat (i9) * 3)) 0 [(.int .i64 (i13)), (.bool b14), (.string s15)] ∧
 CallV PG B v5 [(.agg #[(.int .i64 (i13)), (.bool b14), (.string s15)]), (.int .i64 (i4))] h10 (fun v h16 => ∃ i17 : Int, v = (.int .i64 (i17)) ∧
 Fin B h16 (Q (i9) (((i17 : Int) == (0)))))) ∧ (¬ ((i9 : Int) < ((n2 : Nat))) →
 Fin B h10 (Q (i9) (false)))
def S_slices_BinarySearchFunc_s_draft_entry_file_File_draft_entry_file_File_int (B : RO) (a1 : Option Addr) (n2 : Nat) (c3 : Nat) (i4 : Int) (v5 : Value) (h : Heap) (Q : Int → Bool → Heap → Prop) : Prop :=
 ∃ (J24 : Int → Int → Nat → Heap → Prop) (m22 : Nat), Fin B h (J24 (0) ((n2 : Nat)) m22) ∧
 ∀ (i18 : Int) (i19 : Int) (m21 : Nat) (h20 : Heap), J24 i18 i19 m21 h20 →
 ((i18 : Int) < (i19) →
 ¬ ((1 : Int) < 0) ∧
 ∃ A25 : Addr, a1 = some A25 ∧ 0 ≤ (IntKind.wrap .i64 (Int.fdiv (IntKind.wrap .u64 (IntKind.wrap .i64 ((i18) + (i19)))) (2 ^ (min (Int.toNat (1)) (IntKind.bits .u64)))) : Int) ∧ (IntKind.wrap .i64 (Int.fdiv (IntKind.wrap .u64 (IntKind.wrap .i64 ((i18) + (i19)))) (2 ^ (min (Int.toNat (1)) (IntKind.bits .u64)))) : Int) < (n2 : Nat) ∧
 ∃ i27 : Int, ∃ b28 : Bool, ∃ s29 : ByteArray, CellsAt B h20 (Addr.add A25 (Int.toNat (IntKind.wrap .i64 (Int.fdiv (IntKind.wrap .u64 (IntKind.wrap .i64 ((i18) + (i19)))) (2 ^ (min (Int.toNat (1)) (IntKind.bits .u64))))) * 3)) 0 [(.int .i64 (i27)), (.bool b28), (.string s29)] ∧
 CallV PG B v5 [(.agg #[(.int .i64 (i27)), (.bool b28), (.string s29)]), (.int .i64 (i4))] h20 (fun v h30 => ∃ i31 : Int, v = (.int .i64 (i31)) ∧
 ((i31 : Int) < (0) →
 Fin B h30 (fun h' => ∃ m', m' < m21 ∧ J24 (IntKind.wrap .i64 ((IntKind.wrap .i64 (Int.fdiv (IntKind.wrap .u64 (IntKind.wrap .i64 ((i18) + (i19)))) (2 ^ (min (Int.toNat (1)) (IntKind.bits .u64))))) + (1))) (i19) m' h')) ∧ (¬ ((i31 : Int) < (0)) →
 Fin B h30 (fun h' => ∃ m', m' < m21 ∧ J24 (i18) (IntKind.wrap .i64 (Int.fdiv (IntKind.wrap .u64 (IntKind.wrap .i64 ((i18) + (i19)))) (2 ^ (min (Int.toNat (1)) (IntKind.bits .u64))))) m' h')))) ∧ (¬ ((i18 : Int) < (i19)) →
 Fin B h20 (fun h' => S_slices_BinarySearchFunc_s_draft_entry_file_File_draft_entry_file_File_int_J1 B a1 n2 c3 i4 v5 (i18) h' Q))
def S_draft_by_file_File (B : RO) (i1 : Int) (b2 : Bool) (s3 : ByteArray) (i4 : Int) (h : Heap) (Q : Int → Heap → Prop) : Prop :=
 ∀ k6 : Nat, h k6 = none → B k6 = none → ∀ h7 : Heap, h7 = Heap.set h k6 (.vec 213 (plains [(.int .i64 (i1)), (.bool b2), (.string s3)]) 3) →
 ∃ i8 : Int, cellH B h7 ⟨k6, 0, none⟩ = some (.int .i64 (i8)) ∧
 ((i8 : Int) < (i4) →
 Fin B h7 (Q ((-1)))) ∧ (¬ ((i8 : Int) < (i4)) →
 ∃ i9 : Int, cellH B h7 ⟨k6, 0, none⟩ = some (.int .i64 (i9)) ∧
 ((i9 : Int) > (i4) →
 Fin B h7 (Q (1))) ∧ (¬ ((i9 : Int) > (i4)) →
 Fin B h7 (Q (0))))
end Go.Proofs.YtgldgabefiialaaGreat.H
namespace Go.Proofs.YtgldgabefiialaaGreat.H
open Go
set_option linter.unusedVariables false
set_option maxRecDepth 100000
set_option maxHeartbeats 4000000
theorem C_countermandlaw20_AttemptStale.of {B : RO} {i1 : Int} {i2 : Int} {i3 : Int} {i4 : Int} {h : Heap} {Q : Bool → Heap → Prop} (s : S_countermandlaw20_AttemptStale B i1 i2 i3 i4 h Q) : C_countermandlaw20_AttemptStale B i1 i2 i3 i4 h Q := by
 refine zspec Tryz.func3 [ResultVar.tmp 8] rfl rfl rfl rfl rfl ?_
 refine au 7 rfl ?_
 refine zcall s rfl rfl TF.goes_9 ?_
 rintro _ h6 ⟨b7, rfl, s⟩
 cases b7
 ·replace s := s.2 rfl
  refine au 7 rfl ?_
  exact zr (s.imp fun _ q => ⟨_, rfl, q⟩)
 ·replace s := s.1 rfl
  refine au 4 rfl ?_
  refine Run.seqJ (fun e h9 => Agree [(0, (.int .i64 (i1))), (1, (.int .i64 (i2))), (2, (.int .i64 (i3))), (3, (.int .i64 (i4)))] e ∧ S_countermandlaw20_AttemptStale_J1 B i1 i2 i3 i4 h9 Q) ?_ fun j8 => ?_
  ·rintro e h9 ⟨hag, s⟩
   refine Run.env hag ?_; clear hag
   refine au 2 rfl ?_
   refine zg rfl (sem_buildAL [] [(.int .i64 (0)), (.int .i64 (0)), (.int .i64 (0)), (.int .i64 (0))] TF.zero_26 TF.arr_26 rfl rfl ?_)
   refine zcall s rfl rfl TF.goes_10 ?_
   rintro _ h10 ⟨p11, rfl, s⟩
   refine au 2 rfl ?_
   refine Run.seqJ (fun e h13 => Agree [(0, (.int .i64 (i1))), (1, (.int .i64 (i2))), (2, (.int .i64 (i3))), (3, (.int .i64 (i4))), (9, (.pointer p11))] e ∧ S_countermandlaw20_AttemptStale_J2 B i1 i2 i3 i4 p11 h13 Q) ?_ fun j12 => ?_
   ·rintro e h13 ⟨hag, s⟩
    refine Run.env hag ?_; clear hag
    refine au 5 rfl ?_
    refine zg rfl (sem_buildSL [(0, (.int .i64 (1))), (1, (.int .i64 (i1))), (2, (.int .i64 (i3)))] [(.int .i64 (1)), (.int .i64 (i1)), (.int .i64 (i3)), (.int .u8 (0))] TF.zero_38 TF.places_38 rfl rfl ?_)
    refine zcall s rfl rfl TF.goes_12 ?_
    rintro _ h14 ⟨rfl, s⟩
    refine au 5 rfl ?_
    refine znil s rfl rfl fun A15 s => ?_
    refine au 1 rfl ?_
    refine zl s rfl rfl TF.agg_30 fun p17 s => ?_
    refine zcall s rfl rfl TF.goes_13 ?_
    rintro _ h18 ⟨b19, rfl, s⟩
    cases b19
    ·replace s := s.2 rfl
     refine au 6 rfl ?_
     refine znil s rfl rfl fun A20 s => ?_
     refine au 1 rfl ?_
     refine zl s rfl rfl TF.agg_30 fun p22 s => ?_
     refine au 1 rfl ?_
     refine zcall s rfl rfl TF.goes_11 ?_
     rintro _ h23 ⟨i24, i25, rfl, s⟩
     refine au 11 rfl ?_
     refine zg rfl (sem_buildSL [(0, (.int .i64 (1))), (1, (.int .i64 (i2))), (2, (.int .i64 (i4)))] [(.int .i64 (1)), (.int .i64 (i2)), (.int .i64 (i4)), (.int .u8 (0))] TF.zero_38 TF.places_38 rfl rfl ?_)
     refine zcall s rfl rfl TF.goes_12 ?_
     rintro _ h26 ⟨rfl, s⟩
     refine au 4 rfl ?_
     refine znil s rfl rfl fun A27 s => ?_
     refine au 1 rfl ?_
     refine zl s rfl rfl TF.agg_30 fun p29 s => ?_
     refine au 1 rfl ?_
     refine zcall s rfl rfl TF.goes_11 ?_
     rintro _ h30 ⟨i31, i32, rfl, s⟩
     refine au 9 rfl ?_
     refine znil s rfl rfl fun A33 s => ?_
     refine au 1 rfl ?_
     refine zl s rfl rfl TF.agg_30 fun p35 s => ?_
     refine au 1 rfl ?_
     refine zcall s rfl rfl TF.goes_11 ?_
     rintro _ h36 ⟨i37, i38, rfl, s⟩
     refine au 9 rfl ?_
     refine zt s rfl rfl rfl binI_eql_t binI_eql_f (fun s => ?_) fun s => ?_
     ·refine au 2 rfl ?_
      refine zt s rfl rfl rfl binI_eql_t binI_eql_f (fun s => ?_) fun s => ?_
      ·refine au 3 rfl ?_
       refine zt s rfl rfl rfl binI_eql_t binI_eql_f (fun s => ?_) fun s => ?_
       ·refine au 3 rfl ?_
        refine zt s rfl rfl rfl binI_eql_t binI_eql_f (fun s => ?_) fun s => ?_
        ·refine au 3 rfl ?_
         refine znil s rfl rfl fun A39 s => ?_
         refine au 1 rfl ?_
         refine zl s rfl rfl TF.agg_30 fun p41 s => ?_
         refine zcall s rfl rfl TF.goes_14 ?_
         rintro _ h42 ⟨b43, rfl, s⟩
         cases b43
         ·replace s := s.2 rfl
          refine au 4 rfl ?_
          refine znil s rfl rfl fun A44 s => ?_
          refine au 1 rfl ?_
          refine zl s rfl rfl TF.agg_29 fun p46 s => ?_
          refine znil s rfl rfl fun A47 s => ?_
          refine au 1 rfl ?_
          refine zl s rfl rfl TF.agg_3 fun i49 s => ?_
          refine au 4 rfl ?_
          exact zr (s.imp fun _ q => ⟨_, rfl, q⟩)
         ·replace s := s.1 rfl
          refine au 14 rfl ?_
          exact zr (s.imp fun _ q => ⟨_, rfl, q⟩)
        ·refine au 21 rfl ?_
         exact zr (s.imp fun _ q => ⟨_, rfl, q⟩)
       ·refine au 25 rfl ?_
        exact zr (s.imp fun _ q => ⟨_, rfl, q⟩)
      ·refine au 29 rfl ?_
       exact zr (s.imp fun _ q => ⟨_, rfl, q⟩)
     ·refine au 32 rfl ?_
      exact zr (s.imp fun _ q => ⟨_, rfl, q⟩)
    ·replace s := s.1 rfl
     refine au 6 rfl ?_
     exact zr (s.imp fun _ q => ⟨_, rfl, q⟩)
   refine au 3 rfl ?_
   refine znil s rfl rfl fun A50 s => ?_
   refine au 1 rfl ?_
   refine zl s rfl rfl TF.agg_30 fun p52 s => ?_
   refine au 1 rfl ?_
   refine zcall s rfl rfl TF.goes_11 ?_
   rintro _ h53 ⟨i54, i55, rfl, s⟩
   refine au 9 rfl ?_
   refine zu s rfl rfl rfl binI_neq_t binI_neq_f (fun s => ?_) fun s => ?_
   ·refine au 2 rfl ?_
    refine zu s rfl rfl rfl binI_neq_t binI_neq_f (fun s => ?_) fun s => ?_
    ·refine au 4 rfl ?_
     exact Run.of_fin (s.imp fun h' s => j12 _ _ ⟨⟨rfl, rfl, rfl, rfl, rfl, trivial⟩, s⟩)
    ·refine au 7 rfl ?_
     exact zr (s.imp fun _ q => ⟨_, rfl, q⟩)
   ·refine au 10 rfl ?_
    exact zr (s.imp fun _ q => ⟨_, rfl, q⟩)
  refine au 3 rfl ?_
  refine zt s rfl rfl rfl binI_lss_t binI_lss_f (fun s => ?_) fun s => ?_
  ·refine au 23 rfl ?_
   exact zr (s.imp fun _ q => ⟨_, rfl, q⟩)
  ·refine au 2 rfl ?_
   refine zt s rfl rfl rfl binI_gtr_t binI_gtr_f (fun s => ?_) fun s => ?_
   ·refine au 20 rfl ?_
    exact zr (s.imp fun _ q => ⟨_, rfl, q⟩)
   ·refine au 3 rfl ?_
    refine zt s rfl rfl rfl binI_lss_t binI_lss_f (fun s => ?_) fun s => ?_
    ·refine au 16 rfl ?_
     exact zr (s.imp fun _ q => ⟨_, rfl, q⟩)
    ·refine au 3 rfl ?_
     refine zt s rfl rfl rfl binI_gtr_t binI_gtr_f (fun s => ?_) fun s => ?_
     ·refine au 12 rfl ?_
      exact zr (s.imp fun _ q => ⟨_, rfl, q⟩)
     ·refine au 4 rfl ?_
      refine zt s rfl rfl rfl binI_eql_t binI_eql_f (fun s => ?_) fun s => ?_
      ·refine au 7 rfl ?_
       exact zr (s.imp fun _ q => ⟨_, rfl, q⟩)
      ·refine au 4 rfl ?_
       exact Run.of_fin (s.imp fun h' s => j8 _ _ ⟨⟨rfl, rfl, rfl, rfl, trivial⟩, s⟩)
end Go.Proofs.YtgldgabefiialaaGreat.H
