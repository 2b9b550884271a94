/- What the law's proof stands on, part 2. No condition. -/
import Derived.Test.YtgldgabefiialaaProg
import Derived.KernelRfl
import Derived.Test.YtgldgabefiialaaG1
namespace Go.Proofs.Ytgldgabefiialaa.H
open Go
set_option linter.unusedVariables false
section
variable {P : Program} {B : RO}
end
inductive Ord where
  | nil
  | q (i : Nat) (t : Ord)
  | x (i : Nat) (t alt : Ord)
  | no
def okT (ops : Array Oper) (z : List Nat) : Ord → Nat → Array Bool → Option (List Nat) → Bool
  | .nil, n, listed, none => n == 0 && (Region.ready .any ops listed).isEmpty
  | .q i t, n + 1, listed, none => (Region.ready .any ops listed).contains i && Region.free .any ops listed i && lastWaits ops z i && needC z listed && okT ops z t n (listed.setIfInBounds i true) none
  | .x i t alt, n + 1, listed, none => match Region.ready .any ops listed with
    | r :: rs => r == i && okT ops z t n (listed.setIfInBounds i true) none && okT ops z alt (n + 1) listed (some rs)
    | [] => false
  | .x i t alt, n + 1, listed, some (r :: rs) => r == i && okT ops z t n (listed.setIfInBounds i true) none && okT ops z alt (n + 1) listed (some rs)
  | .no, _, _, some [] => true
  | _, _, _, _ => false
def maskOf : List Nat → Nat
  | [] => 0
  | j :: l => maskOf l ||| 2 ^ j
theorem maskOf_bit (l : List Nat) (j : Nat) : (maskOf l).testBit j = decide (j ∈ l) := by
  induction l with
  | nil => simp [maskOf]
  | cons i l ih =>
    rw [maskOf, Nat.testBit_or, ih, Nat.testBit_two_pow]
    by_cases h : i = j
    · subst h; simp
    · simp [h, Ne.symm h]
def needL (o : Oper) : List Nat := (o.after.toList.filter (Region.binds .any)).map (·.on)
def freeB (ops : Array Oper) (i j : Nat) : Bool := j == i || match ops[j]? with
  | some oj => oj.after.any (fun e => Region.binds .any e && e.on == i) || (match ops[i]? with | some oi => oi.apart ops oj | none => false)
  | none => true
def listBeq : List Nat → List Nat → Bool
  | [], [] => true
  | a :: l, b :: m => Nat.beq a b && listBeq l m
  | _, _ => false
theorem listBeq_eq : ∀ {l m : List Nat}, listBeq l m = true → l = m
  | [], [], _ => rfl
  | a :: l, b :: m, h => by
    simp only [listBeq, Bool.and_eq_true] at h
    rw [Nat.eq_of_beq_eq_true h.1, listBeq_eq h.2]
  | [], _ :: _, h => by cases h
  | _ :: _, [], h => by cases h
structure Tab where
  nt : List Nat
  ft : List Nat
  rt : List Nat
  zm : Nat
def orL (rt : List Nat) : List Nat → Nat
  | [] => 0
  | j :: l => orL rt l ||| rt.getD j 0
def rtOk (rt : List Nat) : List Oper → Nat → Bool
  | [], _ => true
  | o :: l, j => Nat.beq (rt.getD j 0 ||| (maskOf (needL o) ||| orL rt (needL o))) (maskOf (needL o) ||| orL rt (needL o)) && (needL o).all (fun e => Nat.blt e j) && rtOk rt l (j + 1)
def tabOk (l : List Oper) (z : List Nat) (T : Tab) : Bool :=
  listBeq (l.map fun o => maskOf (needL o)) T.nt && listBeq ((List.range l.length).map fun i => maskOf ((List.range l.length).filter (freeB l.toArray i))) T.ft &&
    rtOk T.rt l 0 && Nat.beq (maskOf z) T.zm && z.all (fun z => Nat.blt z l.length)
def readyA : List Nat → Nat → Nat → List Nat
  | [], _, _ => []
  | x :: xs, i, m => if (!m.testBit i && Nat.beq (x &&& m) x) = true then i :: readyA xs (i + 1) m else readyA xs (i + 1) m
def okM (n : Nat) (z : List Nat) (T : Tab) : Ord → Nat → Nat → Option (List Nat) → Bool
  | .nil, c, m, none => Nat.beq c 0 && (readyA T.nt 0 m).isEmpty
  | .q i t, c + 1, m, none => Nat.blt i n && !m.testBit i && Nat.beq (T.nt.getD i 0 &&& m) (T.nt.getD i 0) && Nat.beq (T.ft.getD i 0 ||| m) (2 ^ n - 1) && z.all (fun z => z != i && (T.rt.getD z 0).testBit i) && Nat.beq (T.zm &&& m) 0 && okM n z T t c (m ||| 2 ^ i) none
  | .x i t alt, c + 1, m, none => match readyA T.nt 0 m with
    | r :: rs => Nat.beq r i && okM n z T t c (m ||| 2 ^ i) none && okM n z T alt (c + 1) m (some rs)
    | [] => false
  | .x i t alt, c + 1, m, some (r :: rs) => Nat.beq r i && okM n z T t c (m ||| 2 ^ i) none && okM n z T alt (c + 1) m (some rs)
  | .no, _, _, some [] => true
  | _, _, _, _ => false
structure Rep (n : Nat) (listed : Array Bool) (m : Nat) : Prop where
  sz : listed.size = n
  bit : ∀ i, listed.getD i false = m.testBit i
theorem Rep.bitT {n : Nat} {listed : Array Bool} {m : Nat} (R : Rep n listed m) {i : Nat} (hi : i < n) : listed.getD i true = m.testBit i := by
  rw [← R.bit i]
  have : i < listed.size := by rw [R.sz]; exact hi
  simp [Array.getD, this]
theorem Rep.set {n : Nat} {listed : Array Bool} {m : Nat} (R : Rep n listed m) {i : Nat} (hi : i < n) : Rep n (listed.setIfInBounds i true) (m ||| 2 ^ i) := by
  refine ⟨by rw [Array.size_setIfInBounds]; exact R.sz, fun j => ?_⟩
  have hs : i < listed.size := by rw [R.sz]; exact hi
  rw [Nat.testBit_or, Nat.testBit_two_pow, ← R.bit j, Array.getD_eq_getD_getElem?, Array.getD_eq_getD_getElem?, Array.getElem?_setIfInBounds]
  by_cases h : i = j
  · subst h; simp [hs]
  · simp [h]
theorem readyA_eq (m : Nat) : ∀ (xs : List Nat) (s : Nat), readyA xs s m = (List.range' s xs.length).filter fun i => !m.testBit i && Nat.beq (xs.getD (i - s) 0 &&& m) (xs.getD (i - s) 0)
  | [], s => rfl
  | x :: xs, s => by
    rw [List.length_cons, List.range'_succ, List.filter_cons, readyA, readyA_eq m xs (s + 1)]
    have hc : (List.range' (s + 1) xs.length).filter (fun i => !m.testBit i && Nat.beq (xs.getD (i - (s + 1)) 0 &&& m) (xs.getD (i - (s + 1)) 0)) = (List.range' (s + 1) xs.length).filter fun i => !m.testBit i && Nat.beq ((x :: xs).getD (i - s) 0 &&& m) ((x :: xs).getD (i - s) 0) := by
      refine List.filter_congr fun i hi => ?_
      have := List.mem_range'_1.1 hi
      have e : i - s = (i - (s + 1)) + 1 := by omega
      rw [e]
      simp
    rw [hc, Nat.sub_self]
    rfl
theorem sub_mask {x m : Nat} : Nat.beq (x &&& m) x = true ↔ ∀ j, x.testBit j = true → m.testBit j = true := by
  rw [show (Nat.beq (x &&& m) x = true) = (x &&& m = x) from propext ⟨Nat.eq_of_beq_eq_true, fun e => by rw [e]; exact Nat.beq_refl x⟩]
  constructor
  · intro h j hj
    rw [← h, Nat.testBit_and, Bool.and_eq_true] at hj; exact hj.2
  · intro h
    apply Nat.eq_of_testBit_eq
    intro j
    rw [Nat.testBit_and]
    cases hx : x.testBit j
    · rfl
    · rw [h j hx]; rfl
section
variable {l : List Oper} {z : List Nat} {T : Tab} {listed : Array Bool} {m : Nat}
theorem tab_facts (hT : tabOk l z T = true) : (l.map fun o => maskOf (needL o)) = T.nt ∧ ((List.range l.length).map fun i => maskOf ((List.range l.length).filter (freeB l.toArray i))) = T.ft ∧ rtOk T.rt l 0 = true ∧ maskOf z = T.zm ∧ ∀ x ∈ z, x < l.length := by
  simp only [tabOk, Bool.and_eq_true] at hT
  obtain ⟨⟨⟨⟨a, b⟩, c⟩, d⟩, e⟩ := hT
  refine ⟨listBeq_eq a, listBeq_eq b, c, Nat.eq_of_beq_eq_true d, fun x hx => ?_⟩
  have := List.all_eq_true.1 e x hx
  exact Nat.lt_of_succ_le (Nat.le_of_ble_eq_true this)
theorem rtOk_at {rt : List Nat} : ∀ {l : List Oper} {j i : Nat} {o : Oper}, rtOk rt l j = true → l[i]? = some o → (∀ b, (rt.getD (j + i) 0).testBit b = true → b ∈ needL o ∨ ∃ e ∈ needL o, (rt.getD e 0).testBit b = true) ∧ ∀ e ∈ needL o, e < j + i
  | [], _, _, _, _, hi => by simp at hi
  | p :: l, j, i, o, h, hi => by
    simp only [rtOk, Bool.and_eq_true] at h
    obtain ⟨⟨h1, h2⟩, h3⟩ := h
    cases i with
    | zero =>
      simp at hi
      subst hi
      refine ⟨fun b hb => ?_, fun e he => Nat.lt_of_succ_le (Nat.le_of_ble_eq_true (List.all_eq_true.1 h2 e he))⟩
      have : (maskOf (needL p) ||| orL rt (needL p)).testBit b = true := by
        rw [← Nat.eq_of_beq_eq_true h1, Nat.testBit_or, Bool.or_eq_true]; exact .inl hb
      rw [Nat.testBit_or, Bool.or_eq_true, maskOf_bit, decide_eq_true_eq] at this
      rcases this with h | h
      · exact .inl h
      · right
        have key : ∀ m : List Nat, (orL rt m).testBit b = true → ∃ e ∈ m, (rt.getD e 0).testBit b = true := fun m => by
          induction m with
          | nil => intro h; simp [orL] at h
          | cons x m ih =>
            intro h
            rw [orL, Nat.testBit_or, Bool.or_eq_true] at h
            rcases h with h | h
            · obtain ⟨e, he, hh⟩ := ih h; exact ⟨e, by simp [he], hh⟩
            · exact ⟨x, by simp, h⟩
        exact key _ h
    | succ i =>
      have := rtOk_at (i := i) h3 (by simpa using hi)
      rw [show j + 1 + i = j + (i + 1) by omega] at this
      exact this
theorem mem_needL {o : Oper} {x : Nat} (h : x ∈ needL o) : ∃ e ∈ o.after, Region.binds .any e = true ∧ e.on = x := by
  obtain ⟨e, he, rfl⟩ := List.mem_map.1 h
  obtain ⟨h1, h2⟩ := List.mem_filter.1 he
  exact ⟨e, Array.mem_toList_iff.1 h1, h2, rfl⟩
theorem waits_succ {ops : Array Oper} : ∀ {n z i : Nat}, waits ops n z i = true → waits ops (n + 1) z i = true
  | 0, _, _, h => by cases h
  | n + 1, z, i, h => by
    rw [waits] at h ⊢
    cases ho : ops[z]? with
    | none => rw [ho] at h; cases h
    | some o =>
      rw [ho] at h
      simp only [Bool.or_eq_true, Array.any_eq_true', Bool.and_eq_true] at h ⊢
      rcases h with h | ⟨e, he, hb, hr⟩
      · exact .inl h
      · exact .inr ⟨e, he, hb, waits_succ hr⟩
theorem waits_mono {ops : Array Oper} {n m z i : Nat} (h : n ≤ m) (hw : waits ops n z i = true) : waits ops m z i = true := by
  induction h with
  | refl => exact hw
  | step _ ih => exact waits_succ ih
theorem rt_waits {rt : List Nat} (h : rtOk rt l 0 = true) (x : Nat) : x < l.length → ∀ i, (rt.getD x 0).testBit i = true → waits l.toArray (x + 1) x i = true := by
  induction x using Nat.strongRecOn with
  | _ x ih =>
    intro hx i hi
    have ho := List.getElem?_eq_getElem hx
    obtain ⟨h1, h2⟩ := rtOk_at h ho
    rw [Nat.zero_add] at h1 h2
    rw [waits, List.getElem?_toArray, ho]
    simp only [Bool.or_eq_true, Array.any_eq_true', Bool.and_eq_true, beq_iff_eq]
    rcases h1 i hi with h | ⟨e, he, hr⟩
    · obtain ⟨e, h1, h3, h4⟩ := mem_needL h
      exact .inl ⟨e, h1, h3, h4⟩
    · have hlt := h2 e he
      obtain ⟨e', h1, h3, rfl⟩ := mem_needL he
      exact .inr ⟨e', h1, h3, waits_mono (by omega) (ih _ hlt (by omega) i hr)⟩
theorem need_at (hT : tabOk l z T = true) {i : Nat} {o : Oper} (ho : l[i]? = some o) : T.nt.getD i 0 = maskOf (needL o) := by
  rw [← (tab_facts hT).1, List.getD_eq_getElem?_getD, List.getElem?_map, ho]; rfl
theorem ready_bit (hT : tabOk l z T = true) (R : Rep l.length listed m) {i : Nat} {o : Oper} (ho : l[i]? = some o) :
    (o.after.all fun e => !Region.binds .any e || listed.getD e.on false) = Nat.beq (T.nt.getD i 0 &&& m) (T.nt.getD i 0) := by
  rw [need_at hT ho, Bool.eq_iff_iff, sub_mask, Array.all_eq_true_iff_forall_mem]
  constructor
  · intro h j hj
    rw [maskOf_bit, decide_eq_true_eq] at hj
    obtain ⟨e, he, rfl⟩ := List.mem_map.1 hj
    obtain ⟨h1, h2⟩ := List.mem_filter.1 he
    have := h e (Array.mem_toList_iff.1 h1)
    rw [h2, R.bit] at this
    simpa using this
  · intro h e he
    cases hb : Region.binds .any e
    · rfl
    · rw [R.bit, h e.on (by rw [maskOf_bit, decide_eq_true_eq]; exact List.mem_map.2 ⟨e, List.mem_filter.2 ⟨Array.mem_toList_iff.2 he, hb⟩, rfl⟩)]; rfl
theorem ready_eq (hT : tabOk l z T = true) (R : Rep l.length listed m) : Region.ready .any l.toArray listed = readyA T.nt 0 m := by
  have hl : T.nt.length = l.length := by rw [← (tab_facts hT).1, List.length_map]
  rw [readyA_eq, hl, ← List.range_eq_range']
  unfold Region.ready
  rw [List.size_toArray]
  refine List.filter_congr fun i hi => ?_
  have hi' : i < l.length := List.mem_range.1 hi
  rw [R.bitT hi', Nat.sub_zero]
  congr 1
  rw [List.getElem?_toArray, List.getElem?_eq_getElem hi', Option.map_some, Option.getD_some]
  exact ready_bit hT R (List.getElem?_eq_getElem hi')
theorem okM_okT (hT : tabOk l z T = true) : ∀ (t : Ord) (c : Nat) (m : Nat) (listed : Array Bool) (rs : Option (List Nat)), Rep l.length listed m → (∀ r, rs = some r → ∀ x ∈ r, x < l.length) → okM l.length z T t c m rs = true → okT l.toArray z t c listed rs = true := by
  intro t
  induction t with
  | nil =>
    intro c m listed rs R hr h
    cases rs with
    | some r => simp [okM] at h
    | none =>
      simp only [okM, Bool.and_eq_true] at h
      simp only [okT, Bool.and_eq_true, beq_iff_eq]
      exact ⟨Nat.eq_of_beq_eq_true h.1, by rw [ready_eq hT R]; exact h.2⟩
  | q i t ih =>
    intro c m listed rs R hr h
    cases rs with
    | some r => simp [okM] at h
    | none =>
      cases c with
      | zero => simp [okM] at h
      | succ c =>
        simp only [okM, Bool.and_eq_true] at h
        obtain ⟨⟨⟨⟨⟨⟨h1, h2⟩, h3⟩, h4⟩, h5⟩, h6⟩, h7⟩ := h
        have hi : i < l.length := Nat.lt_of_succ_le (Nat.le_of_ble_eq_true h1)
        simp only [okT, Bool.and_eq_true]
        obtain ⟨f1, f2, f3, f4, f5⟩ := tab_facts hT
        refine ⟨⟨⟨⟨?_, ?_⟩, ?_⟩, ?_⟩, ih c _ _ none (R.set hi) (fun r e => by cases e) h7⟩
        · rw [List.contains_iff_mem, mem_ready]
          refine ⟨by rw [R.bitT hi]; simpa using h2, l[i], by rw [List.getElem?_toArray, List.getElem?_eq_getElem hi], fun e he hb => ?_⟩
          have := ready_bit hT R (List.getElem?_eq_getElem hi)
          rw [h3, Array.all_eq_true_iff_forall_mem] at this
          have := this e he
          rw [hb] at this; simpa using this
        · unfold Region.free
          rw [List.getElem?_toArray, List.getElem?_eq_getElem hi]
          simp only [List.all_eq_true, List.size_toArray, List.mem_range]
          intro j hj
          have hb : (T.ft.getD i 0 ||| m).testBit j = true := by
            rw [Nat.eq_of_beq_eq_true h4, Nat.testBit_two_pow_sub_one]; simpa using hj
          rw [Nat.testBit_or, ← f2, List.getD_eq_getElem?_getD, List.getElem?_map, List.getElem?_range hi] at hb
          simp only [Option.map_some, Option.getD_some, maskOf_bit, Bool.or_eq_true, decide_eq_true_eq, List.mem_filter, List.mem_range] at hb
          rw [R.bitT hj]
          rcases hb with ⟨_, hb⟩ | hb
          · unfold freeB at hb
            rw [List.getElem?_toArray, List.getElem?_toArray, List.getElem?_eq_getElem hi] at hb
            rw [Bool.or_eq_true] at hb
            rcases hb with hb | hb
            · simp [hb]
            · rw [List.getElem?_toArray]
              rw [Bool.or_eq_true]; exact .inr hb
          · simp [hb]
        · unfold lastWaits
          rw [List.all_eq_true] at h5 ⊢
          intro x hx
          have := h5 x hx
          rw [Bool.and_eq_true] at this ⊢
          exact ⟨this.1, waits_mono (by rw [List.size_toArray]; exact f5 x hx) (rt_waits f3 x (f5 x hx) i this.2)⟩
        · unfold needC
          rw [List.all_eq_true]
          intro x hx
          rw [R.bitT (f5 x hx)]
          have h0 : (T.zm &&& m).testBit x = false := by rw [Nat.eq_of_beq_eq_true h6]; simp
          rw [Nat.testBit_and, ← f4, maskOf_bit, decide_eq_true hx] at h0
          simpa using h0
  | x i t alt iht ihalt =>
    intro c m listed rs R hr h
    have hlt : ∀ r ∈ Region.ready .any l.toArray listed, r < l.length := fun r hm => by
      obtain ⟨_, o, ho, _⟩ := mem_ready.1 hm
      have := (Array.getElem?_eq_some_iff.1 ho).1
      simpa using this
    cases c with
    | zero => cases rs <;> simp [okM] at h
    | succ c =>
      cases rs with
      | none =>
        simp only [okM] at h
        simp only [okT]
        have e := ready_eq hT R
        rw [← e] at h
        cases hq : Region.ready .any l.toArray listed with
        | nil => rw [hq] at h; cases h
        | cons r rs =>
          rw [hq] at h
          simp only [Bool.and_eq_true] at h ⊢
          obtain ⟨⟨h1, h2⟩, h3⟩ := h
          have hri := Nat.eq_of_beq_eq_true h1
          subst hri
          exact ⟨⟨by simp, iht c _ _ none (R.set (hlt r (by rw [hq]; simp))) (fun _ e => by cases e) h2⟩, ihalt (c + 1) m listed (some rs) R (fun r' e x hx => hlt x (by rw [hq]; cases e; simp [hx])) h3⟩
      | some rr =>
        cases rr with
        | nil => simp [okM] at h
        | cons r rs =>
          simp only [okM, Bool.and_eq_true] at h
          simp only [okT, Bool.and_eq_true]
          obtain ⟨⟨h1, h2⟩, h3⟩ := h
          have hri := Nat.eq_of_beq_eq_true h1
          subst hri
          exact ⟨⟨by simp, iht c _ _ none (R.set (hr _ rfl r (by simp))) (fun _ e => by cases e) h2⟩, ihalt (c + 1) m listed (some rs) R (fun r' e x hx => hr _ rfl x (by cases e; simp [hx])) h3⟩
  | no =>
    intro c m listed rs R hr h
    cases rs with
    | none => cases c <;> simp [okM] at h
    | some r =>
      cases r with
      | nil => cases c <;> rfl
      | cons => cases c <;> simp [okM] at h
theorem rep0 (l : List Oper) : Rep l.length (Array.replicate l.length false) 0 := by
  refine ⟨by simp, fun i => ?_⟩
  simp [Array.getD_eq_getD_getElem?, Array.getElem?_replicate]
  split <;> rfl
end
section
variable {P : Program} {B : RO} {N : Nat} {ops : Array Oper} {k : List Item} {Φ : Lv → Env → Heap → Prop} {C : Heap → Prop} {z : List Nat}
def RunT (P : Program) (B : RO) (N : Nat) (ops : Array Oper) (k : List Item) (Φ : Lv → Env → Heap → Prop) (C : Heap → Prop) (z : List Nat) : Ord → Env → Heap → Prop
  | .nil, e, h => Run P B N k e h Φ
  | .q i t, e, h => ∃ o v, ops[i]? = some o ∧ YieldsC P B N ops C o v e ∧ RunT P B N ops k Φ C z t (updO e o.dst v) h
  | .x i t alt, e, h => OpH P B N ops i (fun e' h' => (z.contains i = false → C h') ∧ RunT P B N ops k Φ C z t e' h') e h ∧ RunT P B N ops k Φ C z alt e h
  | .no, _, _ => True
theorem RunT.joinJ {t t0 : Ord} {e0 : Env} {h0 : Heap} (J : Env → Heap → Prop) (hj : ∀ e h, J e h → RunT P B N ops k Φ C z t e h) (hx : (∀ e h, J e h → RunT P B N ops k Φ C z t e h) → RunT P B N ops k Φ C z t0 e0 h0) : RunT P B N ops k Φ C z t0 e0 h0 := hx hj
theorem RunT.env {t : Ord} {l : List (Nat × Value)} {e : Env} {h : Heap} (ha : Agree l e) (hr : RunT P B N ops k Φ C z t (updL l e) h) : RunT P B N ops k Φ C z t e h := by rwa [updL_eq ha] at hr
theorem RunT.any (hs : Region.noSelect ops = true) : ∀ (t : Ord),
    (∀ (n : Nat) (listed : Array Bool) (e : Env) (h : Heap), ClosedL ops listed → okT ops z t n listed none = true → (needC z listed = true → C h) → RunT P B N ops k Φ C z t e h → RunAny P B N ops k Φ C z n listed e h) ∧
    (∀ (n : Nat) (listed : Array Bool) (rs : List Nat) (e : Env) (h : Heap), ClosedL ops listed → okT ops z t n listed (some rs) = true → (∀ j ∈ rs, j ∈ Region.ready .any ops listed) → RunT P B N ops k Φ C z t e h → ∀ j ∈ rs, OpH P B N ops j (RunAny P B N ops k Φ C z (n - 1) (listed.setIfInBounds j true)) e h) := by
  have lateIn : ∀ {listed : Array Bool} {j : Nat}, j ∈ Region.ready .any ops listed → needC z (listed.setIfInBounds j true) = true → z.contains j = false := fun {listed j} hj' hn => by
    have hlt : j < listed.size := by
      have hun := (mem_ready.1 hj').1
      rcases Nat.lt_or_ge j listed.size with h' | h'
      · exact h'
      · simp [Array.getD, Nat.not_lt.2 h'] at hun
    cases hc : z.contains j with
    | false => rfl
    | true =>
      have hm : j ∈ z := by simpa using hc
      have := List.all_eq_true.1 hn j hm
      simp [Array.getD, hlt] at this
  intro t
  induction t with
  | nil =>
    refine ⟨fun n listed e h hcl hok hC hr => ?_, fun n listed rs e h hcl hok => by simp [okT] at hok⟩
    simp only [okT, Bool.and_eq_true, beq_iff_eq] at hok
    obtain ⟨rfl, h2⟩ := hok
    exact ⟨hC, by simpa using h2, hr⟩
  | no =>
    refine ⟨fun n listed e h hcl hok => by simp [okT] at hok, fun n listed rs e h hcl hok _ _ j hj => ?_⟩
    cases rs with
    | nil => cases hj
    | cons r rs => simp [okT] at hok
  | q i t ih =>
    refine ⟨fun n listed e h hcl hok hC hr => ?_, fun n listed rs e h hcl hok => by simp [okT] at hok⟩
    cases n with
    | zero => simp [okT] at hok
    | succ n =>
      simp only [okT, Bool.and_eq_true] at hok
      obtain ⟨⟨⟨⟨h1, h2⟩, h3⟩, h4⟩, h5⟩ := hok
      obtain ⟨o, v, ho, hy, hr⟩ := hr
      exact RunAny.first ho (Region.noSelect_spec hs) h3 n listed e h hcl (Region.free_spec ho h2) (by simpa using h1) hy (hC h4) h4 (ih.1 _ _ _ _ (hcl.set (by simpa using h1)) h5 (fun _ => hC h4) hr)
  | x i t alt iht iha =>
    have one : ∀ {n : Nat} {listed : Array Bool} {e : Env} {h : Heap}, ClosedL ops listed → i ∈ Region.ready .any ops listed → okT ops z t n (listed.setIfInBounds i true) none = true →
        OpH P B N ops i (fun e' h' => (z.contains i = false → C h') ∧ RunT P B N ops k Φ C z t e' h') e h → OpH P B N ops i (RunAny P B N ops k Φ C z n (listed.setIfInBounds i true)) e h := fun hcl hi hok ho =>
      ho.mono fun e' h' hh => iht.1 _ _ _ _ (hcl.set hi) hok (fun hn => hh.1 (lateIn hi hn)) hh.2
    refine ⟨fun n listed e h hcl hok hC hr => ?_, fun n listed rs e h hcl hok hrs hr j hj => ?_⟩
    · cases n with
      | zero => simp [okT] at hok
      | succ n =>
        simp only [okT] at hok
        cases hrd : Region.ready .any ops listed with
        | nil => rw [hrd] at hok; cases hok
        | cons r rs =>
          rw [hrd] at hok
          simp only [Bool.and_eq_true, beq_iff_eq] at hok
          obtain ⟨⟨rfl, h2⟩, h3⟩ := hok
          have hmem : r ∈ Region.ready .any ops listed := by rw [hrd]; simp
          refine ⟨hC, fun h0 => (by rw [hrd] at h0; cases h0), fun j hj => ?_⟩
          rw [hrd] at hj
          rcases List.mem_cons.1 hj with rfl | hj
          · exact one hcl hmem h2 hr.1
          · exact iha.2 (n + 1) listed rs e h hcl h3 (fun j' hj' => by rw [hrd]; exact List.mem_cons_of_mem _ hj') hr.2 j hj
    · cases n with
      | zero => cases rs <;> simp [okT] at hok
      | succ n =>
        cases rs with
        | nil => simp [okT] at hok
        | cons r rs =>
          simp only [okT, Bool.and_eq_true, beq_iff_eq] at hok
          obtain ⟨⟨rfl, h2⟩, h3⟩ := hok
          rcases List.mem_cons.1 hj with rfl | hj
          · exact one hcl (hrs j (by simp)) h2 hr.1
          · exact iha.2 (n + 1) listed rs e h hcl h3 (fun j' hj' => hrs j' (List.mem_cons_of_mem _ hj')) hr.2 j hj
theorem Run.drawT {id : Nat} {l : List Oper} {e : Env} {h : Heap} (C : Heap → Prop) (z : List Nat) (ord : Ord) (hm : P.follows .mixedOrders = true) (hs : (Region.noSelect l.toArray && okT l.toArray z ord l.length (Array.replicate l.length false) none) = true)
    (hC : C h) (hr : RunT P B N l.toArray k Φ C z ord e h) : Run P B N (.code (.region id l.toArray true) :: k) e h Φ := by
  simp only [Bool.and_eq_true] at hs
  refine Run.region_draw fun t => ?_
  simp only [Region.schedule, hm, Bool.true_or, if_true, Region.linearise]
  have := (RunT.any (C := C) (z := z) hs.1 ord).1 l.length (Array.replicate l.length false) e h (fun m om hm hl => by
    have hlt := (Array.getElem?_eq_some_iff.1 hm).1
    simp only [List.size_toArray] at hlt
    simp [Array.getD, hlt] at hl) hs.2 (fun _ => hC) hr
  simpa using RunAny.sound l.length t _ e h this
theorem Run.drawM {id : Nat} {l : List Oper} {e : Env} {h : Heap} (C : Heap → Prop) (z : List Nat) (T : Tab) (ord : Ord) (hm : P.follows .mixedOrders = true) (hs : (Region.noSelect l.toArray && tabOk l z T && okM l.length z T ord l.length 0 none) = true)
    (hC : C h) (hr : RunT P B N l.toArray k Φ C z ord e h) : Run P B N (.code (.region id l.toArray true) :: k) e h Φ := by
  simp only [Bool.and_eq_true] at hs
  refine Run.drawT C z ord hm ?_ hC hr
  rw [Bool.and_eq_true]
  exact ⟨hs.1.1, okM_okT hs.1.2 ord _ _ _ none (rep0 l) (fun r e => by cases e) hs.2⟩
theorem RunT.quiet {i : Nat} {t : Ord} {o : Oper} {v : Value} {e : Env} {h : Heap} (ho : ops[i]? = some o) (hd : (dstOK N o && noDefer o) = true) (hw : Region.wanted o (yieldE ops e) = true) (hq : ∀ h', C h' → QuietAt P B o e h' v) (hr : RunT P B N ops k Φ C z t (updO e o.dst v) h) : RunT P B N ops k Φ C z (.q i t) e h := by
  simp only [Bool.and_eq_true] at hd
  exact ⟨o, v, ho, ⟨hd.1, hd.2, .inl ⟨hw, hq⟩⟩, hr⟩
theorem RunT.skip {i : Nat} {t : Ord} {o : Oper} {e : Env} {h : Heap} (ho : ops[i]? = some o) (hd : (dstOK N o && noDefer o) = true) (hw : Region.wanted o (yieldE ops e) = false) (hr : RunT P B N ops k Φ C z t (updO e o.dst undef) h) : RunT P B N ops k Φ C z (.q i t) e h := by
  simp only [Bool.and_eq_true] at hd
  exact ⟨o, undef, ho, ⟨hd.1, hd.2, .inr ⟨hw, rfl⟩⟩, hr⟩
end
section
variable {P : Program} {B : RO} {h : Heap} {ρ : Operand → Value} {d : Option Nat} {ty : TypeId} {pos : String} {aft : Array Edge} {g : Option (Nat × Bool)} {K : Next → Heap → Prop}
theorem sem_capSl {x : Operand} {t : TypeId} (a : Option Addr) (n c : Nat) (hx : ρ x = .slice a n c) (ht : slT P t = true) (k : K (.value (.int .i64 c)) h) : semH P B (execOp ρ ⟨d, .call ⟨.builtin .cap, #[x], #[t]⟩, ty, pos, aft, g⟩) h K := by
  unfold slT at ht
  split at ht
  · rename_i e hu
    rw [exec_builtin #[ρ x] (by simp)]
    show semH P B (do pure (.value (← Builtin.cap_ #[t] ty #[ρ x]))) h K
    rw [semH_value, hx]
    simp only [Builtin.cap_, List.getElem?_toArray, List.getElem?_cons_zero]
    rw [semH_und hu]
    exact k
  · cases ht
end
end Go.Proofs.Ytgldgabefiialaa.H
namespace Go.Proofs.Ytgldgabefiialaa.H
open Go
set_option linter.unusedVariables false
abbrev LE := List (Nat × Value)
def lk : LE → Nat → Option Value
  | [], _ => none
  | (t, v) :: l, s => bif Nat.beq s t then some v else lk l s
theorem lk_updL {e : Env} {s : Nat} {v : Value} : ∀ {L : LE}, lk L s = some v → updL L e s = v := by
  intro L
  induction L with
  | nil => intro h; cases h
  | cons p L ih =>
    obtain ⟨t, u⟩ := p
    intro h
    simp only [lk] at h
    simp only [updL, upd]
    cases hb : Nat.beq s t with
    | true => rw [hb] at h; simpa using h
    | false => rw [hb] at h; simpa using ih h
def lkO (L : LE) : Operand → Option Value
  | .tmp t => lk L t
  | .const v => some v
  | .global g => some (.pointer (some ⟨g, 0, none⟩))
  | .func f => some (.func (.func f) #[] #[])
theorem lkO_eval {e : Env} {L : LE} {x : Operand} {v : Value} (h : lkO L x = some v) : evalE (updL L e) x = v := by
  cases x with
  | tmp t => exact lk_updL h
  | const u => exact Option.some.inj h
  | global g => exact Option.some.inj h
  | func f => exact Option.some.inj h
def putO (L : LE) (d : Option Nat) (v : Value) : LE := match d with
  | some d => (d, v) :: L
  | none => L
theorem putO_eq {e : Env} {L : LE} {d : Option Nat} {v : Value} : updL (putO L d v) e = updO (updL L e) d v := by cases d <;> rfl
def nthO {α : Type} : List α → Nat → Option α
  | [], _ => none
  | a :: _, 0 => some a
  | _ :: l, i + 1 => nthO l i
theorem nthO_eq {α : Type} : ∀ (l : List α) (i : Nat), nthO l i = l[i]? := by
  intro l
  induction l with
  | nil => intro i; simp [nthO]
  | cons a l ih => intro i; cases i <;> simp [nthO, ih]
theorem nthO_arr {α : Type} {a : Array α} {i : Nat} : nthO a.toList i = a[i]? := by rw [nthO_eq]; simp
def ikN : IntKind → Nat
  | .i8 => 0 | .i16 => 1 | .i32 => 2 | .i64 => 3 | .u8 => 4 | .u16 => 5 | .u32 => 6 | .u64 => 7
theorem ikN_inj {a b : IntKind} (h : Nat.beq (ikN a) (ikN b) = true) : a = b := by
  cases a <;> cases b <;> first | rfl | (simp [ikN] at h)
abbrev FT := List (Nat × Nat × Nat)
def ftAt : FT → Nat → Nat → Option Nat
  | [], _, _ => none
  | (s, f, o) :: l, s', f' => bif Nat.beq s' s && Nat.beq f' f then some o else ftAt l s' f'
def FTok (P : Program) (ft : FT) : Prop := ∀ p ∈ ft, fldB P p.1 p.2.1 = some p.2.2
theorem ftAt_ok {P : Program} : ∀ {ft : FT} {s f o : Nat}, FTok P ft → ftAt ft s f = some o → fldB P s f = some o := by
  intro ft
  induction ft with
  | nil => intro s f o _ h; cases h
  | cons p ft ih =>
    obtain ⟨s', f', o'⟩ := p
    intro s f o hp h
    simp only [ftAt] at h
    cases hb : (Nat.beq s s' && Nat.beq f f') with
    | true =>
      rw [hb] at h
      simp only [Bool.and_eq_true] at hb
      have h1 := Nat.eq_of_beq_eq_true hb.1
      have h2 := Nat.eq_of_beq_eq_true hb.2
      subst h1 h2
      have := hp (s, f, o') (by simp)
      simpa [this] using h
    | false => rw [hb] at h; exact ih (fun q hq => hp q (by simp [hq])) h
def ftB (P : Program) : FT → Bool
  | [] => true
  | (s, f, o) :: l => match fldB P s f with
    | some o' => Nat.beq o' o && ftB P l
    | none => false
theorem ftB_ok {P : Program} : ∀ {ft : FT}, ftB P ft = true → FTok P ft := by
  intro ft
  induction ft with
  | nil => intro _ p hp; cases hp
  | cons q ft ih =>
    obtain ⟨s, f, o⟩ := q
    intro h p hp
    simp only [ftB] at h
    split at h
    · rename_i o' ho
      simp only [Bool.and_eq_true] at h
      rcases List.mem_cons.1 hp with rfl | hp
      · rw [ho, Nat.eq_of_beq_eq_true h.1]
      · exact ih h.2 p hp
    · cases h
def mapO (L : LE) : List Operand → Option (List Value)
  | [] => some []
  | x :: l => match lkO L x, mapO L l with
    | some v, some vs => some (v :: vs)
    | _, _ => none
theorem mapO_eval {e : Env} {L : LE} : ∀ {l : List Operand} {vs : List Value}, mapO L l = some vs → l.map (evalE (updL L e)) = vs := by
  intro l
  induction l with
  | nil => intro vs h; simp [mapO] at h; subst h; rfl
  | cons x l ih =>
    intro vs h
    simp only [mapO] at h
    split at h
    · rename_i v ws h1 h2
      simp only [Option.some.injEq] at h
      subst h
      simp [lkO_eval h1, ih h2]
    · cases h
def pureV (ft : FT) (L : LE) : Op → Option Value
  | .move x => lkO L x
  | .assign x => lkO L x
  | .pick c x y => match lkO L c with
    | some (.bool true) => lkO L x
    | some (.bool false) => lkO L y
    | _ => none
  | .extract x i => match lkO L x with
    | some (.tuple vs) => nthO vs.toList i
    | _ => none
  | .unOp .not _ x => match lkO L x with
    | some (.bool b) => some (.bool (!b))
    | _ => none
  | .binOp op _ x y _ => match lkO L x, lkO L y with
    | some (.int k a), some (.int k' b) => bif Nat.beq (ikN k) (ikN k') then binI op k a b else none
    | _, _ => none
  | .fieldAddr s x f => match lkO L x with
    | some (.pointer (some A)) => match ftAt ft s f with
      | some off => some (.pointer (some (A.add off)))
      | none => none
    | _ => none
  | .nilCheck x => match lkO L x with
    | some (.pointer (some A)) => some (.pointer (some A))
    | some (.func (.func g) a b) => some (.func (.func g) a b)
    | _ => none
  | .makeFunc (.func g) a b => match mapO L a.toList, mapO L b.toList with
    | some vs, some ws => some (.func (.func g) vs.toArray ws.toArray)
    | _, _ => none
  | _ => none
theorem pureV_sem {P : Program} {B : RO} {ft : FT} (hft : FTok P ft) {L : LE} {e : Env} {o : Oper} {v : Value} {h : Heap} {K : Next → Heap → Prop} (hp : pureV ft L o.op = some v) (k : K (.value v) h) : semH P B (execOp (evalE (updL L e)) o) h K := by
  obtain ⟨d, op, ty, pos, aft, g⟩ := o
  simp only at hp
  unfold pureV at hp
  split at hp
  · exact sem_move v (lkO_eval hp) k
  · exact sem_assign v (lkO_eval hp) k
  · split at hp
    · rename_i hc; exact sem_pick true v (lkO_eval hc) ((if_pos rfl).trans (lkO_eval hp)) k
    · rename_i hc; exact sem_pick false v (lkO_eval hc) ((if_neg Bool.false_ne_true).trans (lkO_eval hp)) k
    · cases hp
  · split at hp
    · rename_i vs hx
      rw [nthO_arr] at hp
      exact sem_extract vs v (lkO_eval hx) hp k
    · cases hp
  · split at hp
    · rename_i b hx; cases hp; exact sem_not b (lkO_eval hx) k
    · cases hp
  · split at hp
    · rename_i k1 a k2 b hx hy
      cases hb : Nat.beq (ikN k1) (ikN k2) with
      | true =>
        rw [hb] at hp
        have := ikN_inj hb
        subst this
        exact sem_binI k1 a b v (lkO_eval hx) (lkO_eval hy) (by simpa using hp) k
      | false => rw [hb] at hp; cases hp
    · cases hp
  · split at hp
    · rename_i A hx
      split at hp
      · rename_i off ho
        cases hp
        exact sem_fieldAddr A off (lkO_eval hx) (ftAt_ok hft ho) k
      · cases hp
    · cases hp
  · split at hp
    · rename_i A hx; cases hp; exact sem_nilCheck A (lkO_eval hx) k
    · rename_i g' a b hx; cases hp; exact sem_nilCheckF g' a b (lkO_eval hx) k
    · cases hp
  · split at hp
    · rename_i g' a b vs ws ha hb
      cases hp
      have h1 := mapO_eval (e := e) ha
      have h2 := mapO_eval (e := e) hb
      exact sem_makeFunc _ _ (Array.toList_inj.1 (by simp [h1])) (Array.toList_inj.1 (by simp [h2])) k
    · cases hp
  · cases hp
def okO (N : Nat) (o : Oper) : Bool := dstOK N o && noDefer o
def wantL (ops : List Oper) (L : LE) (o : Oper) : Option Bool := match o.guard with
  | none => some true
  | some (j, w) => match nthO ops j with
    | none => none
    | some oj => match oj.dst with
      | none => none
      | some d => match lk L d with
        | some (.bool true) => some w
        | some (.bool false) => some (bif w then false else true)
        | some (.tuple _) => some false
        | _ => none
theorem wantL_eq {ops : Array Oper} {L : LE} {e : Env} {o : Oper} {b : Bool} (h : wantL ops.toList L o = some b) : Region.wanted o (yieldE ops (updL L e)) = b := by
  unfold wantL at h
  unfold Region.wanted
  split at h
  · rename_i hg; rw [hg]; simpa using h
  · rename_i j w hg
    rw [hg]
    simp only
    split at h
    · cases h
    · rename_i oj hj
      rw [nthO_arr] at hj
      split at h
      · cases h
      · rename_i d hd
        have hb : (ops[j]?).bind (·.dst) = some d := by rw [hj]; exact hd
        unfold yieldE
        rw [hb]
        simp only
        split at h
        · rename_i hl; rw [lk_updL hl]; cases w <;> simp_all
        · rename_i hl; rw [lk_updL hl]; cases w <;> simp_all
        · rename_i hl; rw [lk_updL hl]; cases w <;> simp_all
        · cases h
def quiet1 (ft : FT) (N : Nat) (ops : List Oper) (i : Nat) (L : LE) : Option LE := match nthO ops i with
  | none => none
  | some o => match okO N o, wantL ops L o with
    | true, some true => match pureV ft L o.op with
      | some v => some (putO L o.dst v)
      | none => none
    | true, some false => some (putO L o.dst undef)
    | _, _ => none
def st1 (ft : FT) (N : Nat) (L : LE) : List Item → Option (List Item × LE)
  | .code .skip :: k => some (k, L)
  | .code (.label _) :: k => some (k, L)
  | .inBlock _ :: k => some (k, L)
  | .inScope _ :: k => some (k, L)
  | .code (.scope c) :: k => some (.code c :: .inScope c :: k, L)
  | .code (.seq x y) :: k => some (.code x :: .code y :: k, L)
  | .code (.block id c) :: k => some (.code c :: .inBlock id :: k, L)
  | .code (.exit id) :: k => match exitTo id k with
    | some k' => some (k', L)
    | none => none
  | .code (.cond c x y) :: k => match lkO L c with
    | some (.bool true) => some (.code x :: k, L)
    | some (.bool false) => some (.code y :: k, L)
    | _ => none
  | .code (.region _ ops false) :: k => some (.inRegion ops (List.range ops.size) :: k, L)
  | .inRegion _ [] :: k => some (k, L)
  | .inRegion ops (i :: r) :: k => match quiet1 ft N ops.toList i L with
    | some L' => some (.inRegion ops r :: k, L')
    | none => none
  | _ => none
def aut (ft : FT) (N : Nat) : Nat → List Item → LE → Option (List Item × LE)
  | 0, t, L => some (t, L)
  | n + 1, t, L => match st1 ft N L t with
    | some (t', L') => aut ft N n t' L'
    | none => none
def autT (ft : FT) (N : Nat) (ops : List Oper) : Nat → Ord → LE → Option (Ord × LE)
  | 0, t, L => some (t, L)
  | n + 1, .q i t, L => match quiet1 ft N ops i L with
    | some L' => autT ft N ops n t L'
    | none => none
  | _ + 1, _, _ => none
section
variable {P : Program} {B : RO} {N : Nat} {k : List Item} {e : Env} {h : Heap} {Φ : Lv → Env → Heap → Prop} {ft : FT}
theorem st1_run (hft : FTok P ft) {t t' : List Item} {L L' : LE} (hs : st1 ft N L t = some (t', L')) (hr : Run P B N t' (updL L' e) h Φ) : Run P B N t (updL L e) h Φ := by
  unfold st1 at hs
  split at hs <;> try (cases hs; done)
  · cases hs; exact hr.skip
  · cases hs; exact hr.label
  · cases hs; exact hr.inBlock
  · cases hs; exact hr.inScope
  · cases hs; exact hr.scope
  · cases hs; exact hr.seq
  · cases hs; exact hr.block
  · split at hs
    · rename_i k' hk; cases hs; exact hr.exit hk
    · cases hs
  · split at hs
    · rename_i hc; cases hs; exact Run.condT (lkO_eval hc) hr
    · rename_i hc; cases hs; exact Run.condF (lkO_eval hc) hr
    · cases hs
  · cases hs; exact hr.region
  · cases hs; exact hr.region_end
  · rename_i ops i r k0
    split at hs
    · rename_i L1 hq
      cases hs
      unfold quiet1 at hq
      split at hq
      · cases hq
      · rename_i o ho
        rw [nthO_arr] at ho
        split at hq
        · rename_i hok hw
          have hok' : (dstOK N o && noDefer o) = true := hok
          split at hq
          · rename_i v hv
            cases hq
            refine Run.go ho hok' (wantL_eq hw) (pureV_sem hft hv ?_)
            show Run P B N _ (updO (updL L e) o.dst v) h Φ
            rw [← putO_eq]; exact hr
          · cases hq
        · rename_i hok hw
          cases hq
          have hok' : (dstOK N o && noDefer o) = true := hok
          refine Run.no ho hok' (wantL_eq hw) ?_
          rw [← putO_eq]; exact hr
        · cases hq
    · cases hs
theorem aut_run (hft : FTok P ft) : ∀ (n : Nat) {t t' : List Item} {L L' : LE}, aut ft N n t L = some (t', L') → Run P B N t' (updL L' e) h Φ → Run P B N t (updL L e) h Φ := by
  intro n
  induction n with
  | zero => intro t t' L L' ha hr; simp only [aut, Option.some.injEq, Prod.mk.injEq] at ha; obtain ⟨rfl, rfl⟩ := ha; exact hr
  | succ n ih =>
    intro t t' L L' ha hr
    simp only [aut] at ha
    split at ha
    · rename_i t1 L1 h1; exact st1_run hft h1 (ih ha hr)
    · cases ha
theorem autT_run (hft : FTok P ft) {ops : Array Oper} {C : Heap → Prop} {z : List Nat} : ∀ (n : Nat) {t t' : Ord} {L L' : LE}, autT ft N ops.toList n t L = some (t', L') → RunT P B N ops k Φ C z t' (updL L' e) h → RunT P B N ops k Φ C z t (updL L e) h := by
  intro n
  induction n with
  | zero => intro t t' L L' ha hr; simp only [autT, Option.some.injEq, Prod.mk.injEq] at ha; obtain ⟨rfl, rfl⟩ := ha; exact hr
  | succ n ih =>
    intro t t' L L' ha hr
    unfold autT at ha
    split at ha
    · rename_i heq; cases heq
    · rename_i i t heq
      cases heq
      split at ha
      · rename_i L1 hq
        unfold quiet1 at hq
        split at hq
        · cases hq
        · rename_i o ho
          rw [nthO_arr] at ho
          split at hq
          · rename_i hok hw
            have hok' : (dstOK N o && noDefer o) = true := hok
            split at hq
            · rename_i v hv
              cases hq
              refine RunT.quiet (v := v) ho hok' (wantL_eq hw) (fun h' hC => pureV_sem hft hv ⟨rfl, rfl⟩) ?_
              rw [← putO_eq]; exact ih ha hr
            · cases hq
          · rename_i hok hw
            cases hq
            have hok' : (dstOK N o && noDefer o) = true := hok
            refine RunT.skip ho hok' (wantL_eq hw) ?_
            rw [← putO_eq]; exact ih ha hr
          · cases hq
      · cases ha
    · cases ha
def at1 (N : Nat) (ops : List Oper) (i : Nat) (L : LE) : Option Oper := match nthO ops i with
  | none => none
  | some o => match okO N o, wantL ops L o with
    | true, some true => some o
    | _, _ => none
theorem at1_ok {ops : Array Oper} {i : Nat} {L : LE} {o : Oper} (h : at1 N ops.toList i L = some o) : ops[i]? = some o ∧ (dstOK N o && noDefer o) = true ∧ Region.wanted o (yieldE ops (updL L e)) = true := by
  unfold at1 at h
  split at h
  · cases h
  · rename_i o' ho
    rw [nthO_arr] at ho
    split at h
    · rename_i hok hw
      cases h
      exact ⟨ho, hok, wantL_eq hw⟩
    · cases h
variable {ops : Array Oper} {i : Nat} {idx : List Nat} {L : LE} {d : Nat} {op : Op} {ty : TypeId} {pos : String} {aft : Array Edge} {g : Option (Nat × Bool)}
theorem zg (ho : at1 N ops.toList i L = some ⟨some d, op, ty, pos, aft, g⟩) (hs : semH P B (execOp (evalE (updL L e)) ⟨some d, op, ty, pos, aft, g⟩) h (fun nx h' => After P B nx h' (fun v h'' => Run P B N (.inRegion ops idx :: k) (updL ((d, v) :: L) e) h'' Φ))) :
    Run P B N (.inRegion ops (i :: idx) :: k) (updL L e) h Φ := by
  obtain ⟨h1, h2, h3⟩ := at1_ok (e := e) ho
  exact Run.go h1 h2 h3 hs
theorem zg0 (ho : at1 N ops.toList i L = some ⟨none, op, ty, pos, aft, g⟩) (hs : semH P B (execOp (evalE (updL L e)) ⟨none, op, ty, pos, aft, g⟩) h (fun nx h' => After P B nx h' (fun v h'' => Run P B N (.inRegion ops idx :: k) (updL L e) h'' Φ))) :
    Run P B N (.inRegion ops (i :: idx) :: k) (updL L e) h Φ := by
  obtain ⟨h1, h2, h3⟩ := at1_ok (e := e) ho
  exact Run.go h1 h2 h3 hs
theorem zo {K : Env → Heap → Prop} (ho : at1 N ops.toList i L = some ⟨some d, op, ty, pos, aft, g⟩) (hs : semH P B (execOp (evalE (updL L e)) ⟨some d, op, ty, pos, aft, g⟩) h (fun nx h' => After P B nx h' (fun v h'' => K (updL ((d, v) :: L) e) h''))) : OpH P B N ops i K (updL L e) h := by
  obtain ⟨h1, h2, h3⟩ := at1_ok (e := e) ho
  exact OpH.go h1 h2 h3 hs
theorem zo0 {K : Env → Heap → Prop} (ho : at1 N ops.toList i L = some ⟨none, op, ty, pos, aft, g⟩) (hs : semH P B (execOp (evalE (updL L e)) ⟨none, op, ty, pos, aft, g⟩) h (fun nx h' => After P B nx h' (fun v h'' => K (updL L e) h''))) : OpH P B N ops i K (updL L e) h := by
  obtain ⟨h1, h2, h3⟩ := at1_ok (e := e) ho
  exact OpH.go h1 h2 h3 hs
def no1 (N : Nat) (ops : List Oper) (i : Nat) (L : LE) : Option LE := match nthO ops i with
  | none => none
  | some o => match okO N o, wantL ops L o with
    | true, some false => some (putO L o.dst undef)
    | _, _ => none
theorem zon {K : Env → Heap → Prop} {L' : LE} (ho : no1 N ops.toList i L = some L') (hs : K (updL L' e) h) : OpH P B N ops i K (updL L e) h := by
  unfold no1 at ho
  split at ho
  · cases ho
  · rename_i o h1
    rw [nthO_arr] at h1
    split at ho
    · rename_i hok hw
      cases ho
      refine OpH.no h1 hok (wantL_eq hw) ?_
      rw [← putO_eq]; exact hs
    · cases ho
theorem zq {C : Heap → Prop} {z : List Nat} {t : Ord} {v : Value} (ho : at1 N ops.toList i L = some ⟨some d, op, ty, pos, aft, g⟩) (hq : ∀ h', C h' → QuietAt P B ⟨some d, op, ty, pos, aft, g⟩ (updL L e) h' v) (hr : RunT P B N ops k Φ C z t (updL ((d, v) :: L) e) h) :
    RunT P B N ops k Φ C z (.q i t) (updL L e) h := by
  obtain ⟨h1, h2, h3⟩ := at1_ok (e := e) ho
  exact RunT.quiet h1 h2 h3 hq hr
theorem zqe {z : List Nat} {t : Ord} {v : Value} {h0 : Heap} (ho : at1 N ops.toList i L = some ⟨some d, op, ty, pos, aft, g⟩) (hq : QuietAt P B ⟨some d, op, ty, pos, aft, g⟩ (updL L e) h0 v) (hr : RunT P B N ops k Φ (fun h' => h' = h0) z t (updL ((d, v) :: L) e) h) :
    RunT P B N ops k Φ (fun h' => h' = h0) z (.q i t) (updL L e) h := zq ho (fun _ e => e ▸ hq) hr
def argO : Nat → List Value → LE → Option LE
  | _, [], acc => some acc
  | n, v :: l, acc => argO (n + 1) l ((n, v) :: acc)
theorem Agree.argO {e : Env} : ∀ (l : List Value) (n : Nat) (acc L : LE), (∀ i v, l[i]? = some v → e (n + i) = v) → Agree acc e → argO n l acc = some L → Agree L e := by
  intro l
  induction l with
  | nil => intro n acc L _ ha h; simp only [H.argO, Option.some.injEq] at h; subst h; exact ha
  | cons v l ih =>
    intro n acc L he ha h
    exact ih (n + 1) ((n, v) :: acc) L (fun i u hu => by have := he (i + 1) u (by simpa using hu); rw [← this]; congr 1; omega) ⟨by simpa using he 0 v (by simp), ha⟩ h
theorem zspec {f : FuncId} {c : Code} {l : List Value} {L : LE} {Post : Value → Heap → Prop} {fn : Func} (hf : P.funcs[f]? = some fn) (rs : List ResultVar) (hc : fn.body = some c) (hrs : fn.results = rs.toArray) (hN : fn.ntmps = N) (hn : Nat.ble l.length N = true) (hL : argO 0 l [] = some L)
    (hr : Run P B N [.code c] (updL L (env0 l.toArray)) h (fun j e h' => (j = .fall ∨ j = .ret) ∧ resH P B h' e rs (fun vs => Fin B h' (Post (pack vs))))) :
    Spec P B f l.toArray h Post := by
  refine Spec.of_run hf hc hrs hN (Nat.le_of_ble_eq_true (by simpa using hn)) ?_
  rwa [updL_eq] at hr
  refine Agree.argO l 0 [] L (fun i v hv => ?_) trivial hL
  simp [env0, Array.getD_eq_getD_getElem?, hv]
def argP : List (Nat × Value) → LE → Option LE
  | [], L => some L
  | (t, v) :: l, L => argP l ((t, v) :: L)
theorem argP_eq {e : Env} : ∀ (l : List (Nat × Value)) (L L' : LE), argP l L = some L' → putE (updL L e) l = updL L' e := by
  intro l
  induction l with
  | nil => intro L L' h; simp only [argP, Option.some.injEq] at h; subst h; rfl
  | cons p l ih => obtain ⟨t, v⟩ := p; intro L L' h; exact ih ((t, v) :: L) L' h
theorem zput {todo : List Item} {l : List (Nat × Value)} {L L' : LE} (ha : argP l L = some L') (hr : Run P B N todo (updL L' e) h Φ) : Run P B N todo (putE (updL L e) l) h Φ := by rwa [argP_eq l L L' ha]
theorem zr {X : Env → Heap → Prop} (hr : X e h) : Run P B N (.code .ret :: k) e h (fun j e h => (j = .fall ∨ j = .ret) ∧ X e h) := Run.ret ⟨.inr rfl, hr⟩
theorem zf {X : Env → Heap → Prop} (hr : X e h) : Run P B N [] e h (fun j e h => (j = .fall ∨ j = .ret) ∧ X e h) := Run.fall ⟨.inl rfl, hr⟩
variable {α : Type} {f : α → Value} {A : Addr} {t : TypeId} {x : Operand}
theorem zl {K : α → Prop} (s : ∃ x : α, cellH B h A = some (f x) ∧ K x) (ho : at1 N ops.toList i L = some ⟨some d, .load t x, ty, pos, aft, g⟩) (hx : lkO L x = some (.pointer (some A))) (ht : aggB P t = some false)
    (hr : ∀ x, K x → Run P B N (.inRegion ops idx :: k) (updL ((d, f x) :: L) e) h Φ) : Run P B N (.inRegion ops (i :: idx) :: k) (updL L e) h Φ := by
  obtain ⟨y, hl, hK⟩ := s
  exact zg ho (sem_load1 A (f y) (lkO_eval hx) ht hl (hr y hK))
theorem zn {vs : List Value} {n : Nat} (hl : CellsAt B h A 0 vs) (ho : at1 N ops.toList i L = some ⟨some d, .load t x, ty, pos, aft, g⟩) (hx : lkO L x = some (.pointer (some A))) (ht : aggB P t = some true) (hn : szB P t = some n) (hv : vs.length = n)
    (hr : Run P B N (.inRegion ops idx :: k) (updL ((d, .agg vs.toArray) :: L) e) h Φ) : Run P B N (.inRegion ops (i :: idx) :: k) (updL L e) h Φ :=
  zg ho (sem_loadN A vs (lkO_eval hx) ht (hn.trans (congrArg some hv.symm)) hl hr)
theorem zs1 {y : Operand} {v : Value} {K : Heap → Prop} (s : ∃ h' : Heap, storeH h A v = some h' ∧ K h') (ho : at1 N ops.toList i L = some ⟨none, .store t x y, ty, pos, aft, g⟩) (hx : lkO L x = some (.pointer (some A))) (hy : lkO L y = some v) (h1 : isOne v = true) (hn : szB P t = some 1)
    (hr : ∀ h', K h' → Run P B N (.inRegion ops idx :: k) (updL L e) h' Φ) : Run P B N (.inRegion ops (i :: idx) :: k) (updL L e) h Φ := by
  obtain ⟨h', hl, hK⟩ := s
  exact zg0 ho (sem_store1 A v h' (lkO_eval hx) (lkO_eval hy) h1 hn hl (hr h' hK))
theorem zsn {y : Operand} {vs : List Value} {n : Nat} {K : Heap → Prop} (s : ∃ h' : Heap, StoresAt A h 0 vs h' ∧ K h') (ho : at1 N ops.toList i L = some ⟨none, .store t x y, ty, pos, aft, g⟩) (hx : lkO L x = some (.pointer (some A))) (hy : lkO L y = some (.agg vs.toArray)) (hn : szB P t = some n) (hv : vs.length = n)
    (hr : ∀ h', K h' → Run P B N (.inRegion ops idx :: k) (updL L e) h' Φ) : Run P B N (.inRegion ops (i :: idx) :: k) (updL L e) h Φ := by
  obtain ⟨h', hl, hK⟩ := s
  exact zg0 ho (sem_storeN A vs h' (lkO_eval hx) (lkO_eval hy) (hn.trans (congrArg some hv.symm)) hl (hr h' hK))
theorem zcall {f : FuncId} {args : List Operand} {tys : Array TypeId} {vs : List Value} {Q : Value → Heap → Prop} (s : Spec P B f vs.toArray h Q) (ho : at1 N ops.toList i L = some ⟨some d, .call ⟨.value (.func f), args.toArray, tys⟩, ty, pos, aft, g⟩) (ha : mapO L args = some vs) (hg : Goes P f)
    (hr : ∀ v h', Q v h' → Run P B N (.inRegion ops idx :: k) (updL ((d, v) :: L) e) h' Φ) : Run P B N (.inRegion ops (i :: idx) :: k) (updL L e) h Φ :=
  zg ho (sem_callL vs hg rfl (mapO_eval ha) (Spec.mono s fun v h' hv => hr v h' hv))
theorem znil {p : Option Addr} {K : Addr → Prop} (s : ∃ A : Addr, p = some A ∧ K A) (ho : at1 N ops.toList i L = some ⟨some d, .nilCheck x, ty, pos, aft, g⟩) (hx : lkO L x = some (.pointer p))
    (hr : ∀ A, K A → Run P B N (.inRegion ops idx :: k) (updL ((d, .pointer (some A)) :: L) e) h Φ) : Run P B N (.inRegion ops (i :: idx) :: k) (updL L e) h Φ := by
  obtain ⟨A, hp, hK⟩ := s
  exact zg ho (sem_nilCheck A ((lkO_eval hx).trans (congrArg Value.pointer hp)) (hr A hK))
theorem zal {K : Nat → Heap → Prop} {zs : List Value} {o : AObj} (s : ∀ b : Nat, h b = none → B b = none → ∀ h' : Heap, h' = h.set b o → K b h') (ho : at1 N ops.toList i L = some ⟨some d, .alloc t, ty, pos, aft, g⟩) (hz : zeroB P t = some zs) (hv : o = .vec t (plains zs) zs.length)
    (hr : ∀ b h', K b h' → Run P B N (.inRegion ops idx :: k) (updL ((d, .pointer (some ⟨b, 0, none⟩)) :: L) e) h' Φ) : Run P B N (.inRegion ops (i :: idx) :: k) (updL L e) h Φ := by
  subst hv
  exact zg ho (sem_alloc zs hz fun b h1 h2 => hr b _ (s b h1 h2 _ rfl))
theorem zb1 {K : Nat → Heap → Prop} {v : Value} {o : AObj} (s : ∀ b : Nat, h b = none → B b = none → ∀ h' : Heap, h' = h.set b o → K b h') (ho : at1 N ops.toList i L = some ⟨some d, .box t x, ty, pos, aft, g⟩) (hx : lkO L x = some v) (h1 : isOne v = true) (hv : o = .vec t [.plain v] 1)
    (hr : ∀ b h', K b h' → Run P B N (.inRegion ops idx :: k) (updL ((d, .pointer (some ⟨b, 0, none⟩)) :: L) e) h' Φ) : Run P B N (.inRegion ops (i :: idx) :: k) (updL L e) h Φ := by
  subst hv
  exact zg ho (sem_box1 v (lkO_eval hx) h1 fun b h1 h2 => hr b _ (s b h1 h2 _ rfl))
theorem zbn {K : Nat → Heap → Prop} {vs : List Value} {o : AObj} (s : ∀ b : Nat, h b = none → B b = none → ∀ h' : Heap, h' = h.set b o → K b h') (ho : at1 N ops.toList i L = some ⟨some d, .box t x, ty, pos, aft, g⟩) (hx : lkO L x = some (.agg vs.toArray)) (hv : o = .vec t (plains vs) vs.length)
    (hr : ∀ b h', K b h' → Run P B N (.inRegion ops idx :: k) (updL ((d, .pointer (some ⟨b, 0, none⟩)) :: L) e) h' Φ) : Run P B N (.inRegion ops (i :: idx) :: k) (updL L e) h Φ := by
  subst hv
  exact zg ho (sem_boxN vs (lkO_eval hx) fun b h1 h2 => hr b _ (s b h1 h2 _ rfl))
theorem zt {p S1 S2 : Prop} {w : BinOp} {t' : TypeId} {y : Operand} {kk : IntKind} {a b : Int} (s : (p → S1) ∧ (¬ p → S2)) (ho : at1 N ops.toList i L = some ⟨some d, .binOp w t x y t', ty, pos, aft, g⟩) (hx : lkO L x = some (.int kk a)) (hy : lkO L y = some (.int kk b))
    (hT : p → binI w kk a b = some (.bool true)) (hF : ¬ p → binI w kk a b = some (.bool false))
    (h1 : S1 → Run P B N (.inRegion ops idx :: k) (updL ((d, .bool true) :: L) e) h Φ) (h2 : S2 → Run P B N (.inRegion ops idx :: k) (updL ((d, .bool false) :: L) e) h Φ) : Run P B N (.inRegion ops (i :: idx) :: k) (updL L e) h Φ := by
  by_cases hp : p
  · exact zg ho (sem_binI kk a b _ (lkO_eval hx) (lkO_eval hy) (hT hp) (h1 (s.1 hp)))
  · exact zg ho (sem_binI kk a b _ (lkO_eval hx) (lkO_eval hy) (hF hp) (h2 (s.2 hp)))
theorem zu {p S1 S2 : Prop} {w : BinOp} {t' : TypeId} {y : Operand} {kk : IntKind} {a b : Int} (s : (p → S1) ∧ (¬ p → S2)) (ho : at1 N ops.toList i L = some ⟨some d, .binOp w t x y t', ty, pos, aft, g⟩) (hx : lkO L x = some (.int kk a)) (hy : lkO L y = some (.int kk b))
    (hT : p → binI w kk a b = some (.bool false)) (hF : ¬ p → binI w kk a b = some (.bool true))
    (h1 : S1 → Run P B N (.inRegion ops idx :: k) (updL ((d, .bool false) :: L) e) h Φ) (h2 : S2 → Run P B N (.inRegion ops idx :: k) (updL ((d, .bool true) :: L) e) h Φ) : Run P B N (.inRegion ops (i :: idx) :: k) (updL L e) h Φ := by
  by_cases hp : p
  · exact zg ho (sem_binI kk a b _ (lkO_eval hx) (lkO_eval hy) (hT hp) (h1 (s.1 hp)))
  · exact zg ho (sem_binI kk a b _ (lkO_eval hx) (lkO_eval hy) (hF hp) (h2 (s.2 hp)))
end
section
variable {P : Program} {B : RO} {h : Heap} {ρ : Operand → Value} {d : Option Nat} {ty : TypeId} {pos : String} {aft : Array Edge} {g : Option (Nat × Bool)} {K : Next → Heap → Prop}
end
end Go.Proofs.Ytgldgabefiialaa.H
namespace Go.Proofs.Ytgldgabefiialaa.H
open Go
set_option linter.unusedVariables false
set_option maxRecDepth 100000
set_option maxHeartbeats 4000000
noncomputable abbrev PG : Program := Go.Proofs.Try.prog
abbrev TY.int : TypeId := 3
abbrev TY.bool : TypeId := 4
abbrev TY.string : TypeId := 9
abbrev TY.s_int : TypeId := 22
abbrev TY.p_attempt_View : TypeId := 24
abbrev TY.s_p_attempt_Attempt : TypeId := 26
abbrev TY.p_attempt_Attempt : TypeId := 27
abbrev TY.api_Regs : TypeId := 30
abbrev TY.p_tome_Tome : TypeId := 34
abbrev TY.attempt_View : TypeId := 37
abbrev TY.p_draft_Draft_int : TypeId := 51
abbrev TY.mark_State : TypeId := 55
abbrev TY.acts_Acts : TypeId := 61
abbrev TY.mark_Stack : TypeId := 65
abbrev TY.attempt_Attempt : TypeId := 67
abbrev TY.cell_slot_int : TypeId := 77
abbrev TY.s_cell_slot_int : TypeId := 78
abbrev TY.cell_Row_int : TypeId := 80
abbrev TY.feed_Feed : TypeId := 83
abbrev TY.reads_Kind : TypeId := 85
abbrev TY.file_File : TypeId := 92
abbrev TY.tome_Tome : TypeId := 94
abbrev TY.s_reads_Entry : TypeId := 95
abbrev TY.reads_Set : TypeId := 97
abbrev TY.s_draft_entry_int : TypeId := 98
abbrev TY.draft_Draft_int : TypeId := 100
abbrev TY.cursor_Cursor : TypeId := 104
abbrev TY.draft_entry_int : TypeId := 106
abbrev TY.reads_Now : TypeId := 112
abbrev TY.p_draft_Draft_file_File : TypeId := 116
abbrev TY.s_cell_slot_file_File : TypeId := 121
abbrev TY.cell_Row_file_File : TypeId := 123
abbrev TY.cell_slot_file_File : TypeId := 125
abbrev TY.draft_Draft_file_File : TypeId := 128
abbrev TY.sheet_Sheet : TypeId := 130
abbrev TY.reads_Entry : TypeId := 136
abbrev TY.draft_entry_file_File : TypeId := 142
abbrev TY.mark_Mark : TypeId := 171
theorem TF.agg_106 : aggB PG 106 = some true := by kernel_rfl
theorem TF.agg_112 : aggB PG 112 = some true := by kernel_rfl
theorem TF.agg_116 : aggB PG 116 = some false := by kernel_rfl
theorem TF.agg_121 : aggB PG 121 = some false := by kernel_rfl
theorem TF.agg_126 : aggB PG 126 = some false := by kernel_rfl
theorem TF.agg_136 : aggB PG 136 = some true := by kernel_rfl
theorem TF.agg_142 : aggB PG 142 = some true := by kernel_rfl
theorem TF.agg_24 : aggB PG 24 = some false := by kernel_rfl
theorem TF.agg_27 : aggB PG 27 = some false := by kernel_rfl
theorem TF.agg_3 : aggB PG 3 = some false := by kernel_rfl
theorem TF.agg_30 : aggB PG 30 = some true := by kernel_rfl
theorem TF.agg_33 : aggB PG 33 = some false := by kernel_rfl
theorem TF.agg_34 : aggB PG 34 = some false := by kernel_rfl
theorem TF.agg_35 : aggB PG 35 = some false := by kernel_rfl
theorem TF.agg_4 : aggB PG 4 = some false := by kernel_rfl
theorem TF.agg_49 : aggB PG 49 = some false := by kernel_rfl
theorem TF.agg_51 : aggB PG 51 = some false := by kernel_rfl
theorem TF.agg_52 : aggB PG 52 = some false := by kernel_rfl
theorem TF.agg_53 : aggB PG 53 = some false := by kernel_rfl
theorem TF.agg_55 : aggB PG 55 = some true := by kernel_rfl
theorem TF.agg_78 : aggB PG 78 = some false := by kernel_rfl
theorem TF.agg_85 : aggB PG 85 = some false := by kernel_rfl
theorem TF.agg_89 : aggB PG 89 = some false := by kernel_rfl
theorem TF.agg_9 : aggB PG 9 = some false := by kernel_rfl
theorem TF.agg_92 : aggB PG 92 = some true := by kernel_rfl
theorem TF.agg_95 : aggB PG 95 = some false := by kernel_rfl
theorem TF.agg_98 : aggB PG 98 = some false := by kernel_rfl
theorem TF.arr_102 : arrB PG 102 = some (3, 3, 1, false) := by kernel_rfl
theorem TF.arr_109 : arrB PG 109 = some (8, 3, 1, false) := by kernel_rfl
theorem TF.arr_110 : arrB PG 110 = some (3, 109, 8, true) := by kernel_rfl
theorem TF.arr_30 : arrB PG 30 = some (4, 3, 1, false) := by kernel_rfl
theorem TF.arr_81 : arrB PG 81 = some (3, 9, 1, false) := by kernel_rfl
theorem TF.goes_10 : Goes PG 10 := ⟨Try.f10, Try.func10, by kernel_rfl, by kernel_rfl⟩
theorem TF.goes_14 : Goes PG 14 := ⟨Try.f14, Try.func14, by kernel_rfl, by kernel_rfl⟩
theorem TF.goes_15 : Goes PG 15 := ⟨Try.f15, Try.func15, by kernel_rfl, by kernel_rfl⟩
theorem TF.goes_16 : Goes PG 16 := ⟨Try.f16, Try.func16, by kernel_rfl, by kernel_rfl⟩
theorem TF.goes_17 : Goes PG 17 := ⟨Try.f17, Try.func17, by kernel_rfl, by kernel_rfl⟩
theorem TF.goes_18 : Goes PG 18 := ⟨Try.f18, Try.func18, by kernel_rfl, by kernel_rfl⟩
theorem TF.goes_19 : Goes PG 19 := ⟨Try.f19, Try.func19, by kernel_rfl, by kernel_rfl⟩
theorem TF.goes_20 : Goes PG 20 := ⟨Try.f20, Try.func20, by kernel_rfl, by kernel_rfl⟩
theorem TF.goes_21 : Goes PG 21 := ⟨Try.f21, Try.func21, by kernel_rfl, by kernel_rfl⟩
theorem TF.goes_22 : Goes PG 22 := ⟨Try.f22, Try.func22, by kernel_rfl, by kernel_rfl⟩
theorem TF.goes_23 : Goes PG 23 := ⟨Try.f23, Try.func23, by kernel_rfl, by kernel_rfl⟩
theorem TF.goes_24 : Goes PG 24 := ⟨Try.f24, Try.func24, by kernel_rfl, by kernel_rfl⟩
theorem TF.goes_25 : Goes PG 25 := ⟨Try.f25, Try.func25, by kernel_rfl, by kernel_rfl⟩
theorem TF.goes_26 : Goes PG 26 := ⟨Try.f26, Try.func26, by kernel_rfl, by kernel_rfl⟩
theorem TF.goes_27 : Goes PG 27 := ⟨Try.f27, Try.func27, by kernel_rfl, by kernel_rfl⟩
theorem TF.goes_28 : Goes PG 28 := ⟨Try.f28, Try.func28, by kernel_rfl, by kernel_rfl⟩
theorem TF.goes_29 : Goes PG 29 := ⟨Try.f29, Try.func29, by kernel_rfl, by kernel_rfl⟩
theorem TF.goes_3 : Goes PG 3 := ⟨Try.f3, Try.func3, by kernel_rfl, by kernel_rfl⟩
theorem TF.goes_30 : Goes PG 30 := ⟨Try.f30, Try.func30, by kernel_rfl, by kernel_rfl⟩
theorem TF.goes_35 : Goes PG 35 := ⟨Try.f35, Try.func35, by kernel_rfl, by kernel_rfl⟩
theorem TF.goes_36 : Goes PG 36 := ⟨Try.f36, Try.func36, by kernel_rfl, by kernel_rfl⟩
theorem TF.goes_37 : Goes PG 37 := ⟨Try.f37, Try.func37, by kernel_rfl, by kernel_rfl⟩
theorem TF.goes_38 : Goes PG 38 := ⟨Try.f38, Try.func38, by kernel_rfl, by kernel_rfl⟩
theorem TF.goes_39 : Goes PG 39 := ⟨Try.f39, Try.func39, by kernel_rfl, by kernel_rfl⟩
theorem TF.goes_40 : Goes PG 40 := ⟨Try.f40, Try.func40, by kernel_rfl, by kernel_rfl⟩
theorem TF.goes_41 : Goes PG 41 := ⟨Try.f41, Try.func41, by kernel_rfl, by kernel_rfl⟩
theorem TF.goes_42 : Goes PG 42 := ⟨Try.f42, Try.func42, by kernel_rfl, by kernel_rfl⟩
theorem TF.goes_43 : Goes PG 43 := ⟨Try.f43, Try.func43, by kernel_rfl, by kernel_rfl⟩
theorem TF.goes_44 : Goes PG 44 := ⟨Try.f44, Try.func44, by kernel_rfl, by kernel_rfl⟩
theorem TF.goes_45 : Goes PG 45 := ⟨Try.f45, Try.func45, by kernel_rfl, by kernel_rfl⟩
theorem TF.goes_46 : Goes PG 46 := ⟨Try.f46, Try.func46, by kernel_rfl, by kernel_rfl⟩
theorem TF.goes_47 : Goes PG 47 := ⟨Try.f47, Try.func47, by kernel_rfl, by kernel_rfl⟩
theorem TF.goes_48 : Goes PG 48 := ⟨Try.f48, Try.func48, by kernel_rfl, by kernel_rfl⟩
theorem TF.goes_49 : Goes PG 49 := ⟨Try.f49, Try.func49, by kernel_rfl, by kernel_rfl⟩
theorem TF.goes_5 : Goes PG 5 := ⟨Try.f5, Try.func5, by kernel_rfl, by kernel_rfl⟩
theorem TF.goes_51 : Goes PG 51 := ⟨Try.f51, Try.func51, by kernel_rfl, by kernel_rfl⟩
theorem TF.goes_52 : Goes PG 52 := ⟨Try.f52, Try.func52, by kernel_rfl, by kernel_rfl⟩
theorem TF.goes_53 : Goes PG 53 := ⟨Try.f53, Try.func53, by kernel_rfl, by kernel_rfl⟩
theorem TF.goes_54 : Goes PG 54 := ⟨Try.f54, Try.func54, by kernel_rfl, by kernel_rfl⟩
theorem TF.goes_55 : Goes PG 55 := ⟨Try.f55, Try.func55, by kernel_rfl, by kernel_rfl⟩
theorem TF.goes_56 : Goes PG 56 := ⟨Try.f56, Try.func56, by kernel_rfl, by kernel_rfl⟩
theorem TF.goes_57 : Goes PG 57 := ⟨Try.f57, Try.func57, by kernel_rfl, by kernel_rfl⟩
theorem TF.goes_58 : Goes PG 58 := ⟨Try.f58, Try.func58, by kernel_rfl, by kernel_rfl⟩
theorem TF.goes_6 : Goes PG 6 := ⟨Try.f6, Try.func6, by kernel_rfl, by kernel_rfl⟩
theorem TF.goes_60 : Goes PG 60 := ⟨Try.f60, Try.func60, by kernel_rfl, by kernel_rfl⟩
theorem TF.goes_61 : Goes PG 61 := ⟨Try.f61, Try.func61, by kernel_rfl, by kernel_rfl⟩
theorem TF.goes_62 : Goes PG 62 := ⟨Try.f62, Try.func62, by kernel_rfl, by kernel_rfl⟩
theorem TF.goes_63 : Goes PG 63 := ⟨Try.f63, Try.func63, by kernel_rfl, by kernel_rfl⟩
theorem TF.goes_7 : Goes PG 7 := ⟨Try.f7, Try.func7, by kernel_rfl, by kernel_rfl⟩
theorem TF.goes_8 : Goes PG 8 := ⟨Try.f8, Try.func8, by kernel_rfl, by kernel_rfl⟩
theorem TF.goes_9 : Goes PG 9 := ⟨Try.f9, Try.func9, by kernel_rfl, by kernel_rfl⟩
theorem TF.goesx_50 : GoesX PG 50 (Extern.SlicesOverlaps.overlaps #[98, 98] #[4]) := ⟨Try.f50, Try.func50, by kernel_rfl, by kernel_rfl, by kernel_rfl, by kernel_rfl⟩
theorem TF.int_144 : intB PG 144 = some .u64 := by kernel_rfl
theorem TF.int_3 : intB PG 3 = some .i64 := by kernel_rfl
theorem TF.isStr_9 : isStr PG 9 = true := by kernel_rfl
theorem TF.mixed : PG.follows .mixedOrders = true := by kernel_rfl
theorem TF.places_100 : strPlaces PG 100 = some [(0, 1)] := by kernel_rfl
theorem TF.places_104 : strPlaces PG 104 = some [(0, 3)] := by kernel_rfl
theorem TF.places_106 : strPlaces PG 106 = some [(0, 1), (1, 1)] := by kernel_rfl
theorem TF.places_112 : strPlaces PG 112 = some [(0, 24), (24, 1)] := by kernel_rfl
theorem TF.places_123 : strPlaces PG 123 = some [(0, 1)] := by kernel_rfl
theorem TF.places_125 : strPlaces PG 125 = some [(0, 2), (2, 1)] := by kernel_rfl
theorem TF.places_128 : strPlaces PG 128 = some [(0, 1)] := by kernel_rfl
theorem TF.places_130 : strPlaces PG 130 = some [(0, 1)] := by kernel_rfl
theorem TF.places_136 : strPlaces PG 136 = some [(0, 1), (1, 1), (2, 1)] := by kernel_rfl
theorem TF.places_37 : strPlaces PG 37 = some [(0, 1), (1, 1), (2, 1), (3, 1)] := by kernel_rfl
theorem TF.places_55 : strPlaces PG 55 = some [(0, 1), (1, 1), (2, 1), (3, 4)] := by kernel_rfl
theorem TF.places_61 : strPlaces PG 61 = some [(0, 1), (1, 1), (2, 1), (3, 1)] := by kernel_rfl
theorem TF.places_65 : strPlaces PG 65 = some [(0, 1)] := by kernel_rfl
theorem TF.places_67 : strPlaces PG 67 = some [(0, 1), (1, 1), (2, 7), (9, 1), (10, 1)] := by kernel_rfl
theorem TF.places_77 : strPlaces PG 77 = some [(0, 1), (1, 1)] := by kernel_rfl
theorem TF.places_80 : strPlaces PG 80 = some [(0, 1)] := by kernel_rfl
theorem TF.places_83 : strPlaces PG 83 = some [(0, 3), (3, 1)] := by kernel_rfl
theorem TF.places_92 : strPlaces PG 92 = some [(0, 1), (1, 1)] := by kernel_rfl
theorem TF.places_94 : strPlaces PG 94 = some [(0, 1)] := by kernel_rfl
theorem TF.places_97 : strPlaces PG 97 = some [(0, 1), (1, 1)] := by kernel_rfl
theorem TF.ptr_116 : ptrB PG 116 = true := by kernel_rfl
theorem TF.ptr_24 : ptrB PG 24 = true := by kernel_rfl
theorem TF.ptr_27 : ptrB PG 27 = true := by kernel_rfl
theorem TF.ptr_33 : ptrB PG 33 = true := by kernel_rfl
theorem TF.ptr_34 : ptrB PG 34 = true := by kernel_rfl
theorem TF.ptr_35 : ptrB PG 35 = true := by kernel_rfl
theorem TF.ptr_49 : ptrB PG 49 = true := by kernel_rfl
theorem TF.ptr_51 : ptrB PG 51 = true := by kernel_rfl
theorem TF.ptr_52 : ptrB PG 52 = true := by kernel_rfl
theorem TF.ptr_53 : ptrB PG 53 = true := by kernel_rfl
theorem TF.ptr_89 : ptrB PG 89 = true := by kernel_rfl
theorem TF.sl_121 : slT PG 121 = true := by kernel_rfl
theorem TF.sl_126 : slT PG 126 = true := by kernel_rfl
theorem TF.sl_22 : slT PG 22 = true := by kernel_rfl
theorem TF.sl_26 : slT PG 26 = true := by kernel_rfl
theorem TF.sl_78 : slT PG 78 = true := by kernel_rfl
theorem TF.sl_95 : slT PG 95 = true := by kernel_rfl
theorem TF.sl_98 : slT PG 98 = true := by kernel_rfl
theorem TF.slc_121 : slcB PG 121 = some (125, 3, 32) := by kernel_rfl
theorem TF.slc_126 : slcB PG 126 = some (142, 3, 32) := by kernel_rfl
theorem TF.slc_22 : slcB PG 22 = some (3, 1, 8) := by kernel_rfl
theorem TF.slc_26 : slcB PG 26 = some (27, 1, 8) := by kernel_rfl
theorem TF.slc_78 : slcB PG 78 = some (77, 2, 16) := by kernel_rfl
theorem TF.slc_95 : slcB PG 95 = some (136, 3, 24) := by kernel_rfl
theorem TF.slc_98 : slcB PG 98 = some (106, 2, 16) := by kernel_rfl
theorem TF.sz_106 : szB PG 106 = some 2 := by kernel_rfl
theorem TF.sz_112 : szB PG 112 = some 25 := by kernel_rfl
theorem TF.sz_121 : szB PG 121 = some 1 := by kernel_rfl
theorem TF.sz_125 : szB PG 125 = some 3 := by kernel_rfl
theorem TF.sz_136 : szB PG 136 = some 3 := by kernel_rfl
theorem TF.sz_142 : szB PG 142 = some 3 := by kernel_rfl
theorem TF.sz_24 : szB PG 24 = some 1 := by kernel_rfl
theorem TF.sz_3 : szB PG 3 = some 1 := by kernel_rfl
theorem TF.sz_30 : szB PG 30 = some 4 := by kernel_rfl
theorem TF.sz_55 : szB PG 55 = some 7 := by kernel_rfl
theorem TF.sz_77 : szB PG 77 = some 2 := by kernel_rfl
theorem TF.sz_78 : szB PG 78 = some 1 := by kernel_rfl
theorem TF.sz_92 : szB PG 92 = some 2 := by kernel_rfl
theorem TF.sz_95 : szB PG 95 = some 1 := by kernel_rfl
theorem TF.sz_98 : szB PG 98 = some 1 := by kernel_rfl
theorem TF.zero_100 : zeroB PG 100 = some [(Value.slice none 0 0)] := by kernel_rfl
theorem TF.zero_104 : zeroB PG 104 = some [(Value.int .i64 (0)), (Value.int .i64 (0)), (Value.int .i64 (0))] := by kernel_rfl
theorem TF.zero_106 : zeroB PG 106 = some [(Value.int .i64 (0)), (Value.int .i64 (0))] := by kernel_rfl
theorem TF.zero_112 : zeroB PG 112 = some (List.replicate 25 (Value.int .i64 (0))) := by kernel_rfl
theorem TF.zero_123 : zeroB PG 123 = some [(Value.slice none 0 0)] := by kernel_rfl
theorem TF.zero_125 : zeroB PG 125 = some [(Value.bool false), (Value.string ByteArray.empty), (Value.int .i64 (0))] := by kernel_rfl
theorem TF.zero_128 : zeroB PG 128 = some [(Value.slice none 0 0)] := by kernel_rfl
theorem TF.zero_130 : zeroB PG 130 = some [(Value.pointer none)] := by kernel_rfl
theorem TF.zero_136 : zeroB PG 136 = some [(Value.int .i64 (0)), (Value.int .i64 (0)), (Value.int .i64 (0))] := by kernel_rfl
theorem TF.zero_142 : zeroB PG 142 = some [(Value.int .i64 (0)), (Value.bool false), (Value.string ByteArray.empty)] := by kernel_rfl
theorem TF.zero_24 : zeroB PG 24 = some [(Value.pointer none)] := by kernel_rfl
theorem TF.zero_27 : zeroB PG 27 = some [(Value.pointer none)] := by kernel_rfl
theorem TF.zero_3 : zeroB PG 3 = some [(Value.int .i64 (0))] := by kernel_rfl
theorem TF.zero_30 : zeroB PG 30 = some [(Value.int .i64 (0)), (Value.int .i64 (0)), (Value.int .i64 (0)), (Value.int .i64 (0))] := by kernel_rfl
theorem TF.zero_37 : zeroB PG 37 = some [(Value.pointer none), (Value.pointer none), (Value.pointer none), (Value.int .i64 (0))] := by kernel_rfl
theorem TF.zero_55 : zeroB PG 55 = some [(Value.pointer none), (Value.pointer none), (Value.pointer none), (Value.int .i64 (0)), (Value.int .i64 (0)), (Value.int .i64 (0)), (Value.int .i64 (0))] := by kernel_rfl
theorem TF.zero_61 : zeroB PG 61 = some [(Value.slice none 0 0), (Value.slice none 0 0), (Value.slice none 0 0), (Value.slice none 0 0)] := by kernel_rfl
theorem TF.zero_65 : zeroB PG 65 = some [(Value.slice none 0 0)] := by kernel_rfl
theorem TF.zero_67 : zeroB PG 67 = some [(Value.pointer none), (Value.pointer none), (Value.pointer none), (Value.pointer none), (Value.pointer none), (Value.int .i64 (0)), (Value.int .i64 (0)), (Value.int .i64 (0)), (Value.int .i64 (0)), (Value.pointer none), (Value.pointer none)] := by kernel_rfl
theorem TF.zero_77 : zeroB PG 77 = some [(Value.int .i64 (0)), (Value.int .i64 (0))] := by kernel_rfl
theorem TF.zero_80 : zeroB PG 80 = some [(Value.slice none 0 0)] := by kernel_rfl
theorem TF.zero_83 : zeroB PG 83 = some [(Value.string ByteArray.empty), (Value.string ByteArray.empty), (Value.string ByteArray.empty), (Value.pointer none)] := by kernel_rfl
theorem TF.zero_92 : zeroB PG 92 = some [(Value.bool false), (Value.string ByteArray.empty)] := by kernel_rfl
theorem TF.zero_94 : zeroB PG 94 = some [(Value.pointer none)] := by kernel_rfl
theorem TF.zero_97 : zeroB PG 97 = some [(Value.slice none 0 0), (Value.int .i64 (0))] := by kernel_rfl
def FT0 : FT := [(100, 0, 0), (104, 0, 0), (106, 0, 0), (106, 1, 1), (112, 0, 0), (112, 1, 24), (123, 0, 0), (125, 0, 0), (125, 1, 2), (128, 0, 0), (130, 0, 0), (136, 0, 0), (136, 1, 1), (136, 2, 2), (142, 0, 0), (142, 1, 1), (37, 0, 0), (37, 1, 1), (37, 2, 2), (37, 3, 3), (55, 0, 0), (55, 1, 1), (55, 2, 2), (67, 0, 0), (67, 1, 1), (67, 2, 2), (77, 0, 0), (77, 1, 1), (80, 0, 0), (83, 0, 0), (83, 1, 3), (92, 0, 0), (92, 1, 1), (94, 0, 0), (97, 0, 0), (97, 1, 1)]
theorem FT0_ok : FTok PG FT0 := ftB_ok (by kernel_rfl)
theorem au {B : RO} {N : Nat} {e : Env} {h : Heap} {Φ : Lv → Env → Heap → Prop} (n : Nat) {t t' : List Item} {L L' : LE} (ha : aut FT0 N n t L = some (t', L')) (hr : Run PG B N t' (updL L' e) h Φ) : Run PG B N t (updL L e) h Φ := aut_run FT0_ok n ha hr
theorem auT {B : RO} {N : Nat} {k : List Item} {e : Env} {h : Heap} {Φ : Lv → Env → Heap → Prop} {ops : Array Oper} {C : Heap → Prop} {z : List Nat} (n : Nat) {t t' : Ord} {L L' : LE} (ha : autT FT0 N ops.toList n t L = some (t', L')) (hr : RunT PG B N ops k Φ C z t' (updL L' e) h) : RunT PG B N ops k Φ C z t (updL L e) h := autT_run FT0_ok n ha hr
abbrev FN.countermandlaw20_AttemptBlind : FuncId := 3
abbrev FN.draft_Draft_int_All_1 : FuncId := 42
abbrev FN.draft_by_int : FuncId := 49
abbrev FN.draft_Draft_file_File_All_1 : FuncId := 55
abbrev FN.reads_Set_place_1 : FuncId := 63
theorem TG.countermandlaw20_AttemptBlind : Goes PG FN.countermandlaw20_AttemptBlind := TF.goes_3
theorem TG.draft_Draft_int_All_1 : Goes PG FN.draft_Draft_int_All_1 := TF.goes_42
theorem TG.draft_by_int : Goes PG FN.draft_by_int := TF.goes_49
theorem TG.draft_Draft_file_File_All_1 : Goes PG FN.draft_Draft_file_File_All_1 := TF.goes_55
theorem TG.reads_Set_place_1 : Goes PG FN.reads_Set_place_1 := TF.goes_63
def C_countermandlaw20_AttemptBlind (B : RO) (i1 : Int) (a2 : Option Addr) (n3 : Nat) (c4 : Nat) (h : Heap) (Q : Bool → Heap → Prop) : Prop :=
  Spec PG B 3 #[(Value.int .i64 (i1)), (Value.slice a2 n3 c4)] h (fun v h' => ∃ b5 : Bool, v = (Value.bool b5) ∧ Q b5 h')
def C_countermandlaw20_alive (B : RO) (h : Heap) (Q : Bool → Heap → Prop) : Prop :=
  Spec PG B 5 #[] h (fun v h' => ∃ b1 : Bool, v = (Value.bool b1) ∧ Q b1 h')
def C_attempt_NewView (B : RO) (h : Heap) (Q : Option Addr → Heap → Prop) : Prop :=
  Spec PG B 6 #[] h (fun v h' => ∃ p1 : Option Addr, v = (Value.pointer p1) ∧ Q p1 h')
def C_attempt_New (B : RO) (p1 : Option Addr) (i2 : Int) (i3 : Int) (i4 : Int) (i5 : Int) (h : Heap) (Q : Option Addr → Heap → Prop) : Prop :=
  Spec PG B 7 #[(Value.pointer p1), (Value.agg #[(Value.int .i64 (i2)), (Value.int .i64 (i3)), (Value.int .i64 (i4)), (Value.int .i64 (i5))])] h (fun v h' => ∃ p6 : Option Addr, v = (Value.pointer p6) ∧ Q p6 h')
def C_attempt_Attempt_Store (B : RO) (p1 : Option Addr) (i2 : Int) (i3 : Int) (h : Heap) (Q : Int → Heap → Prop) : Prop :=
  Spec PG B 8 #[(Value.pointer p1), (Value.int .i64 (i2)), (Value.int .i64 (i3))] h (fun v h' => ∃ i4 : Int, v = (Value.int .i64 (i4)) ∧ Q i4 h')
def C_attempt_Attempt_Land (B : RO) (p1 : Option Addr) (h : Heap) (Q : Bool → Heap → Prop) : Prop :=
  Spec PG B 9 #[(Value.pointer p1)] h (fun v h' => ∃ b2 : Bool, v = (Value.bool b2) ∧ Q b2 h')
def C_cell_Row_int_Get (B : RO) (p1 : Option Addr) (i2 : Int) (h : Heap) (Q : Int → Int → Heap → Prop) : Prop :=
  Spec PG B 10 #[(Value.pointer p1), (Value.int .i64 (i2))] h (fun v h' => ∃ i3 : Int, ∃ i4 : Int, v = Value.tuple #[(Value.int .i64 (i3)), (Value.int .i64 (i4))] ∧ Q i3 i4 h')
def C_attempt_Attempt_Load (B : RO) (p1 : Option Addr) (i2 : Int) (h : Heap) (Q : Int → Int → Heap → Prop) : Prop :=
  Spec PG B 14 #[(Value.pointer p1), (Value.int .i64 (i2))] h (fun v h' => ∃ i3 : Int, ∃ i4 : Int, v = Value.tuple #[(Value.int .i64 (i3)), (Value.int .i64 (i4))] ∧ Q i3 i4 h')
def C_cell_New_int (B : RO) (i1 : Int) (i2 : Int) (h : Heap) (Q : Option Addr → Heap → Prop) : Prop :=
  Spec PG B 15 #[(Value.int .i64 (i1)), (Value.int .i64 (i2))] h (fun v h' => ∃ p3 : Option Addr, v = (Value.pointer p3) ∧ Q p3 h')
def C_tome_New (B : RO) (h : Heap) (Q : Option Addr → Heap → Prop) : Prop :=
  Spec PG B 16 #[] h (fun v h' => ∃ p1 : Option Addr, v = (Value.pointer p1) ∧ Q p1 h')
def C_feed_New (B : RO) (h : Heap) (Q : Option Addr → Heap → Prop) : Prop :=
  Spec PG B 17 #[] h (fun v h' => ∃ p1 : Option Addr, v = (Value.pointer p1) ∧ Q p1 h')
def C_reads_New (B : RO) (i1 : Int) (h : Heap) (Q : Option Addr → Heap → Prop) : Prop :=
  Spec PG B 18 #[(Value.int .i64 (i1))] h (fun v h' => ∃ p2 : Option Addr, v = (Value.pointer p2) ∧ Q p2 h')
def C_mark_Fresh (B : RO) (i1 : Int) (i2 : Int) (i3 : Int) (i4 : Int) (h : Heap) (Q : Option Addr → Option Addr → Option Addr → Int → Int → Int → Int → Heap → Prop) : Prop :=
  Spec PG B 19 #[(Value.agg #[(Value.int .i64 (i1)), (Value.int .i64 (i2)), (Value.int .i64 (i3)), (Value.int .i64 (i4))])] h (fun v h' => ∃ p5 : Option Addr, ∃ p6 : Option Addr, ∃ p7 : Option Addr, ∃ i8 : Int, ∃ i9 : Int, ∃ i10 : Int, ∃ i11 : Int, v = (Value.agg #[(Value.pointer p5), (Value.pointer p6), (Value.pointer p7), (Value.int .i64 (i8)), (Value.int .i64 (i9)), (Value.int .i64 (i10)), (Value.int .i64 (i11))]) ∧ Q p5 p6 p7 i8 i9 i10 i11 h')
def C_draft_Draft_int_Put (B : RO) (p1 : Option Addr) (i2 : Int) (i3 : Int) (h : Heap) (Q : Bool → Heap → Prop) : Prop :=
  Spec PG B 20 #[(Value.pointer p1), (Value.int .i64 (i2)), (Value.int .i64 (i3))] h (fun v h' => ∃ b4 : Bool, v = (Value.bool b4) ∧ Q b4 h')
def C_attempt_Attempt_Valid (B : RO) (p1 : Option Addr) (h : Heap) (Q : Bool → Heap → Prop) : Prop :=
  Spec PG B 21 #[(Value.pointer p1)] h (fun v h' => ∃ b2 : Bool, v = (Value.bool b2) ∧ Q b2 h')
def C_draft_Draft_int_All (B : RO) (p1 : Option Addr) (h : Heap) (Q : Value → Heap → Prop) : Prop :=
  Spec PG B 22 #[(Value.pointer p1)] h (fun v h' => ∃ v2 : Value, v = v2 ∧ Q v2 h')
def C_cell_Row_int_Set (B : RO) (p1 : Option Addr) (i2 : Int) (i3 : Int) (i4 : Int) (h : Heap) (Q : Bool → Heap → Prop) : Prop :=
  Spec PG B 23 #[(Value.pointer p1), (Value.int .i64 (i2)), (Value.int .i64 (i3)), (Value.int .i64 (i4))] h (fun v h' => ∃ b5 : Bool, v = (Value.bool b5) ∧ Q b5 h')
def C_sheet_Sheet_Over (B : RO) (p1 : Option Addr) (p2 : Option Addr) (i3 : Int) (h : Heap) (Q : Int → Heap → Prop) : Prop :=
  Spec PG B 24 #[(Value.pointer p1), (Value.pointer p2), (Value.int .i64 (i3))] h (fun v h' => ∃ i4 : Int, v = (Value.int .i64 (i4)) ∧ Q i4 h')
def C_cursor_Cursor_Read (B : RO) (p1 : Option Addr) (i2 : Int) (h : Heap) (Q : Int → Heap → Prop) : Prop :=
  Spec PG B 25 #[(Value.pointer p1), (Value.int .i64 (i2))] h (fun v h' => ∃ i3 : Int, v = (Value.int .i64 (i3)) ∧ Q i3 h')
def C_feed_Feed_Place (B : RO) (p1 : Option Addr) (i2 : Int) (h : Heap) (Q : Int → Int → Heap → Prop) : Prop :=
  Spec PG B 26 #[(Value.pointer p1), (Value.int .i64 (i2))] h (fun v h' => ∃ i3 : Int, ∃ i4 : Int, v = Value.tuple #[(Value.int .i64 (i3)), (Value.int .i64 (i4))] ∧ Q i3 i4 h')
def C_feed_Feed_Take (B : RO) (p1 : Option Addr) (i2 : Int) (i3 : Int) (i4 : Int) (h : Heap) (Q : Bool → Heap → Prop) : Prop :=
  Spec PG B 27 #[(Value.pointer p1), (Value.int .i64 (i2)), (Value.int .i64 (i3)), (Value.int .i64 (i4))] h (fun v h' => ∃ b5 : Bool, v = (Value.bool b5) ∧ Q b5 h')
def C_cell_Row_int_is (B : RO) (p1 : Option Addr) (i2 : Int) (h : Heap) (Q : Bool → Heap → Prop) : Prop :=
  Spec PG B 28 #[(Value.pointer p1), (Value.int .i64 (i2))] h (fun v h' => ∃ b3 : Bool, v = (Value.bool b3) ∧ Q b3 h')
def C_feed_Feed_is (B : RO) (p1 : Option Addr) (i2 : Int) (h : Heap) (Q : Bool → Heap → Prop) : Prop :=
  Spec PG B 29 #[(Value.pointer p1), (Value.int .i64 (i2))] h (fun v h' => ∃ b3 : Bool, v = (Value.bool b3) ∧ Q b3 h')
def C_attempt_Attempt_note (B : RO) (p1 : Option Addr) (i2 : Int) (i3 : Int) (h : Heap) (Q : Int → Heap → Prop) : Prop :=
  Spec PG B 30 #[(Value.pointer p1), (Value.int .i64 (i2)), (Value.int .i64 (i3))] h (fun v h' => ∃ i4 : Int, v = (Value.int .i64 (i4)) ∧ Q i4 h')
def C_draft_Draft_int_Get (B : RO) (p1 : Option Addr) (i2 : Int) (h : Heap) (Q : Int → Bool → Heap → Prop) : Prop :=
  Spec PG B 35 #[(Value.pointer p1), (Value.int .i64 (i2))] h (fun v h' => ∃ i3 : Int, ∃ b4 : Bool, v = Value.tuple #[(Value.int .i64 (i3)), (Value.bool b4)] ∧ Q i3 b4 h')
def C_cell_New_file_File (B : RO) (i1 : Int) (b2 : Bool) (s3 : ByteArray) (h : Heap) (Q : Option Addr → Heap → Prop) : Prop :=
  Spec PG B 36 #[(Value.int .i64 (i1)), (Value.agg #[(Value.bool b2), (Value.string s3)])] h (fun v h' => ∃ p4 : Option Addr, v = (Value.pointer p4) ∧ Q p4 h')
def C_sheet_New (B : RO) (h : Heap) (Q : Option Addr → Heap → Prop) : Prop :=
  Spec PG B 37 #[] h (fun v h' => ∃ p1 : Option Addr, v = (Value.pointer p1) ∧ Q p1 h')
def C_draft_Draft_int_find (B : RO) (p1 : Option Addr) (i2 : Int) (h : Heap) (Q : Int → Bool → Heap → Prop) : Prop :=
  Spec PG B 38 #[(Value.pointer p1), (Value.int .i64 (i2))] h (fun v h' => ∃ i3 : Int, ∃ b4 : Bool, v = Value.tuple #[(Value.int .i64 (i3)), (Value.bool b4)] ∧ Q i3 b4 h')
def C_slices_Insert_s_draft_entry_int_draft_entry_int (B : RO) (a1 : Option Addr) (n2 : Nat) (c3 : Nat) (i4 : Int) (a5 : Option Addr) (n6 : Nat) (c7 : Nat) (h : Heap) (Q : Option Addr → Nat → Nat → Heap → Prop) : Prop :=
  Spec PG B 39 #[(Value.slice a1 n2 c3), (Value.int .i64 (i4)), (Value.slice a5 n6 c7)] h (fun v h' => ∃ a8 : Option Addr, ∃ n9 : Nat, ∃ c10 : Nat, v = (Value.slice a8 n9 c10) ∧ Q a8 n9 c10 h')
def C_reads_Set_Valid (B : RO) (p1 : Option Addr) (l2 : List Value) (h : Heap) (Q : Bool → Heap → Prop) : Prop :=
  Spec PG B 40 #[(Value.pointer p1), (Value.agg (List.toArray l2))] h (fun v h' => ∃ b3 : Bool, v = (Value.bool b3) ∧ Q b3 h')
def C_attempt_View_Now (B : RO) (p1 : Option Addr) (h : Heap) (Q : List Value → Heap → Prop) : Prop :=
  Spec PG B 41 #[(Value.pointer p1)] h (fun v h' => ∃ l2 : List Value, v = (Value.agg (List.toArray l2)) ∧ Q l2 h')
def C_draft_Draft_int_All_1 (B : RO) (v1 : Value) (A2 : Addr) (h : Heap) (Q : Heap → Prop) : Prop :=
  Spec PG B 42 #[v1, (Value.pointer (some A2))] h (fun v h' => v = Value.tuple #[] ∧ Q  h')
def C_sheet_Sheet_Draft (B : RO) (p1 : Option Addr) (h : Heap) (Q : Option Addr → Heap → Prop) : Prop :=
  Spec PG B 43 #[(Value.pointer p1)] h (fun v h' => ∃ p2 : Option Addr, v = (Value.pointer p2) ∧ Q p2 h')
def C_draft_Draft_file_File_All (B : RO) (p1 : Option Addr) (h : Heap) (Q : Value → Heap → Prop) : Prop :=
  Spec PG B 44 #[(Value.pointer p1)] h (fun v h' => ∃ v2 : Value, v = v2 ∧ Q v2 h')
def C_tome_Tome_Set (B : RO) (p1 : Option Addr) (i2 : Int) (b3 : Bool) (s4 : ByteArray) (i5 : Int) (h : Heap) (Q : Bool → Heap → Prop) : Prop :=
  Spec PG B 45 #[(Value.pointer p1), (Value.int .i64 (i2)), (Value.agg #[(Value.bool b3), (Value.string s4)]), (Value.int .i64 (i5))] h (fun v h' => ∃ b6 : Bool, v = (Value.bool b6) ∧ Q b6 h')
def C_cursor_is (B : RO) (i1 : Int) (h : Heap) (Q : Bool → Heap → Prop) : Prop :=
  Spec PG B 46 #[(Value.int .i64 (i1))] h (fun v h' => ∃ b2 : Bool, v = (Value.bool b2) ∧ Q b2 h')
def C_reads_Set_Note (B : RO) (p1 : Option Addr) (l2 : List Value) (i3 : Int) (i4 : Int) (h : Heap) (Q : Bool → Heap → Prop) : Prop :=
  Spec PG B 47 #[(Value.pointer p1), (Value.agg (List.toArray l2)), (Value.int .i64 (i3)), (Value.int .i64 (i4))] h (fun v h' => ∃ b5 : Bool, v = (Value.bool b5) ∧ Q b5 h')
def C_slices_BinarySearchFunc_s_draft_entry_int_draft_entry_int_int (B : RO) (a1 : Option Addr) (n2 : Nat) (c3 : Nat) (i4 : Int) (v5 : Value) (h : Heap) (Q : Int → Bool → Heap → Prop) : Prop :=
  Spec PG B 48 #[(Value.slice a1 n2 c3), (Value.int .i64 (i4)), v5] h (fun v h' => ∃ i6 : Int, ∃ b7 : Bool, v = Value.tuple #[(Value.int .i64 (i6)), (Value.bool b7)] ∧ Q i6 b7 h')
def C_draft_by_int (B : RO) (i1 : Int) (i2 : Int) (i3 : Int) (h : Heap) (Q : Int → Heap → Prop) : Prop :=
  Spec PG B 49 #[(Value.agg #[(Value.int .i64 (i1)), (Value.int .i64 (i2))]), (Value.int .i64 (i3))] h (fun v h' => ∃ i4 : Int, v = (Value.int .i64 (i4)) ∧ Q i4 h')
def C_slices_rotateRight_draft_entry_int (B : RO) (a1 : Option Addr) (n2 : Nat) (c3 : Nat) (i4 : Int) (h : Heap) (Q : Heap → Prop) : Prop :=
  Spec PG B 51 #[(Value.slice a1 n2 c3), (Value.int .i64 (i4))] h (fun v h' => v = Value.tuple #[] ∧ Q  h')
def C_reads_Now_Of (B : RO) (l1 : List Value) (i2 : Int) (i3 : Int) (h : Heap) (Q : Int → Heap → Prop) : Prop :=
  Spec PG B 52 #[(Value.agg (List.toArray l1)), (Value.int .i64 (i2)), (Value.int .i64 (i3))] h (fun v h' => ∃ i4 : Int, v = (Value.int .i64 (i4)) ∧ Q i4 h')
def C_cell_Row_int_Version (B : RO) (p1 : Option Addr) (i2 : Int) (h : Heap) (Q : Int → Heap → Prop) : Prop :=
  Spec PG B 53 #[(Value.pointer p1), (Value.int .i64 (i2))] h (fun v h' => ∃ i3 : Int, v = (Value.int .i64 (i3)) ∧ Q i3 h')
def C_tome_Tome_Get (B : RO) (p1 : Option Addr) (i2 : Int) (h : Heap) (Q : Bool → ByteArray → Int → Heap → Prop) : Prop :=
  Spec PG B 54 #[(Value.pointer p1), (Value.int .i64 (i2))] h (fun v h' => ∃ b3 : Bool, ∃ s4 : ByteArray, ∃ i5 : Int, v = Value.tuple #[(Value.agg #[(Value.bool b3), (Value.string s4)]), (Value.int .i64 (i5))] ∧ Q b3 s4 i5 h')
def C_draft_Draft_file_File_All_1 (B : RO) (v1 : Value) (A2 : Addr) (h : Heap) (Q : Heap → Prop) : Prop :=
  Spec PG B 55 #[v1, (Value.pointer (some A2))] h (fun v h' => v = Value.tuple #[] ∧ Q  h')
def C_file_Good (B : RO) (b1 : Bool) (s2 : ByteArray) (h : Heap) (Q : Bool → Heap → Prop) : Prop :=
  Spec PG B 56 #[(Value.agg #[(Value.bool b1), (Value.string s2)])] h (fun v h' => ∃ b3 : Bool, v = (Value.bool b3) ∧ Q b3 h')
def C_cell_Row_file_File_Set (B : RO) (p1 : Option Addr) (i2 : Int) (b3 : Bool) (s4 : ByteArray) (i5 : Int) (h : Heap) (Q : Bool → Heap → Prop) : Prop :=
  Spec PG B 57 #[(Value.pointer p1), (Value.int .i64 (i2)), (Value.agg #[(Value.bool b3), (Value.string s4)]), (Value.int .i64 (i5))] h (fun v h' => ∃ b6 : Bool, v = (Value.bool b6) ∧ Q b6 h')
def C_reads_Set_place (B : RO) (p1 : Option Addr) (i2 : Int) (i3 : Int) (h : Heap) (Q : Int → Heap → Prop) : Prop :=
  Spec PG B 58 #[(Value.pointer p1), (Value.int .i64 (i2)), (Value.int .i64 (i3))] h (fun v h' => ∃ i4 : Int, v = (Value.int .i64 (i4)) ∧ Q i4 h')
def C_cell_Row_file_File_Get (B : RO) (p1 : Option Addr) (i2 : Int) (h : Heap) (Q : Bool → ByteArray → Int → Heap → Prop) : Prop :=
  Spec PG B 60 #[(Value.pointer p1), (Value.int .i64 (i2))] h (fun v h' => ∃ b3 : Bool, ∃ s4 : ByteArray, ∃ i5 : Int, v = Value.tuple #[(Value.agg #[(Value.bool b3), (Value.string s4)]), (Value.int .i64 (i5))] ∧ Q b3 s4 i5 h')
def C_cell_Row_file_File_is (B : RO) (p1 : Option Addr) (i2 : Int) (h : Heap) (Q : Bool → Heap → Prop) : Prop :=
  Spec PG B 61 #[(Value.pointer p1), (Value.int .i64 (i2))] h (fun v h' => ∃ b3 : Bool, v = (Value.bool b3) ∧ Q b3 h')
def C_slices_IndexFunc_s_reads_Entry_reads_Entry (B : RO) (a1 : Option Addr) (n2 : Nat) (c3 : Nat) (v4 : Value) (h : Heap) (Q : Int → Heap → Prop) : Prop :=
  Spec PG B 62 #[(Value.slice a1 n2 c3), v4] h (fun v h' => ∃ i5 : Int, v = (Value.int .i64 (i5)) ∧ Q i5 h')
def C_reads_Set_place_1 (B : RO) (i1 : Int) (i2 : Int) (i3 : Int) (A4 : Addr) (A5 : Addr) (h : Heap) (Q : Bool → Heap → Prop) : Prop :=
  Spec PG B 63 #[(Value.agg #[(Value.int .i64 (i1)), (Value.int .i64 (i2)), (Value.int .i64 (i3))]), (Value.pointer (some A4)), (Value.pointer (some A5))] h (fun v h' => ∃ b6 : Bool, v = (Value.bool b6) ∧ Q b6 h')
end Go.Proofs.Ytgldgabefiialaa.H
namespace Go.Proofs.Ytgldgabefiialaa.H
open Go
set_option linter.unusedVariables false
set_option maxRecDepth 100000
set_option maxHeartbeats 4000000
def S_countermandlaw20_AttemptBlind_J3 (B : RO) (i1 : Int) (a2 : Option Addr) (n3 : Nat) (c4 : Nat) (p11 : Option Addr) (a13 : Option Addr) (n14 : Nat) (c15 : Nat) (i17 : Int) (m19 : Nat) (J22 : Int → Nat → Heap → Prop) (h27 : Heap) (Q : Bool → Heap → Prop) : Prop :=
 ∃ A28 : Addr, p11 = some A28 ∧
 ∃ p30 : Option Addr, cellH B h27 A28 = some (.pointer p30) ∧
 C_cell_Row_int_Get B p30 (i1) h27 (fun i32 i33 h31 =>
 ∃ A34 : Addr, a2 = some A34 ∧ 0 ≤ (i17 : Int) ∧ (i17 : Int) < (n3 : Nat) ∧
 ∃ i36 : Int, cellH B h31 (Addr.add A34 (Int.toNat (i17) * 1)) = some (.int .i64 (i36)) ∧
 ((i32 : Int) = i36 →
 ((i33 : Int) = IntKind.wrap .i64 ((i17) + (1)) →
 Fin B h31 (fun h' => ∃ m', m' < m19 ∧ J22 (IntKind.wrap .i64 ((i17) + (1))) m' h')) ∧ (¬ ((i33 : Int) = IntKind.wrap .i64 ((i17) + (1))) →
 Fin B h31 (Q (false)))) ∧ (¬ ((i32 : Int) = i36) →
 Fin B h31 (Q (false))))
def S_countermandlaw20_AttemptBlind_J2 (B : RO) (i1 : Int) (a2 : Option Addr) (n3 : Nat) (c4 : Nat) (p11 : Option Addr) (a13 : Option Addr) (n14 : Nat) (c15 : Nat) (h16 : Heap) (Q : Bool → Heap → Prop) : Prop :=
 ∃ (J22 : Int → Nat → Heap → Prop) (m20 : Nat), Fin B h16 (J22 (0) m20) ∧
 ∀ (i17 : Int) (m19 : Nat) (h18 : Heap), J22 i17 m19 h18 →
 ((i17 : Int) < ((n14 : Nat)) →
 ∃ A23 : Addr, a13 = some A23 ∧ 0 ≤ (i17 : Int) ∧ (i17 : Int) < (n14 : Nat) ∧
 ∃ p25 : Option Addr, cellH B h18 (Addr.add A23 (Int.toNat (i17) * 1)) = some (.pointer p25) ∧
 C_attempt_Attempt_Land B p25 h18 (fun b38 h37 =>
 (b38 = true →
 ∃ A39 : Addr, p11 = some A39 ∧
 ∃ i41 : Int, cellH B h37 (Addr.add A39 3) = some (.int .i64 (i41)) ∧
 ((i41 : Int) = IntKind.wrap .i64 ((i17) + (1)) →
 Fin B h37 (fun h' => S_countermandlaw20_AttemptBlind_J3 B i1 a2 n3 c4 p11 a13 n14 c15 i17 m19 J22 h' Q)) ∧ (¬ ((i41 : Int) = IntKind.wrap .i64 ((i17) + (1))) →
 Fin B h37 (Q (false)))) ∧ (b38 = false →
 Fin B h37 (Q (false))))) ∧ (¬ ((i17 : Int) < ((n14 : Nat))) →
 Fin B h18 (Q (true)))
def S_countermandlaw20_AttemptBlind_J1 (B : RO) (i1 : Int) (a2 : Option Addr) (n3 : Nat) (c4 : Nat) (h9 : Heap) (Q : Bool → Heap → Prop) : Prop :=
 C_attempt_NewView B h9 (fun p11 h10 =>
 ∃ (J50 : Option Addr → Nat → Nat → Int → Nat → Heap → Prop) (m48 : Nat), Fin B h10 (J50 none 0 0 (0) m48) ∧
 ∀ (a42 : Option Addr) (n43 : Nat) (c44 : Nat) (i45 : Int) (m47 : Nat) (h46 : Heap), J50 a42 n43 c44 i45 m47 h46 →
 ((i45 : Int) < ((n3 : Nat)) →
 ∃ A51 : Addr, a2 = some A51 ∧ 0 ≤ (i45 : Int) ∧ (i45 : Int) < (n3 : Nat) ∧
 ∃ i53 : Int, cellH B h46 (Addr.add A51 (Int.toNat (i45) * 1)) = some (.int .i64 (i53)) ∧
 C_attempt_New B p11 (0) (0) (0) (0) h46 (fun p55 h54 =>
 C_attempt_Attempt_Store B p55 (i1) (i53) h54 (fun i57 h56 =>
 ∀ k58 : Nat, h56 k58 = none → B k58 = none → ∀ h59 : Heap, h59 = Heap.set h56 k58 (.vec 27 (plains [(.pointer p55)]) 1) →
 semH PG B (Builtin.append_ #[26, 26] 26 #[(.slice a42 n43 c44), (.slice (some ⟨k58, 0, none⟩) 1 1)]) h59 (fun v h60 => ∃ a61 : Option Addr, ∃ n62 : Nat, ∃ c63 : Nat, v = (.slice a61 n62 c63) ∧
 Fin B h60 (fun h' => ∃ m', m' < m47 ∧ J50 a61 n62 c63 (IntKind.wrap .i64 ((i45) + (1))) m' h'))))) ∧ (¬ ((i45 : Int) < ((n3 : Nat))) →
 Fin B h46 (fun h' => S_countermandlaw20_AttemptBlind_J2 B i1 a2 n3 c4 p11 a42 n43 c44 h' Q)))
def S_countermandlaw20_AttemptBlind (B : RO) (i1 : Int) (a2 : Option Addr) (n3 : Nat) (c4 : Nat) (h : Heap) (Q : Bool → Heap → Prop) : Prop :=
 C_countermandlaw20_alive B h (fun b7 h6 =>
 (b7 = true →
 (((n3 : Nat) : Int) > (20) →
 Fin B h6 (Q (true))) ∧ (¬ (((n3 : Nat) : Int) > (20)) →
 ((i1 : Int) < (0) →
 Fin B h6 (Q (true))) ∧ (¬ ((i1 : Int) < (0)) →
 ((i1 : Int) > (7) →
 Fin B h6 (Q (true))) ∧ (¬ ((i1 : Int) > (7)) →
 Fin B h6 (fun h' => S_countermandlaw20_AttemptBlind_J1 B i1 a2 n3 c4 h' Q))))) ∧ (b7 = false →
 Fin B h6 (Q (false))))
def S_countermandlaw20_alive (B : RO) (h : Heap) (Q : Bool → Heap → Prop) : Prop :=
 C_attempt_NewView B h (fun p3 h2 =>
 C_attempt_New B p3 (0) (0) (0) (0) h2 (fun p5 h4 =>
 C_attempt_New B p3 (0) (0) (0) (0) h4 (fun p7 h6 =>
 C_attempt_Attempt_Store B p5 (0) (5) h6 (fun i9 h8 =>
 ((i9 : Int) = 0 →
 C_attempt_Attempt_Load B p5 (0) h8 (fun i11 i12 h10 =>
 C_attempt_Attempt_Load B p7 (0) h10 (fun i14 i15 h13 =>
 ((i11 : Int) = 5 →
 ((i14 : Int) = 0 →
 C_attempt_Attempt_Land B p5 h13 (fun b17 h16 =>
 (b17 = true →
 ∃ A18 : Addr, p3 = some A18 ∧
 ∃ i20 : Int, cellH B h16 (Addr.add A18 3) = some (.int .i64 (i20)) ∧
 Fin B h16 (Q (((i20 : Int) == (1))))) ∧ (b17 = false →
 Fin B h16 (Q (false))))) ∧ (¬ ((i14 : Int) = 0) →
 Fin B h13 (Q (false)))) ∧ (¬ ((i11 : Int) = 5) →
 Fin B h13 (Q (false)))))) ∧ (¬ ((i9 : Int) = 0) →
 Fin B h8 (Q (false)))))))
def S_attempt_NewView (B : RO) (h : Heap) (Q : Option Addr → Heap → Prop) : Prop :=
 C_cell_New_int B (8) (0) h (fun p3 h2 =>
 C_tome_New B h2 (fun p5 h4 =>
 C_feed_New B h4 (fun p7 h6 =>
 ∀ k8 : Nat, h6 k8 = none → B k8 = none → ∀ h9 : Heap, h9 = Heap.set h6 k8 (.vec 37 (plains [(.pointer p3), (.pointer p5), (.pointer p7), (.int .i64 (0))]) 4) →
 Fin B h9 (Q (some ⟨k8, 0, none⟩)))))
def S_attempt_New_J2 (B : RO) (k7 : Nat) (p10 : Option Addr) (A14 : Addr) (i18 : Int) (i20 : Int) (i21 : Int) (i22 : Int) (i23 : Int) (p230 : Option Addr) (p231 : Option Addr) (p232 : Option Addr) (p233 : Option Addr) (i234 : Int) (i235 : Int) (i236 : Int) (i237 : Int) (A238 : Addr) (A239 : Addr) (h240 : Heap) (Q : Option Addr → Heap → Prop) : Prop :=
 ∀ k243 : Nat, h240 k243 = none → B k243 = none → ∀ h244 : Heap, h244 = Heap.set h240 k243 (.vec 67 (plains [(.pointer p10), (.pointer p230), (.pointer p231), (.pointer p232), (.pointer p233), (.int .i64 (i234)), (.int .i64 (i235)), (.int .i64 (i236)), (.int .i64 (i237)), (.pointer (some A238)), (.pointer (some A239))]) 11) →
 cellH B h244 (Addr.add A14 3) = some (.int .i64 (i18)) ∧ CellsAt B h244 ⟨k7, 0, none⟩ 0 [(.int .i64 (i20)), (.int .i64 (i21)), (.int .i64 (i22)), (.int .i64 (i23))] ∧
 Fin B h244 (Q (some ⟨k243, 0, none⟩))
def S_attempt_New_J1 (B : RO) (k7 : Nat) (p10 : Option Addr) (h11 : Heap) (Q : Option Addr → Heap → Prop) : Prop :=
 ∃ A14 : Addr, p10 = some A14 ∧
 ∃ i18 : Int, cellH B h11 (Addr.add A14 3) = some (.int .i64 (i18)) ∧
 ∃ i20 : Int, ∃ i21 : Int, ∃ i22 : Int, ∃ i23 : Int, CellsAt B h11 ⟨k7, 0, none⟩ 0 [(.int .i64 (i20)), (.int .i64 (i21)), (.int .i64 (i22)), (.int .i64 (i23))] ∧
 (C_reads_New B (i18) h11 (fun p248 h247 =>
 cellH B h247 (Addr.add A14 3) = some (.int .i64 (i18)) ∧ CellsAt B h247 ⟨k7, 0, none⟩ 0 [(.int .i64 (i20)), (.int .i64 (i21)), (.int .i64 (i22)), (.int .i64 (i23))] ∧
 (C_mark_Fresh B (i20) (i21) (i22) (i23) h247 (fun p252 p253 p254 i255 i256 i257 i258 h251 =>
 cellH B h251 (Addr.add A14 3) = some (.int .i64 (i18)) ∧ CellsAt B h251 ⟨k7, 0, none⟩ 0 [(.int .i64 (i20)), (.int .i64 (i21)), (.int .i64 (i22)), (.int .i64 (i23))] ∧
 (∀ k261 : Nat, h251 k261 = none → B k261 = none → ∀ h262 : Heap, h262 = Heap.set h251 k261 (.vec 61 (plains [(.slice none 0 0), (.slice none 0 0), (.slice none 0 0), (.slice none 0 0)]) 4) →
 cellH B h262 (Addr.add A14 3) = some (.int .i64 (i18)) ∧ CellsAt B h262 ⟨k7, 0, none⟩ 0 [(.int .i64 (i20)), (.int .i64 (i21)), (.int .i64 (i22)), (.int .i64 (i23))] ∧
 ∀ k265 : Nat, h262 k265 = none → B k265 = none → ∀ h266 : Heap, h266 = Heap.set h262 k265 (.vec 65 (plains [(.slice none 0 0)]) 1) →
 cellH B h266 (Addr.add A14 3) = some (.int .i64 (i18)) ∧ CellsAt B h266 ⟨k7, 0, none⟩ 0 [(.int .i64 (i20)), (.int .i64 (i21)), (.int .i64 (i22)), (.int .i64 (i23))] ∧
 S_attempt_New_J2 B k7 p10 A14 i18 i20 i21 i22 i23 p248 p252 p253 p254 (i255) (i256) (i257) (i258) ⟨k261, 0, none⟩ ⟨k265, 0, none⟩ h266 Q) ∧
 (∀ k269 : Nat, h251 k269 = none → B k269 = none → ∀ h270 : Heap, h270 = Heap.set h251 k269 (.vec 65 (plains [(.slice none 0 0)]) 1) →
 cellH B h270 (Addr.add A14 3) = some (.int .i64 (i18)) ∧ CellsAt B h270 ⟨k7, 0, none⟩ 0 [(.int .i64 (i20)), (.int .i64 (i21)), (.int .i64 (i22)), (.int .i64 (i23))] ∧
 ∀ k273 : Nat, h270 k273 = none → B k273 = none → ∀ h274 : Heap, h274 = Heap.set h270 k273 (.vec 61 (plains [(.slice none 0 0), (.slice none 0 0), (.slice none 0 0), (.slice none 0 0)]) 4) →
 cellH B h274 (Addr.add A14 3) = some (.int .i64 (i18)) ∧ CellsAt B h274 ⟨k7, 0, none⟩ 0 [(.int .i64 (i20)), (.int .i64 (i21)), (.int .i64 (i22)), (.int .i64 (i23))] ∧
 S_attempt_New_J2 B k7 p10 A14 i18 i20 i21 i22 i23 p248 p252 p253 p254 (i255) (i256) (i257) (i258) ⟨k273, 0, none⟩ ⟨k269, 0, none⟩ h274 Q))) ∧
 (∀ k277 : Nat, h247 k277 = none → B k277 = none → ∀ h278 : Heap, h278 = Heap.set h247 k277 (.vec 61 (plains [(.slice none 0 0), (.slice none 0 0), (.slice none 0 0), (.slice none 0 0)]) 4) →
 cellH B h278 (Addr.add A14 3) = some (.int .i64 (i18)) ∧ CellsAt B h278 ⟨k7, 0, none⟩ 0 [(.int .i64 (i20)), (.int .i64 (i21)), (.int .i64 (i22)), (.int .i64 (i23))] ∧
 (C_mark_Fresh B (i20) (i21) (i22) (i23) h278 (fun p282 p283 p284 i285 i286 i287 i288 h281 =>
 cellH B h281 (Addr.add A14 3) = some (.int .i64 (i18)) ∧ CellsAt B h281 ⟨k7, 0, none⟩ 0 [(.int .i64 (i20)), (.int .i64 (i21)), (.int .i64 (i22)), (.int .i64 (i23))] ∧
 ∀ k291 : Nat, h281 k291 = none → B k291 = none → ∀ h292 : Heap, h292 = Heap.set h281 k291 (.vec 65 (plains [(.slice none 0 0)]) 1) →
 cellH B h292 (Addr.add A14 3) = some (.int .i64 (i18)) ∧ CellsAt B h292 ⟨k7, 0, none⟩ 0 [(.int .i64 (i20)), (.int .i64 (i21)), (.int .i64 (i22)), (.int .i64 (i23))] ∧
 S_attempt_New_J2 B k7 p10 A14 i18 i20 i21 i22 i23 p248 p282 p283 p284 (i285) (i286) (i287) (i288) ⟨k277, 0, none⟩ ⟨k291, 0, none⟩ h292 Q)) ∧
 (∀ k295 : Nat, h278 k295 = none → B k295 = none → ∀ h296 : Heap, h296 = Heap.set h278 k295 (.vec 65 (plains [(.slice none 0 0)]) 1) →
 cellH B h296 (Addr.add A14 3) = some (.int .i64 (i18)) ∧ CellsAt B h296 ⟨k7, 0, none⟩ 0 [(.int .i64 (i20)), (.int .i64 (i21)), (.int .i64 (i22)), (.int .i64 (i23))] ∧
 C_mark_Fresh B (i20) (i21) (i22) (i23) h296 (fun p300 p301 p302 i303 i304 i305 i306 h299 =>
 cellH B h299 (Addr.add A14 3) = some (.int .i64 (i18)) ∧ CellsAt B h299 ⟨k7, 0, none⟩ 0 [(.int .i64 (i20)), (.int .i64 (i21)), (.int .i64 (i22)), (.int .i64 (i23))] ∧
 S_attempt_New_J2 B k7 p10 A14 i18 i20 i21 i22 i23 p248 p300 p301 p302 (i303) (i304) (i305) (i306) ⟨k277, 0, none⟩ ⟨k295, 0, none⟩ h299 Q))) ∧
 (∀ k309 : Nat, h247 k309 = none → B k309 = none → ∀ h310 : Heap, h310 = Heap.set h247 k309 (.vec 65 (plains [(.slice none 0 0)]) 1) →
 cellH B h310 (Addr.add A14 3) = some (.int .i64 (i18)) ∧ CellsAt B h310 ⟨k7, 0, none⟩ 0 [(.int .i64 (i20)), (.int .i64 (i21)), (.int .i64 (i22)), (.int .i64 (i23))] ∧
 (C_mark_Fresh B (i20) (i21) (i22) (i23) h310 (fun p314 p315 p316 i317 i318 i319 i320 h313 =>
 cellH B h313 (Addr.add A14 3) = some (.int .i64 (i18)) ∧ CellsAt B h313 ⟨k7, 0, none⟩ 0 [(.int .i64 (i20)), (.int .i64 (i21)), (.int .i64 (i22)), (.int .i64 (i23))] ∧
 ∀ k323 : Nat, h313 k323 = none → B k323 = none → ∀ h324 : Heap, h324 = Heap.set h313 k323 (.vec 61 (plains [(.slice none 0 0), (.slice none 0 0), (.slice none 0 0), (.slice none 0 0)]) 4) →
 cellH B h324 (Addr.add A14 3) = some (.int .i64 (i18)) ∧ CellsAt B h324 ⟨k7, 0, none⟩ 0 [(.int .i64 (i20)), (.int .i64 (i21)), (.int .i64 (i22)), (.int .i64 (i23))] ∧
 S_attempt_New_J2 B k7 p10 A14 i18 i20 i21 i22 i23 p248 p314 p315 p316 (i317) (i318) (i319) (i320) ⟨k323, 0, none⟩ ⟨k309, 0, none⟩ h324 Q)) ∧
 (∀ k327 : Nat, h310 k327 = none → B k327 = none → ∀ h328 : Heap, h328 = Heap.set h310 k327 (.vec 61 (plains [(.slice none 0 0), (.slice none 0 0), (.slice none 0 0), (.slice none 0 0)]) 4) →
 cellH B h328 (Addr.add A14 3) = some (.int .i64 (i18)) ∧ CellsAt B h328 ⟨k7, 0, none⟩ 0 [(.int .i64 (i20)), (.int .i64 (i21)), (.int .i64 (i22)), (.int .i64 (i23))] ∧
 C_mark_Fresh B (i20) (i21) (i22) (i23) h328 (fun p332 p333 p334 i335 i336 i337 i338 h331 =>
 cellH B h331 (Addr.add A14 3) = some (.int .i64 (i18)) ∧ CellsAt B h331 ⟨k7, 0, none⟩ 0 [(.int .i64 (i20)), (.int .i64 (i21)), (.int .i64 (i22)), (.int .i64 (i23))] ∧
 S_attempt_New_J2 B k7 p10 A14 i18 i20 i21 i22 i23 p248 p332 p333 p334 (i335) (i336) (i337) (i338) ⟨k327, 0, none⟩ ⟨k309, 0, none⟩ h331 Q))))) ∧
 (∀ k341 : Nat, h11 k341 = none → B k341 = none → ∀ h342 : Heap, h342 = Heap.set h11 k341 (.vec 61 (plains [(.slice none 0 0), (.slice none 0 0), (.slice none 0 0), (.slice none 0 0)]) 4) →
 cellH B h342 (Addr.add A14 3) = some (.int .i64 (i18)) ∧ CellsAt B h342 ⟨k7, 0, none⟩ 0 [(.int .i64 (i20)), (.int .i64 (i21)), (.int .i64 (i22)), (.int .i64 (i23))] ∧
 (C_reads_New B (i18) h342 (fun p346 h345 =>
 cellH B h345 (Addr.add A14 3) = some (.int .i64 (i18)) ∧ CellsAt B h345 ⟨k7, 0, none⟩ 0 [(.int .i64 (i20)), (.int .i64 (i21)), (.int .i64 (i22)), (.int .i64 (i23))] ∧
 (C_mark_Fresh B (i20) (i21) (i22) (i23) h345 (fun p350 p351 p352 i353 i354 i355 i356 h349 =>
 cellH B h349 (Addr.add A14 3) = some (.int .i64 (i18)) ∧ CellsAt B h349 ⟨k7, 0, none⟩ 0 [(.int .i64 (i20)), (.int .i64 (i21)), (.int .i64 (i22)), (.int .i64 (i23))] ∧
 ∀ k359 : Nat, h349 k359 = none → B k359 = none → ∀ h360 : Heap, h360 = Heap.set h349 k359 (.vec 65 (plains [(.slice none 0 0)]) 1) →
 cellH B h360 (Addr.add A14 3) = some (.int .i64 (i18)) ∧ CellsAt B h360 ⟨k7, 0, none⟩ 0 [(.int .i64 (i20)), (.int .i64 (i21)), (.int .i64 (i22)), (.int .i64 (i23))] ∧
 S_attempt_New_J2 B k7 p10 A14 i18 i20 i21 i22 i23 p346 p350 p351 p352 (i353) (i354) (i355) (i356) ⟨k341, 0, none⟩ ⟨k359, 0, none⟩ h360 Q)) ∧
 (∀ k363 : Nat, h345 k363 = none → B k363 = none → ∀ h364 : Heap, h364 = Heap.set h345 k363 (.vec 65 (plains [(.slice none 0 0)]) 1) →
 cellH B h364 (Addr.add A14 3) = some (.int .i64 (i18)) ∧ CellsAt B h364 ⟨k7, 0, none⟩ 0 [(.int .i64 (i20)), (.int .i64 (i21)), (.int .i64 (i22)), (.int .i64 (i23))] ∧
 C_mark_Fresh B (i20) (i21) (i22) (i23) h364 (fun p368 p369 p370 i371 i372 i373 i374 h367 =>
 cellH B h367 (Addr.add A14 3) = some (.int .i64 (i18)) ∧ CellsAt B h367 ⟨k7, 0, none⟩ 0 [(.int .i64 (i20)), (.int .i64 (i21)), (.int .i64 (i22)), (.int .i64 (i23))] ∧
 S_attempt_New_J2 B k7 p10 A14 i18 i20 i21 i22 i23 p346 p368 p369 p370 (i371) (i372) (i373) (i374) ⟨k341, 0, none⟩ ⟨k363, 0, none⟩ h367 Q)))) ∧
 (∀ k377 : Nat, h342 k377 = none → B k377 = none → ∀ h378 : Heap, h378 = Heap.set h342 k377 (.vec 65 (plains [(.slice none 0 0)]) 1) →
 cellH B h378 (Addr.add A14 3) = some (.int .i64 (i18)) ∧ CellsAt B h378 ⟨k7, 0, none⟩ 0 [(.int .i64 (i20)), (.int .i64 (i21)), (.int .i64 (i22)), (.int .i64 (i23))] ∧
 C_reads_New B (i18) h378 (fun p382 h381 =>
 cellH B h381 (Addr.add A14 3) = some (.int .i64 (i18)) ∧ CellsAt B h381 ⟨k7, 0, none⟩ 0 [(.int .i64 (i20)), (.int .i64 (i21)), (.int .i64 (i22)), (.int .i64 (i23))] ∧
 C_mark_Fresh B (i20) (i21) (i22) (i23) h381 (fun p386 p387 p388 i389 i390 i391 i392 h385 =>
 cellH B h385 (Addr.add A14 3) = some (.int .i64 (i18)) ∧ CellsAt B h385 ⟨k7, 0, none⟩ 0 [(.int .i64 (i20)), (.int .i64 (i21)), (.int .i64 (i22)), (.int .i64 (i23))] ∧
 S_attempt_New_J2 B k7 p10 A14 i18 i20 i21 i22 i23 p382 p386 p387 p388 (i389) (i390) (i391) (i392) ⟨k341, 0, none⟩ ⟨k377, 0, none⟩ h385 Q)))) ∧
 (∀ k395 : Nat, h11 k395 = none → B k395 = none → ∀ h396 : Heap, h396 = Heap.set h11 k395 (.vec 65 (plains [(.slice none 0 0)]) 1) →
 cellH B h396 (Addr.add A14 3) = some (.int .i64 (i18)) ∧ CellsAt B h396 ⟨k7, 0, none⟩ 0 [(.int .i64 (i20)), (.int .i64 (i21)), (.int .i64 (i22)), (.int .i64 (i23))] ∧
 (C_reads_New B (i18) h396 (fun p400 h399 =>
 cellH B h399 (Addr.add A14 3) = some (.int .i64 (i18)) ∧ CellsAt B h399 ⟨k7, 0, none⟩ 0 [(.int .i64 (i20)), (.int .i64 (i21)), (.int .i64 (i22)), (.int .i64 (i23))] ∧
 (C_mark_Fresh B (i20) (i21) (i22) (i23) h399 (fun p404 p405 p406 i407 i408 i409 i410 h403 =>
 cellH B h403 (Addr.add A14 3) = some (.int .i64 (i18)) ∧ CellsAt B h403 ⟨k7, 0, none⟩ 0 [(.int .i64 (i20)), (.int .i64 (i21)), (.int .i64 (i22)), (.int .i64 (i23))] ∧
 ∀ k413 : Nat, h403 k413 = none → B k413 = none → ∀ h414 : Heap, h414 = Heap.set h403 k413 (.vec 61 (plains [(.slice none 0 0), (.slice none 0 0), (.slice none 0 0), (.slice none 0 0)]) 4) →
 cellH B h414 (Addr.add A14 3) = some (.int .i64 (i18)) ∧ CellsAt B h414 ⟨k7, 0, none⟩ 0 [(.int .i64 (i20)), (.int .i64 (i21)), (.int .i64 (i22)), (.int .i64 (i23))] ∧
 S_attempt_New_J2 B k7 p10 A14 i18 i20 i21 i22 i23 p400 p404 p405 p406 (i407) (i408) (i409) (i410) ⟨k413, 0, none⟩ ⟨k395, 0, none⟩ h414 Q)) ∧
 (∀ k417 : Nat, h399 k417 = none → B k417 = none → ∀ h418 : Heap, h418 = Heap.set h399 k417 (.vec 61 (plains [(.slice none 0 0), (.slice none 0 0), (.slice none 0 0), (.slice none 0 0)]) 4) →
 cellH B h418 (Addr.add A14 3) = some (.int .i64 (i18)) ∧ CellsAt B h418 ⟨k7, 0, none⟩ 0 [(.int .i64 (i20)), (.int .i64 (i21)), (.int .i64 (i22)), (.int .i64 (i23))] ∧
 C_mark_Fresh B (i20) (i21) (i22) (i23) h418 (fun p422 p423 p424 i425 i426 i427 i428 h421 =>
 cellH B h421 (Addr.add A14 3) = some (.int .i64 (i18)) ∧ CellsAt B h421 ⟨k7, 0, none⟩ 0 [(.int .i64 (i20)), (.int .i64 (i21)), (.int .i64 (i22)), (.int .i64 (i23))] ∧
 S_attempt_New_J2 B k7 p10 A14 i18 i20 i21 i22 i23 p400 p422 p423 p424 (i425) (i426) (i427) (i428) ⟨k417, 0, none⟩ ⟨k395, 0, none⟩ h421 Q)))) ∧
 (∀ k431 : Nat, h396 k431 = none → B k431 = none → ∀ h432 : Heap, h432 = Heap.set h396 k431 (.vec 61 (plains [(.slice none 0 0), (.slice none 0 0), (.slice none 0 0), (.slice none 0 0)]) 4) →
 cellH B h432 (Addr.add A14 3) = some (.int .i64 (i18)) ∧ CellsAt B h432 ⟨k7, 0, none⟩ 0 [(.int .i64 (i20)), (.int .i64 (i21)), (.int .i64 (i22)), (.int .i64 (i23))] ∧
 C_reads_New B (i18) h432 (fun p436 h435 =>
 cellH B h435 (Addr.add A14 3) = some (.int .i64 (i18)) ∧ CellsAt B h435 ⟨k7, 0, none⟩ 0 [(.int .i64 (i20)), (.int .i64 (i21)), (.int .i64 (i22)), (.int .i64 (i23))] ∧
 C_mark_Fresh B (i20) (i21) (i22) (i23) h435 (fun p440 p441 p442 i443 i444 i445 i446 h439 =>
 cellH B h439 (Addr.add A14 3) = some (.int .i64 (i18)) ∧ CellsAt B h439 ⟨k7, 0, none⟩ 0 [(.int .i64 (i20)), (.int .i64 (i21)), (.int .i64 (i22)), (.int .i64 (i23))] ∧
 S_attempt_New_J2 B k7 p10 A14 i18 i20 i21 i22 i23 p436 p440 p441 p442 (i443) (i444) (i445) (i446) ⟨k431, 0, none⟩ ⟨k395, 0, none⟩ h439 Q))))
def S_attempt_New (B : RO) (p1 : Option Addr) (i2 : Int) (i3 : Int) (i4 : Int) (i5 : Int) (h : Heap) (Q : Option Addr → Heap → Prop) : Prop :=
 ∀ k7 : Nat, h k7 = none → B k7 = none → ∀ h8 : Heap, h8 = Heap.set h k7 (.vec 30 (plains [(.int .i64 (i2)), (.int .i64 (i3)), (.int .i64 (i4)), (.int .i64 (i5))]) 4) →
 (p1 = none →
 C_attempt_NewView B h8 (fun p451 h450 =>
 Fin B h450 (fun h' => S_attempt_New_J1 B k7 p451 h' Q))) ∧ (¬ (p1 = none) →
 Fin B h8 (fun h' => S_attempt_New_J1 B k7 p1 h' Q))
def S_attempt_Attempt_Store_J1 (B : RO) (p1 : Option Addr) (i2 : Int) (i3 : Int) (h6 : Heap) (Q : Int → Heap → Prop) : Prop :=
 ∃ A7 : Addr, p1 = some A7 ∧
 ∃ p9 : Option Addr, cellH B h6 (Addr.add A7 2) = some (.pointer p9) ∧
 C_draft_Draft_int_Put B p9 (i2) (i3) h6 (fun b11 h10 =>
 Fin B h10 (Q (0)))
def S_attempt_Attempt_Store (B : RO) (p1 : Option Addr) (i2 : Int) (i3 : Int) (h : Heap) (Q : Int → Heap → Prop) : Prop :=
 (p1 = none →
 Fin B h (Q (2))) ∧ (¬ (p1 = none) →
 ((i2 : Int) < (0) →
 Fin B h (Q (1))) ∧ (¬ ((i2 : Int) < (0)) →
 ((i2 : Int) ≥ (8) →
 Fin B h (Q (1))) ∧ (¬ ((i2 : Int) ≥ (8)) →
 Fin B h (fun h' => S_attempt_Attempt_Store_J1 B p1 i2 i3 h' Q))))
def S_attempt_Attempt_Land_J1 (B : RO) (p1 : Option Addr) (k8 : Nat) (h19 : Heap) (Q : Bool → Heap → Prop) : Prop :=
 ∃ A20 : Addr, p1 = some A20 ∧
 ∃ p22 : Option Addr, cellH B h19 (Addr.add (Addr.add A20 2) 1) = some (.pointer p22) ∧
 ∃ p23 : Option Addr, cellH B h19 ⟨k8, 0, none⟩ = some (.pointer p23) ∧
 ∃ A24 : Addr, p23 = some A24 ∧
 ∃ p26 : Option Addr, cellH B h19 (Addr.add A24 1) = some (.pointer p26) ∧
 ∃ p27 : Option Addr, cellH B h19 ⟨k8, 0, none⟩ = some (.pointer p27) ∧
 ∃ A28 : Addr, p27 = some A28 ∧
 ∃ i30 : Int, cellH B h19 (Addr.add A28 3) = some (.int .i64 (i30)) ∧
 C_sheet_Sheet_Over B p22 p26 (i30) h19 (fun i32 h31 =>
 ∃ (J38 : Int → Nat → Heap → Prop) (m36 : Nat), Fin B h31 (J38 (0) m36) ∧
 ∀ (i33 : Int) (m35 : Nat) (h34 : Heap), J38 i33 m35 h34 →
 ((i33 : Int) < (3) →
 ∃ A39 : Addr, p1 = some A39 ∧
 ∃ p41 : Option Addr, cellH B h34 (Addr.add (Addr.add A39 2) 2) = some (.pointer p41) ∧
 C_cursor_Cursor_Read B p41 (i33) h34 (fun i43 h42 =>
 ((i43 : Int) > (0) →
 ∃ p44 : Option Addr, cellH B h42 ⟨k8, 0, none⟩ = some (.pointer p44) ∧
 ∃ A45 : Addr, p44 = some A45 ∧
 ∃ p47 : Option Addr, cellH B h42 (Addr.add A45 2) = some (.pointer p47) ∧
 C_feed_Feed_Place B p47 (i33) h42 (fun i49 i50 h48 =>
 ∃ p51 : Option Addr, cellH B h48 ⟨k8, 0, none⟩ = some (.pointer p51) ∧
 ∃ A52 : Addr, p51 = some A52 ∧
 ∃ p54 : Option Addr, cellH B h48 (Addr.add A52 2) = some (.pointer p54) ∧
 ∃ p55 : Option Addr, cellH B h48 ⟨k8, 0, none⟩ = some (.pointer p55) ∧
 ∃ A56 : Addr, p55 = some A56 ∧
 ∃ i58 : Int, cellH B h48 (Addr.add A56 3) = some (.int .i64 (i58)) ∧
 C_feed_Feed_Take B p54 (i33) (IntKind.wrap .i64 ((i49) + (i43))) (i58) h48 (fun b60 h59 =>
 Fin B h59 (fun h' => ∃ m', m' < m35 ∧ J38 (IntKind.wrap .i64 ((i33) + (1))) m' h')))) ∧ (¬ ((i43 : Int) > (0)) →
 Fin B h42 (fun h' => ∃ m', m' < m35 ∧ J38 (IntKind.wrap .i64 ((i33) + (1))) m' h')))) ∧ (¬ ((i33 : Int) < (3)) →
 Fin B h34 (Q (true))))
def S_attempt_Attempt_Land (B : RO) (p1 : Option Addr) (h : Heap) (Q : Bool → Heap → Prop) : Prop :=
 C_attempt_Attempt_Valid B p1 h (fun b4 h3 =>
 (b4 = true →
 ∃ A5 : Addr, p1 = some A5 ∧
 ∃ p7 : Option Addr, cellH B h3 A5 = some (.pointer p7) ∧
 ∀ k8 : Nat, h3 k8 = none → B k8 = none → ∀ h9 : Heap, h9 = Heap.set h3 k8 (.vec 24 (plains [(.pointer none)]) 1) →
 ∃ h10 : Heap, storeH h9 ⟨k8, 0, none⟩ (.pointer p7) = some h10 ∧
 ∃ p11 : Option Addr, cellH B h10 ⟨k8, 0, none⟩ = some (.pointer p11) ∧
 ∃ A12 : Addr, p11 = some A12 ∧
 ∃ i14 : Int, cellH B h10 (Addr.add A12 3) = some (.int .i64 (i14)) ∧
 ∃ A15 : Addr, p11 = some A15 ∧
 ∃ h17 : Heap, storeH h10 (Addr.add A15 3) (.int .i64 (IntKind.wrap .i64 ((i14) + (1)))) = some h17 ∧
 ∃ A61 : Addr, p1 = some A61 ∧
 ∃ p63 : Option Addr, cellH B h17 (Addr.add A61 2) = some (.pointer p63) ∧
 C_draft_Draft_int_All B p63 h17 (fun v65 h64 =>
 ∃ (xs72 : List (Int × Int)) (G68 : Heap → Prop) (J71 : Nat → Heap → Prop), Iter PG B v65 (xs72.map (fun x : Int × Int => [(.int .i64 (x.1)), (.int .i64 (x.2))])) G68 ∧ Ins G68 ∧ (∀ i h, J71 i h → G68 h) ∧ Fin B h64 (J71 0) ∧
 (∀ (q70 : Nat) (h69 : Heap) (i66 : Int) (i67 : Int), xs72[q70]? = some (i66, i67) → J71 q70 h69 →
 ∃ p73 : Option Addr, cellH B h69 ⟨k8, 0, none⟩ = some (.pointer p73) ∧
 ∃ A74 : Addr, p73 = some A74 ∧
 ∃ p76 : Option Addr, cellH B h69 A74 = some (.pointer p76) ∧
 ∃ p77 : Option Addr, cellH B h69 ⟨k8, 0, none⟩ = some (.pointer p77) ∧
 ∃ A78 : Addr, p77 = some A78 ∧
 ∃ i80 : Int, cellH B h69 (Addr.add A78 3) = some (.int .i64 (i80)) ∧
 C_cell_Row_int_Set B p76 (i66) (i67) (i80) h69 (fun b82 h81 =>
 Fin B h81 (J71 (q70 + 1)))) ∧
 (∀ (h69 : Heap), J71 xs72.length h69 →
 Fin B h69 (fun h' => S_attempt_Attempt_Land_J1 B p1 k8 h' Q)))) ∧ (b4 = false →
 Fin B h3 (Q (false))))
def S_cell_Row_int_Get (B : RO) (p1 : Option Addr) (i2 : Int) (h : Heap) (Q : Int → Int → Heap → Prop) : Prop :=
 C_cell_Row_int_is B p1 (i2) h (fun b6 h5 =>
 (b6 = true →
 ∃ A7 : Addr, p1 = some A7 ∧
 ∃ a9 : Option Addr, ∃ n10 : Nat, ∃ c11 : Nat, cellH B h5 A7 = some (.slice a9 n10 c11) ∧
 ∃ A12 : Addr, a9 = some A12 ∧ 0 ≤ (i2 : Int) ∧ (i2 : Int) < (n10 : Nat) ∧
 ∃ i14 : Int, cellH B h5 (Addr.add A12 (Int.toNat (i2) * 2)) = some (.int .i64 (i14)) ∧
 ∃ A15 : Addr, p1 = some A15 ∧
 ∃ a17 : Option Addr, ∃ n18 : Nat, ∃ c19 : Nat, cellH B h5 A15 = some (.slice a17 n18 c19) ∧
 ∃ A20 : Addr, a17 = some A20 ∧ 0 ≤ (i2 : Int) ∧ (i2 : Int) < (n18 : Nat) ∧
 ∃ i22 : Int, cellH B h5 (Addr.add (Addr.add A20 (Int.toNat (i2) * 2)) 1) = some (.int .i64 (i22)) ∧
 Fin B h5 (Q (i14) (i22))) ∧ (b6 = false →
 Fin B h5 (Q (0) (0))))
def S_attempt_Attempt_Load_J1 (B : RO) (p1 : Option Addr) (i2 : Int) (h6 : Heap) (Q : Int → Int → Heap → Prop) : Prop :=
 ∃ A7 : Addr, p1 = some A7 ∧
 ∃ p9 : Option Addr, cellH B h6 (Addr.add A7 2) = some (.pointer p9) ∧
 C_draft_Draft_int_Get B p9 (i2) h6 (fun i11 b12 h10 =>
 (b12 = true →
 Fin B h10 (Q (i11) (0))) ∧ (b12 = false →
 C_attempt_Attempt_note B p1 (0) (i2) h10 (fun i14 h13 =>
 ((i14 : Int) = 0 →
 ∃ A15 : Addr, p1 = some A15 ∧
 ∃ p17 : Option Addr, cellH B h13 A15 = some (.pointer p17) ∧
 ∃ A18 : Addr, p17 = some A18 ∧
 ∃ p20 : Option Addr, cellH B h13 A18 = some (.pointer p20) ∧
 C_cell_Row_int_Get B p20 (i2) h13 (fun i22 i23 h21 =>
 Fin B h21 (Q (i22) (0)))) ∧ (¬ ((i14 : Int) = 0) →
 Fin B h13 (Q (0) (i14))))))
def S_attempt_Attempt_Load (B : RO) (p1 : Option Addr) (i2 : Int) (h : Heap) (Q : Int → Int → Heap → Prop) : Prop :=
 (p1 = none →
 Fin B h (Q (0) (2))) ∧ (¬ (p1 = none) →
 ((i2 : Int) < (0) →
 Fin B h (Q (0) (1))) ∧ (¬ ((i2 : Int) < (0)) →
 ((i2 : Int) ≥ (8) →
 Fin B h (Q (0) (1))) ∧ (¬ ((i2 : Int) ≥ (8)) →
 Fin B h (fun h' => S_attempt_Attempt_Load_J1 B p1 i2 h' Q))))
def S_cell_New_int (B : RO) (i1 : Int) (i2 : Int) (h : Heap) (Q : Option Addr → Heap → Prop) : Prop :=
 ∀ k4 : Nat, h k4 = none → B k4 = none → ∀ h5 : Heap, h5 = Heap.set h k4 (.vec 80 (plains [(.slice none 0 0)]) 1) →
 ∃ (J11 : Int → Nat → Heap → Prop) (m9 : Nat), Fin B h5 (J11 (0) m9) ∧
 ∀ (i6 : Int) (m8 : Nat) (h7 : Heap), J11 i6 m8 h7 →
 ((i6 : Int) < (i1) →
 LdSl B h7 ⟨k4, 0, none⟩ fun a12 n13 c14 h15 =>
 ∀ k16 : Nat, h15 k16 = none → B k16 = none → ∀ h17 : Heap, h17 = Heap.set h15 k16 (.vec 77 (plains [(.int .i64 (i2)), (.int .i64 (0))]) 2) →
 semH PG B (Builtin.append_ #[78, 78] 78 #[(.slice a12 n13 c14), (.slice (some ⟨k16, 0, none⟩) 1 1)]) h17 (fun v h18 => ∃ a19 : Option Addr, ∃ n20 : Nat, ∃ c21 : Nat, v = (.slice a19 n20 c21) ∧
 ∃ h22 : Heap, storeH h18 ⟨k4, 0, none⟩ (.slice a19 n20 c21) = some h22 ∧
 Fin B h22 (fun h' => ∃ m', m' < m8 ∧ J11 (IntKind.wrap .i64 ((i6) + (1))) m' h'))) ∧ (¬ ((i6 : Int) < (i1)) →
 Fin B h7 (Q (some ⟨k4, 0, none⟩)))
def S_tome_New (B : RO) (h : Heap) (Q : Option Addr → Heap → Prop) : Prop :=
 C_cell_New_file_File B (6) (false) ByteArray.empty h (fun p3 h2 =>
 ∀ k4 : Nat, h2 k4 = none → B k4 = none → ∀ h5 : Heap, h5 = Heap.set h2 k4 (.vec 94 (plains [(.pointer p3)]) 1) →
 Fin B h5 (Q (some ⟨k4, 0, none⟩)))
def S_feed_New (B : RO) (h : Heap) (Q : Option Addr → Heap → Prop) : Prop :=
 C_cell_New_int B (3) (0) h (fun p3 h2 =>
 ∀ k4 : Nat, h2 k4 = none → B k4 = none → ∀ h5 : Heap, h5 = Heap.set h2 k4 (.vec 83 (plains [(.string ByteArray.empty), (.string ByteArray.empty), (.string ByteArray.empty), (.pointer p3)]) 4) →
 Fin B h5 (Q (some ⟨k4, 0, none⟩)))
def S_reads_New (B : RO) (i1 : Int) (h : Heap) (Q : Option Addr → Heap → Prop) : Prop :=
 ∀ k3 : Nat, h k3 = none → B k3 = none → ∀ h4 : Heap, h4 = Heap.set h k3 (.vec 97 (plains [(.slice none 0 0), (.int .i64 (i1))]) 2) →
 Fin B h4 (Q (some ⟨k3, 0, none⟩))
def S_mark_Fresh_J1 (B : RO) (k12 : Nat) (k14 : Nat) (i18 : Int) (i19 : Int) (i20 : Int) (i21 : Int) (A69 : Addr) (p70 : Option Addr) (A71 : Addr) (h72 : Heap) (Q : Option Addr → Option Addr → Option Addr → Int → Int → Int → Int → Heap → Prop) : Prop :=
 ∃ h74 : Heap, StoresAt ⟨k14, 0, none⟩ h72 0 [(.pointer (some A69)), (.pointer p70), (.pointer (some A71)), (.int .i64 (i18)), (.int .i64 (i19)), (.int .i64 (i20)), (.int .i64 (i21))] h74 ∧
 ∃ p75 : Option Addr, ∃ p76 : Option Addr, ∃ p77 : Option Addr, ∃ i78 : Int, ∃ i79 : Int, ∃ i80 : Int, ∃ i81 : Int, CellsAt B h74 ⟨k14, 0, none⟩ 0 [(.pointer p75), (.pointer p76), (.pointer p77), (.int .i64 (i78)), (.int .i64 (i79)), (.int .i64 (i80)), (.int .i64 (i81))] ∧ Fin B h74 (Q p75 p76 p77 (i78) (i79) (i80) (i81))
def S_mark_Fresh (B : RO) (i1 : Int) (i2 : Int) (i3 : Int) (i4 : Int) (h : Heap) (Q : Option Addr → Option Addr → Option Addr → Int → Int → Int → Int → Heap → Prop) : Prop :=
 ∀ k12 : Nat, h k12 = none → B k12 = none → ∀ h13 : Heap, h13 = Heap.set h k12 (.vec 30 (plains [(.int .i64 (i1)), (.int .i64 (i2)), (.int .i64 (i3)), (.int .i64 (i4))]) 4) →
 ∀ k14 : Nat, h13 k14 = none → B k14 = none → ∀ h15 : Heap, h15 = Heap.set h13 k14 (.vec 55 (plains [(.pointer none), (.pointer none), (.pointer none), (.int .i64 (0)), (.int .i64 (0)), (.int .i64 (0)), (.int .i64 (0))]) 7) →
 ∃ i18 : Int, ∃ i19 : Int, ∃ i20 : Int, ∃ i21 : Int, CellsAt B h15 ⟨k12, 0, none⟩ 0 [(.int .i64 (i18)), (.int .i64 (i19)), (.int .i64 (i20)), (.int .i64 (i21))] ∧
 (∀ k82 : Nat, h15 k82 = none → B k82 = none → ∀ h83 : Heap, h83 = Heap.set h15 k82 (.vec 100 (plains [(.slice none 0 0)]) 1) →
 CellsAt B h83 ⟨k12, 0, none⟩ 0 [(.int .i64 (i18)), (.int .i64 (i19)), (.int .i64 (i20)), (.int .i64 (i21))] ∧
 (C_sheet_New B h83 (fun p86 h85 =>
 CellsAt B h85 ⟨k12, 0, none⟩ 0 [(.int .i64 (i18)), (.int .i64 (i19)), (.int .i64 (i20)), (.int .i64 (i21))] ∧
 ∀ k88 : Nat, h85 k88 = none → B k88 = none → ∀ h89 : Heap, h89 = Heap.set h85 k88 (.vec 104 (plains [(.int .i64 (0)), (.int .i64 (0)), (.int .i64 (0))]) 3) →
 CellsAt B h89 ⟨k12, 0, none⟩ 0 [(.int .i64 (i18)), (.int .i64 (i19)), (.int .i64 (i20)), (.int .i64 (i21))] ∧
 S_mark_Fresh_J1 B k12 k14 i18 i19 i20 i21 ⟨k82, 0, none⟩ p86 ⟨k88, 0, none⟩ h89 Q)) ∧
 (∀ k91 : Nat, h83 k91 = none → B k91 = none → ∀ h92 : Heap, h92 = Heap.set h83 k91 (.vec 104 (plains [(.int .i64 (0)), (.int .i64 (0)), (.int .i64 (0))]) 3) →
 CellsAt B h92 ⟨k12, 0, none⟩ 0 [(.int .i64 (i18)), (.int .i64 (i19)), (.int .i64 (i20)), (.int .i64 (i21))] ∧
 C_sheet_New B h92 (fun p95 h94 =>
 CellsAt B h94 ⟨k12, 0, none⟩ 0 [(.int .i64 (i18)), (.int .i64 (i19)), (.int .i64 (i20)), (.int .i64 (i21))] ∧
 S_mark_Fresh_J1 B k12 k14 i18 i19 i20 i21 ⟨k82, 0, none⟩ p95 ⟨k91, 0, none⟩ h94 Q))) ∧
 (C_sheet_New B h15 (fun p98 h97 =>
 CellsAt B h97 ⟨k12, 0, none⟩ 0 [(.int .i64 (i18)), (.int .i64 (i19)), (.int .i64 (i20)), (.int .i64 (i21))] ∧
 (∀ k100 : Nat, h97 k100 = none → B k100 = none → ∀ h101 : Heap, h101 = Heap.set h97 k100 (.vec 100 (plains [(.slice none 0 0)]) 1) →
 CellsAt B h101 ⟨k12, 0, none⟩ 0 [(.int .i64 (i18)), (.int .i64 (i19)), (.int .i64 (i20)), (.int .i64 (i21))] ∧
 ∀ k103 : Nat, h101 k103 = none → B k103 = none → ∀ h104 : Heap, h104 = Heap.set h101 k103 (.vec 104 (plains [(.int .i64 (0)), (.int .i64 (0)), (.int .i64 (0))]) 3) →
 CellsAt B h104 ⟨k12, 0, none⟩ 0 [(.int .i64 (i18)), (.int .i64 (i19)), (.int .i64 (i20)), (.int .i64 (i21))] ∧
 S_mark_Fresh_J1 B k12 k14 i18 i19 i20 i21 ⟨k100, 0, none⟩ p98 ⟨k103, 0, none⟩ h104 Q) ∧
 (∀ k106 : Nat, h97 k106 = none → B k106 = none → ∀ h107 : Heap, h107 = Heap.set h97 k106 (.vec 104 (plains [(.int .i64 (0)), (.int .i64 (0)), (.int .i64 (0))]) 3) →
 CellsAt B h107 ⟨k12, 0, none⟩ 0 [(.int .i64 (i18)), (.int .i64 (i19)), (.int .i64 (i20)), (.int .i64 (i21))] ∧
 ∀ k109 : Nat, h107 k109 = none → B k109 = none → ∀ h110 : Heap, h110 = Heap.set h107 k109 (.vec 100 (plains [(.slice none 0 0)]) 1) →
 CellsAt B h110 ⟨k12, 0, none⟩ 0 [(.int .i64 (i18)), (.int .i64 (i19)), (.int .i64 (i20)), (.int .i64 (i21))] ∧
 S_mark_Fresh_J1 B k12 k14 i18 i19 i20 i21 ⟨k109, 0, none⟩ p98 ⟨k106, 0, none⟩ h110 Q))) ∧
 (∀ k112 : Nat, h15 k112 = none → B k112 = none → ∀ h113 : Heap, h113 = Heap.set h15 k112 (.vec 104 (plains [(.int .i64 (0)), (.int .i64 (0)), (.int .i64 (0))]) 3) →
 CellsAt B h113 ⟨k12, 0, none⟩ 0 [(.int .i64 (i18)), (.int .i64 (i19)), (.int .i64 (i20)), (.int .i64 (i21))] ∧
 (∀ k115 : Nat, h113 k115 = none → B k115 = none → ∀ h116 : Heap, h116 = Heap.set h113 k115 (.vec 100 (plains [(.slice none 0 0)]) 1) →
 CellsAt B h116 ⟨k12, 0, none⟩ 0 [(.int .i64 (i18)), (.int .i64 (i19)), (.int .i64 (i20)), (.int .i64 (i21))] ∧
 C_sheet_New B h116 (fun p119 h118 =>
 CellsAt B h118 ⟨k12, 0, none⟩ 0 [(.int .i64 (i18)), (.int .i64 (i19)), (.int .i64 (i20)), (.int .i64 (i21))] ∧
 S_mark_Fresh_J1 B k12 k14 i18 i19 i20 i21 ⟨k115, 0, none⟩ p119 ⟨k112, 0, none⟩ h118 Q)) ∧
 (C_sheet_New B h113 (fun p122 h121 =>
 CellsAt B h121 ⟨k12, 0, none⟩ 0 [(.int .i64 (i18)), (.int .i64 (i19)), (.int .i64 (i20)), (.int .i64 (i21))] ∧
 ∀ k124 : Nat, h121 k124 = none → B k124 = none → ∀ h125 : Heap, h125 = Heap.set h121 k124 (.vec 100 (plains [(.slice none 0 0)]) 1) →
 CellsAt B h125 ⟨k12, 0, none⟩ 0 [(.int .i64 (i18)), (.int .i64 (i19)), (.int .i64 (i20)), (.int .i64 (i21))] ∧
 S_mark_Fresh_J1 B k12 k14 i18 i19 i20 i21 ⟨k124, 0, none⟩ p122 ⟨k112, 0, none⟩ h125 Q)))
def S_draft_Draft_int_Put (B : RO) (p1 : Option Addr) (i2 : Int) (i3 : Int) (h : Heap) (Q : Bool → Heap → Prop) : Prop :=
 (p1 = none →
 Fin B h (Q (false))) ∧ (¬ (p1 = none) →
 C_draft_Draft_int_find B p1 (i2) h (fun i7 b8 h6 =>
 (b8 = true →
 ∃ A24 : Addr, p1 = some A24 ∧
 LdSl B h6 A24 fun a26 n27 c28 h29 =>
 ∃ A30 : Addr, a26 = some A30 ∧ 0 ≤ (i7 : Int) ∧ (i7 : Int) < (n27 : Nat) ∧
 ∃ h32 : Heap, storeH h29 (Addr.add (Addr.add A30 (Int.toNat (i7) * 2)) 1) (.int .i64 (i3)) = some h32 ∧
 Fin B h32 (Q (true))) ∧ (b8 = false →
 ∃ A9 : Addr, p1 = some A9 ∧
 LdSl B h6 A9 fun a11 n12 c13 h14 =>
 ∀ k15 : Nat, h14 k15 = none → B k15 = none → ∀ h16 : Heap, h16 = Heap.set h14 k15 (.vec 106 (plains [(.int .i64 (i2)), (.int .i64 (i3))]) 2) →
 C_slices_Insert_s_draft_entry_int_draft_entry_int B a11 n12 c13 (i7) (some ⟨k15, 0, none⟩) 1 1 h16 (fun a18 n19 c20 h17 =>
 ∃ A21 : Addr, p1 = some A21 ∧
 ∃ h23 : Heap, storeH h17 A21 (.slice a18 n19 c20) = some h23 ∧
 Fin B h23 (Q (true))))))
def S_attempt_Attempt_Valid (B : RO) (p1 : Option Addr) (h : Heap) (Q : Bool → Heap → Prop) : Prop :=
 (p1 = none →
 Fin B h (Q (false))) ∧ (¬ (p1 = none) →
 ∃ A10 : Addr, p1 = some A10 ∧
 ∃ p14 : Option Addr, cellH B h (Addr.add A10 1) = some (.pointer p14) ∧
 ∃ A17 : Addr, p1 = some A17 ∧
 ∃ p21 : Option Addr, cellH B h A17 = some (.pointer p21) ∧
 C_attempt_View_Now B p21 h (fun l24 h23 =>
 cellH B h23 (Addr.add A10 1) = some (.pointer p14) ∧ cellH B h23 A17 = some (.pointer p21) ∧
 C_reads_Set_Valid B p14 l24 h23 (fun b28 h27 =>
 cellH B h27 (Addr.add A10 1) = some (.pointer p14) ∧ cellH B h27 A17 = some (.pointer p21) ∧
 Fin B h27 (Q (b28)))))
def S_draft_Draft_int_All (B : RO) (p1 : Option Addr) (h : Heap) (Q : Value → Heap → Prop) : Prop :=
 ∀ k3 : Nat, h k3 = none → B k3 = none → ∀ h4 : Heap, h4 = Heap.set h k3 (.vec 51 [.plain (.pointer p1)] 1) →
 Fin B h4 (Q (Value.func (.func 42) #[] #[(.pointer (some ⟨k3, 0, none⟩))]))
def S_cell_Row_int_Set (B : RO) (p1 : Option Addr) (i2 : Int) (i3 : Int) (i4 : Int) (h : Heap) (Q : Bool → Heap → Prop) : Prop :=
 C_cell_Row_int_is B p1 (i2) h (fun b7 h6 =>
 (b7 = true →
 ∃ A8 : Addr, p1 = some A8 ∧
 LdSl B h6 A8 fun a10 n11 c12 h13 =>
 ∃ A14 : Addr, a10 = some A14 ∧ 0 ≤ (i2 : Int) ∧ (i2 : Int) < (n11 : Nat) ∧
 ∃ h16 : Heap, StoresAt (Addr.add A14 (Int.toNat (i2) * 2)) h13 0 [(.int .i64 (i3)), (.int .i64 (i4))] h16 ∧
 Fin B h16 (Q (true))) ∧ (b7 = false →
 Fin B h6 (Q (false))))
def S_sheet_Sheet_Over (B : RO) (p1 : Option Addr) (p2 : Option Addr) (i3 : Int) (h : Heap) (Q : Int → Heap → Prop) : Prop :=
 ∀ k5 : Nat, h k5 = none → B k5 = none → ∀ h6 : Heap, h6 = Heap.set h k5 (.vec 34 [.plain (.pointer p2)] 1) →
 ∀ k7 : Nat, h6 k7 = none → B k7 = none → ∀ h8 : Heap, h8 = Heap.set h6 k7 (.vec 3 [.plain (.int .i64 (i3))] 1) →
 ∀ k9 : Nat, h8 k9 = none → B k9 = none → ∀ h10 : Heap, h10 = Heap.set h8 k9 (.vec 3 (plains [(.int .i64 (0))]) 1) →
 ∃ h11 : Heap, storeH h10 ⟨k9, 0, none⟩ (.int .i64 (0)) = some h11 ∧
 C_sheet_Sheet_Draft B p1 h11 (fun p13 h12 =>
 C_draft_Draft_file_File_All B p13 h12 (fun v15 h14 =>
 ∃ (xs23 : List (Int × Bool × ByteArray)) (G19 : Heap → Prop) (J22 : Nat → Heap → Prop), Iter PG B v15 (xs23.map (fun x : Int × Bool × ByteArray => [(.int .i64 (x.1)), (.agg #[(.bool x.2.1), (.string x.2.2)])])) G19 ∧ Ins G19 ∧ (∀ i h, J22 i h → G19 h) ∧ Fin B h14 (J22 0) ∧
 (∀ (q21 : Nat) (h20 : Heap) (i16 : Int) (b17 : Bool) (s18 : ByteArray), xs23[q21]? = some (i16, b17, s18) → J22 q21 h20 →
 ∀ k24 : Nat, h20 k24 = none → B k24 = none → ∀ h25 : Heap, h25 = Heap.set h20 k24 (.vec 92 (plains [(.bool false), (.string ByteArray.empty)]) 2) →
 ∃ h26 : Heap, StoresAt ⟨k24, 0, none⟩ h25 0 [(.bool b17), (.string s18)] h26 ∧
 ∃ p27 : Option Addr, cellH B h26 ⟨k5, 0, none⟩ = some (.pointer p27) ∧
 ∃ b28 : Bool, ∃ s29 : ByteArray, CellsAt B h26 ⟨k24, 0, none⟩ 0 [(.bool b28), (.string s29)] ∧
 ∃ i30 : Int, cellH B h26 ⟨k7, 0, none⟩ = some (.int .i64 (i30)) ∧
 C_tome_Tome_Set B p27 (i16) (b28) s29 (i30) h26 (fun b32 h31 =>
 (b32 = true →
 ∃ i33 : Int, cellH B h31 ⟨k9, 0, none⟩ = some (.int .i64 (i33)) ∧
 ∃ h34 : Heap, storeH h31 ⟨k9, 0, none⟩ (.int .i64 (IntKind.wrap .i64 ((i33) + (1)))) = some h34 ∧
 Fin B h34 (J22 (q21 + 1))) ∧ (b32 = false →
 Fin B h31 (J22 (q21 + 1))))) ∧
 (∀ (h20 : Heap), J22 xs23.length h20 →
 ∃ i35 : Int, cellH B h20 ⟨k9, 0, none⟩ = some (.int .i64 (i35)) ∧
 Fin B h20 (Q (i35)))))
def S_cursor_Cursor_Read_J1 (B : RO) (p1 : Option Addr) (i2 : Int) (h5 : Heap) (Q : Int → Heap → Prop) : Prop :=
 ∃ A6 : Addr, p1 = some A6 ∧
 0 ≤ (i2 : Int) ∧ (i2 : Int) < (3 : Nat) ∧
 ∃ i8 : Int, cellH B h5 (Addr.add A6 (Int.toNat (i2) * 1)) = some (.int .i64 (i8)) ∧
 Fin B h5 (Q (i8))
def S_cursor_Cursor_Read (B : RO) (p1 : Option Addr) (i2 : Int) (h : Heap) (Q : Int → Heap → Prop) : Prop :=
 (p1 = none →
 Fin B h (Q (0))) ∧ (¬ (p1 = none) →
 C_cursor_is B (i2) h (fun b11 h10 =>
 (b11 = true →
 Fin B h10 (fun h' => S_cursor_Cursor_Read_J1 B p1 i2 h' Q)) ∧ (b11 = false →
 Fin B h10 (Q (0)))))
def S_feed_Feed_Place (B : RO) (p1 : Option Addr) (i2 : Int) (h : Heap) (Q : Int → Int → Heap → Prop) : Prop :=
 (p1 = none →
 Fin B h (Q (0) (0))) ∧ (¬ (p1 = none) →
 ∃ A6 : Addr, p1 = some A6 ∧
 ∃ p8 : Option Addr, cellH B h (Addr.add A6 3) = some (.pointer p8) ∧
 C_cell_Row_int_Get B p8 (i2) h (fun i10 i11 h9 =>
 Fin B h9 (Q (i10) (i11))))
def S_feed_Feed_Take_J1 (B : RO) (p1 : Option Addr) (i2 : Int) (i3 : Int) (i4 : Int) (h10 : Heap) (Q : Bool → Heap → Prop) : Prop :=
 ∃ A11 : Addr, p1 = some A11 ∧
 ∃ p13 : Option Addr, cellH B h10 (Addr.add A11 3) = some (.pointer p13) ∧
 C_cell_Row_int_Set B p13 (i2) (i3) (i4) h10 (fun b15 h14 =>
 Fin B h14 (Q (b15)))
def S_feed_Feed_Take (B : RO) (p1 : Option Addr) (i2 : Int) (i3 : Int) (i4 : Int) (h : Heap) (Q : Bool → Heap → Prop) : Prop :=
 C_feed_Feed_Place B p1 (i2) h (fun i7 i8 h6 =>
 C_feed_Feed_is B p1 (i2) h6 (fun b17 h16 =>
 (b17 = true →
 ((i3 : Int) < (i7) →
 Fin B h16 (Q (false))) ∧ (¬ ((i3 : Int) < (i7)) →
 ∃ A18 : Addr, p1 = some A18 ∧
 0 ≤ (i2 : Int) ∧ (i2 : Int) < (3 : Nat) ∧
 ∃ s20 : ByteArray, cellH B h16 (Addr.add A18 (Int.toNat (i2) * 1)) = some (.string s20) ∧
 ((i3 : Int) > ((ByteArray.size s20 : Nat)) →
 Fin B h16 (Q (false))) ∧ (¬ ((i3 : Int) > ((ByteArray.size s20 : Nat))) →
 Fin B h16 (fun h' => S_feed_Feed_Take_J1 B p1 i2 i3 i4 h' Q)))) ∧ (b17 = false →
 Fin B h16 (Q (false)))))
def S_cell_Row_int_is (B : RO) (p1 : Option Addr) (i2 : Int) (h : Heap) (Q : Bool → Heap → Prop) : Prop :=
 (p1 = none →
 Fin B h (Q (false))) ∧ (¬ (p1 = none) →
 ((i2 : Int) ≥ (0) →
 ∃ A5 : Addr, p1 = some A5 ∧
 LdSl B h A5 fun a7 n8 c9 h10 =>
 Fin B h10 (Q ((decide ((i2 : Int) < ((n8 : Nat))))))) ∧ (¬ ((i2 : Int) ≥ (0)) →
 Fin B h (Q (false))))
def S_feed_Feed_is (B : RO) (p1 : Option Addr) (i2 : Int) (h : Heap) (Q : Bool → Heap → Prop) : Prop :=
 (p1 = none →
 Fin B h (Q (false))) ∧ (¬ (p1 = none) →
 ((i2 : Int) ≥ (0) →
 Fin B h (Q ((decide ((i2 : Int) < (3)))))) ∧ (¬ ((i2 : Int) ≥ (0)) →
 Fin B h (Q (false))))
def S_attempt_Attempt_note (B : RO) (p1 : Option Addr) (i2 : Int) (i3 : Int) (h : Heap) (Q : Int → Heap → Prop) : Prop :=
 ∃ A6 : Addr, p1 = some A6 ∧
 ∃ p10 : Option Addr, cellH B h (Addr.add A6 1) = some (.pointer p10) ∧
 ∃ A13 : Addr, p1 = some A13 ∧
 ∃ p17 : Option Addr, cellH B h A13 = some (.pointer p17) ∧
 C_attempt_View_Now B p17 h (fun l22 h21 =>
 cellH B h21 (Addr.add A6 1) = some (.pointer p10) ∧ cellH B h21 A13 = some (.pointer p17) ∧
 C_reads_Set_Note B p10 l22 (i2) (i3) h21 (fun b26 h25 =>
 (b26 = true →
 cellH B h25 (Addr.add A6 1) = some (.pointer p10) ∧ cellH B h25 A13 = some (.pointer p17) ∧
 Fin B h25 (Q (0))) ∧ (b26 = false →
 cellH B h25 (Addr.add A6 1) = some (.pointer p10) ∧ cellH B h25 A13 = some (.pointer p17) ∧
 Fin B h25 (Q (9)))))
def S_draft_Draft_int_Get (B : RO) (p1 : Option Addr) (i2 : Int) (h : Heap) (Q : Int → Bool → Heap → Prop) : Prop :=
 (p1 = none →
 Fin B h (Q (0) (false))) ∧ (¬ (p1 = none) →
 C_draft_Draft_int_find B p1 (i2) h (fun i7 b8 h6 =>
 (b8 = true →
 ∃ A9 : Addr, p1 = some A9 ∧
 LdSl B h6 A9 fun a11 n12 c13 h14 =>
 ∃ A15 : Addr, a11 = some A15 ∧ 0 ≤ (i7 : Int) ∧ (i7 : Int) < (n12 : Nat) ∧
 ∃ i17 : Int, cellH B h14 (Addr.add (Addr.add A15 (Int.toNat (i7) * 2)) 1) = some (.int .i64 (i17)) ∧
 Fin B h14 (Q (i17) (true))) ∧ (b8 = false →
 Fin B h6 (Q (0) (false)))))
def S_cell_New_file_File (B : RO) (i1 : Int) (b2 : Bool) (s3 : ByteArray) (h : Heap) (Q : Option Addr → Heap → Prop) : Prop :=
 ∀ k5 : Nat, h k5 = none → B k5 = none → ∀ h6 : Heap, h6 = Heap.set h k5 (.vec 92 (plains [(.bool b2), (.string s3)]) 2) →
 ∀ k7 : Nat, h6 k7 = none → B k7 = none → ∀ h8 : Heap, h8 = Heap.set h6 k7 (.vec 123 (plains [(.slice none 0 0)]) 1) →
 ∃ (J14 : Int → Nat → Heap → Prop) (m12 : Nat), Fin B h8 (J14 (0) m12) ∧
 ∀ (i9 : Int) (m11 : Nat) (h10 : Heap), J14 i9 m11 h10 →
 ((i9 : Int) < (i1) →
 ∃ a19 : Option Addr, ∃ n20 : Nat, ∃ c21 : Nat, cellH B h10 ⟨k7, 0, none⟩ = some (.slice a19 n20 c21) ∧
 ∃ b23 : Bool, ∃ s24 : ByteArray, CellsAt B h10 ⟨k5, 0, none⟩ 0 [(.bool b23), (.string s24)] ∧
 ∀ k27 : Nat, h10 k27 = none → B k27 = none → ∀ h28 : Heap, h28 = Heap.set h10 k27 (.vec 125 (plains [(.bool b23), (.string s24), (.int .i64 (0))]) 3) →
 cellH B h28 ⟨k7, 0, none⟩ = some (.slice a19 n20 c21) ∧ CellsAt B h28 ⟨k5, 0, none⟩ 0 [(.bool b23), (.string s24)] ∧
 semH PG B (Builtin.append_ #[121, 121] 121 #[(.slice a19 n20 c21), (.slice (some ⟨k27, 0, none⟩) 1 1)]) h28 (fun v h31 => ∃ a32 : Option Addr, ∃ n33 : Nat, ∃ c34 : Nat, v = (.slice a32 n33 c34) ∧
 cellH B h31 ⟨k7, 0, none⟩ = some (.slice a19 n20 c21) ∧ CellsAt B h31 ⟨k5, 0, none⟩ 0 [(.bool b23), (.string s24)] ∧
 ∃ h37 : Heap, storeH h31 ⟨k7, 0, none⟩ (.slice a32 n33 c34) = some h37 ∧
 Fin B h37 (fun h' => ∃ m', m' < m11 ∧ J14 (IntKind.wrap .i64 ((i9) + (1))) m' h'))) ∧ (¬ ((i9 : Int) < (i1)) →
 Fin B h10 (Q (some ⟨k7, 0, none⟩)))
def S_sheet_New (B : RO) (h : Heap) (Q : Option Addr → Heap → Prop) : Prop :=
 ∀ k2 : Nat, h k2 = none → B k2 = none → ∀ h3 : Heap, h3 = Heap.set h k2 (.vec 128 (plains [(.slice none 0 0)]) 1) →
 ∀ k4 : Nat, h3 k4 = none → B k4 = none → ∀ h5 : Heap, h5 = Heap.set h3 k4 (.vec 130 (plains [(.pointer (some ⟨k2, 0, none⟩))]) 1) →
 Fin B h5 (Q (some ⟨k4, 0, none⟩))
def S_draft_Draft_int_find (B : RO) (p1 : Option Addr) (i2 : Int) (h : Heap) (Q : Int → Bool → Heap → Prop) : Prop :=
 ∃ A5 : Addr, p1 = some A5 ∧
 LdSl B h A5 fun a7 n8 c9 h10 =>
 C_slices_BinarySearchFunc_s_draft_entry_int_draft_entry_int_int B a7 n8 c9 (i2) (Value.func (.func 49) #[] #[]) h10 (fun i12 b13 h11 =>
 Fin B h11 (Q (i12) (b13)))
def S_slices_Insert_s_draft_entry_int_draft_entry_int (B : RO) (a1 : Option Addr) (n2 : Nat) (c3 : Nat) (i4 : Int) (a5 : Option Addr) (n6 : Nat) (c7 : Nat) (h : Heap) (Q : Option Addr → Nat → Nat → Heap → Prop) : Prop :=
 0 ≤ (i4 : Int) ∧ (i4 : Int) ≤ ((n2 : Nat) : Int) ∧ ((n2 : Nat) : Int) ≤ (c3 : Nat) ∧
 (((n6 : Nat) : Int) = 0 →
 Fin B h (Q a1 n2 c3)) ∧ (¬ (((n6 : Nat) : Int) = 0) →
 ((i4 : Int) = (n2 : Nat) →
 semH PG B (Builtin.append_ #[98, 98] 98 #[(.slice a1 n2 c3), (.slice a5 n6 c7)]) h (fun v h11 => ∃ a12 : Option Addr, ∃ n13 : Nat, ∃ c14 : Nat, v = (.slice a12 n13 c14) ∧
 Fin B h11 (Q a12 n13 c14))) ∧ (¬ ((i4 : Int) = (n2 : Nat)) →
 ((IntKind.wrap .i64 (((n2 : Nat)) + ((n6 : Nat))) : Int) > ((c3 : Nat)) →
 0 ≤ (0 : Int) ∧ (0 : Int) ≤ (i4 : Int) ∧ (i4 : Int) ≤ (c3 : Nat) ∧
 semH PG B (Builtin.append_ #[98, 3] 98 #[(.slice (if c3 = Int.toNat (0) then a1 else Option.map (·.add (Int.toNat (0) * 2)) a1) (Int.toNat (i4) - Int.toNat (0)) (c3 - Int.toNat (0))), (.int .i64 (IntKind.wrap .i64 ((IntKind.wrap .i64 (((n2 : Nat)) + ((n6 : Nat)))) - (i4))))]) h (fun v h15 => ∃ a16 : Option Addr, ∃ n17 : Nat, ∃ c18 : Nat, v = (.slice a16 n17 c18) ∧
 0 ≤ (i4 : Int) ∧ (i4 : Int) ≤ ((n17 : Nat) : Int) ∧ ((n17 : Nat) : Int) ≤ (c18 : Nat) ∧
 semH PG B (Builtin.copy_ #[98, 98] 3 #[(.slice (if c18 = Int.toNat (i4) then a16 else Option.map (·.add (Int.toNat (i4) * 2)) a16) (Int.toNat ((n17 : Nat)) - Int.toNat (i4)) (c18 - Int.toNat (i4))), (.slice a5 n6 c7)]) h15 (fun v h19 => ∃ i20 : Int, v = (.int .i64 (i20)) ∧
 0 ≤ (IntKind.wrap .i64 ((i4) + ((n6 : Nat))) : Int) ∧ (IntKind.wrap .i64 ((i4) + ((n6 : Nat))) : Int) ≤ ((n17 : Nat) : Int) ∧ ((n17 : Nat) : Int) ≤ (c18 : Nat) ∧
 0 ≤ (i4 : Int) ∧ (i4 : Int) ≤ ((n2 : Nat) : Int) ∧ ((n2 : Nat) : Int) ≤ (c3 : Nat) ∧
 semH PG B (Builtin.copy_ #[98, 98] 3 #[(.slice (if c18 = Int.toNat (IntKind.wrap .i64 ((i4) + ((n6 : Nat)))) then a16 else Option.map (·.add (Int.toNat (IntKind.wrap .i64 ((i4) + ((n6 : Nat)))) * 2)) a16) (Int.toNat ((n17 : Nat)) - Int.toNat (IntKind.wrap .i64 ((i4) + ((n6 : Nat))))) (c18 - Int.toNat (IntKind.wrap .i64 ((i4) + ((n6 : Nat)))))), (.slice (if c3 = Int.toNat (i4) then a1 else Option.map (·.add (Int.toNat (i4) * 2)) a1) (Int.toNat ((n2 : Nat)) - Int.toNat (i4)) (c3 - Int.toNat (i4)))]) h19 (fun v h21 => ∃ i22 : Int, v = (.int .i64 (i22)) ∧
 Fin B h21 (Q a16 n17 c18))))) ∧ (¬ ((IntKind.wrap .i64 (((n2 : Nat)) + ((n6 : Nat))) : Int) > ((c3 : Nat))) →
 0 ≤ (0 : Int) ∧ (0 : Int) ≤ (IntKind.wrap .i64 (((n2 : Nat)) + ((n6 : Nat))) : Int) ∧ (IntKind.wrap .i64 (((n2 : Nat)) + ((n6 : Nat))) : Int) ≤ (c3 : Nat) ∧
 0 ≤ (IntKind.wrap .i64 ((i4) + ((n6 : Nat))) : Int) ∧ (IntKind.wrap .i64 ((i4) + ((n6 : Nat))) : Int) ≤ (((Int.toNat (IntKind.wrap .i64 (((n2 : Nat)) + ((n6 : Nat)))) - Int.toNat (0)) : Nat) : Int) ∧ (((Int.toNat (IntKind.wrap .i64 (((n2 : Nat)) + ((n6 : Nat)))) - Int.toNat (0)) : Nat) : Int) ≤ ((c3 - Int.toNat (0)) : Nat) ∧
 semH PG B (Extern.SlicesOverlaps.overlaps #[98, 98] #[4] #[(.slice a5 n6 c7), (.slice (if (c3 - Int.toNat (0)) = Int.toNat (IntKind.wrap .i64 ((i4) + ((n6 : Nat)))) then (if c3 = Int.toNat (0) then a1 else Option.map (·.add (Int.toNat (0) * 2)) a1) else Option.map (·.add (Int.toNat (IntKind.wrap .i64 ((i4) + ((n6 : Nat)))) * 2)) (if c3 = Int.toNat (0) then a1 else Option.map (·.add (Int.toNat (0) * 2)) a1)) (Int.toNat (((Int.toNat (IntKind.wrap .i64 (((n2 : Nat)) + ((n6 : Nat)))) - Int.toNat (0)) : Nat)) - Int.toNat (IntKind.wrap .i64 ((i4) + ((n6 : Nat))))) ((c3 - Int.toNat (0)) - Int.toNat (IntKind.wrap .i64 ((i4) + ((n6 : Nat))))))]) h (fun v h23 => ∃ b24 : Bool, v = (.bool b24) ∧
 (b24 = true →
 0 ≤ ((n2 : Nat) : Int) ∧ ((n2 : Nat) : Int) ≤ (((Int.toNat (IntKind.wrap .i64 (((n2 : Nat)) + ((n6 : Nat)))) - Int.toNat (0)) : Nat) : Int) ∧ (((Int.toNat (IntKind.wrap .i64 (((n2 : Nat)) + ((n6 : Nat)))) - Int.toNat (0)) : Nat) : Int) ≤ ((c3 - Int.toNat (0)) : Nat) ∧
 semH PG B (Builtin.copy_ #[98, 98] 3 #[(.slice (if (c3 - Int.toNat (0)) = Int.toNat ((n2 : Nat)) then (if c3 = Int.toNat (0) then a1 else Option.map (·.add (Int.toNat (0) * 2)) a1) else Option.map (·.add (Int.toNat ((n2 : Nat)) * 2)) (if c3 = Int.toNat (0) then a1 else Option.map (·.add (Int.toNat (0) * 2)) a1)) (Int.toNat (((Int.toNat (IntKind.wrap .i64 (((n2 : Nat)) + ((n6 : Nat)))) - Int.toNat (0)) : Nat)) - Int.toNat ((n2 : Nat))) ((c3 - Int.toNat (0)) - Int.toNat ((n2 : Nat)))), (.slice a5 n6 c7)]) h23 (fun v h29 => ∃ i30 : Int, v = (.int .i64 (i30)) ∧
 0 ≤ (i4 : Int) ∧ (i4 : Int) ≤ (((Int.toNat (IntKind.wrap .i64 (((n2 : Nat)) + ((n6 : Nat)))) - Int.toNat (0)) : Nat) : Int) ∧ (((Int.toNat (IntKind.wrap .i64 (((n2 : Nat)) + ((n6 : Nat)))) - Int.toNat (0)) : Nat) : Int) ≤ ((c3 - Int.toNat (0)) : Nat) ∧
 C_slices_rotateRight_draft_entry_int B (if (c3 - Int.toNat (0)) = Int.toNat (i4) then (if c3 = Int.toNat (0) then a1 else Option.map (·.add (Int.toNat (0) * 2)) a1) else Option.map (·.add (Int.toNat (i4) * 2)) (if c3 = Int.toNat (0) then a1 else Option.map (·.add (Int.toNat (0) * 2)) a1)) (Int.toNat (((Int.toNat (IntKind.wrap .i64 (((n2 : Nat)) + ((n6 : Nat)))) - Int.toNat (0)) : Nat)) - Int.toNat (i4)) ((c3 - Int.toNat (0)) - Int.toNat (i4)) ((n6 : Nat)) h29 (fun h31 =>
 Fin B h31 (Q (if c3 = Int.toNat (0) then a1 else Option.map (·.add (Int.toNat (0) * 2)) a1) (Int.toNat (IntKind.wrap .i64 (((n2 : Nat)) + ((n6 : Nat)))) - Int.toNat (0)) (c3 - Int.toNat (0)))))) ∧ (b24 = false →
 0 ≤ (IntKind.wrap .i64 ((i4) + ((n6 : Nat))) : Int) ∧ (IntKind.wrap .i64 ((i4) + ((n6 : Nat))) : Int) ≤ (((Int.toNat (IntKind.wrap .i64 (((n2 : Nat)) + ((n6 : Nat)))) - Int.toNat (0)) : Nat) : Int) ∧ (((Int.toNat (IntKind.wrap .i64 (((n2 : Nat)) + ((n6 : Nat)))) - Int.toNat (0)) : Nat) : Int) ≤ ((c3 - Int.toNat (0)) : Nat) ∧
 0 ≤ (i4 : Int) ∧ (i4 : Int) ≤ (((Int.toNat (IntKind.wrap .i64 (((n2 : Nat)) + ((n6 : Nat)))) - Int.toNat (0)) : Nat) : Int) ∧ (((Int.toNat (IntKind.wrap .i64 (((n2 : Nat)) + ((n6 : Nat)))) - Int.toNat (0)) : Nat) : Int) ≤ ((c3 - Int.toNat (0)) : Nat) ∧
 semH PG B (Builtin.copy_ #[98, 98] 3 #[(.slice (if (c3 - Int.toNat (0)) = Int.toNat (IntKind.wrap .i64 ((i4) + ((n6 : Nat)))) then (if c3 = Int.toNat (0) then a1 else Option.map (·.add (Int.toNat (0) * 2)) a1) else Option.map (·.add (Int.toNat (IntKind.wrap .i64 ((i4) + ((n6 : Nat)))) * 2)) (if c3 = Int.toNat (0) then a1 else Option.map (·.add (Int.toNat (0) * 2)) a1)) (Int.toNat (((Int.toNat (IntKind.wrap .i64 (((n2 : Nat)) + ((n6 : Nat)))) - Int.toNat (0)) : Nat)) - Int.toNat (IntKind.wrap .i64 ((i4) + ((n6 : Nat))))) ((c3 - Int.toNat (0)) - Int.toNat (IntKind.wrap .i64 ((i4) + ((n6 : Nat)))))), (.slice (if (c3 - Int.toNat (0)) = Int.toNat (i4) then (if c3 = Int.toNat (0) then a1 else Option.map (·.add (Int.toNat (0) * 2)) a1) else Option.map (·.add (Int.toNat (i4) * 2)) (if c3 = Int.toNat (0) then a1 else Option.map (·.add (Int.toNat (0) * 2)) a1)) (Int.toNat (((Int.toNat (IntKind.wrap .i64 (((n2 : Nat)) + ((n6 : Nat)))) - Int.toNat (0)) : Nat)) - Int.toNat (i4)) ((c3 - Int.toNat (0)) - Int.toNat (i4)))]) h23 (fun v h25 => ∃ i26 : Int, v = (.int .i64 (i26)) ∧
 0 ≤ (i4 : Int) ∧ (i4 : Int) ≤ (((Int.toNat (IntKind.wrap .i64 (((n2 : Nat)) + ((n6 : Nat)))) - Int.toNat (0)) : Nat) : Int) ∧ (((Int.toNat (IntKind.wrap .i64 (((n2 : Nat)) + ((n6 : Nat)))) - Int.toNat (0)) : Nat) : Int) ≤ ((c3 - Int.toNat (0)) : Nat) ∧
 semH PG B (Builtin.copy_ #[98, 98] 3 #[(.slice (if (c3 - Int.toNat (0)) = Int.toNat (i4) then (if c3 = Int.toNat (0) then a1 else Option.map (·.add (Int.toNat (0) * 2)) a1) else Option.map (·.add (Int.toNat (i4) * 2)) (if c3 = Int.toNat (0) then a1 else Option.map (·.add (Int.toNat (0) * 2)) a1)) (Int.toNat (((Int.toNat (IntKind.wrap .i64 (((n2 : Nat)) + ((n6 : Nat)))) - Int.toNat (0)) : Nat)) - Int.toNat (i4)) ((c3 - Int.toNat (0)) - Int.toNat (i4))), (.slice a5 n6 c7)]) h25 (fun v h27 => ∃ i28 : Int, v = (.int .i64 (i28)) ∧
 Fin B h27 (Q (if c3 = Int.toNat (0) then a1 else Option.map (·.add (Int.toNat (0) * 2)) a1) (Int.toNat (IntKind.wrap .i64 (((n2 : Nat)) + ((n6 : Nat)))) - Int.toNat (0)) (c3 - Int.toNat (0))))))))))
def S_reads_Set_Valid (B : RO) (p1 : Option Addr) (l2 : List Value) (h : Heap) (Q : Bool → Heap → Prop) : Prop :=
 ∀ k4 : Nat, h k4 = none → B k4 = none → ∀ h5 : Heap, h5 = Heap.set h k4 (.vec 112 (plains l2) (List.length l2)) →
 (p1 = none →
 Fin B h5 (Q (true))) ∧ (¬ (p1 = none) →
 ∃ A7 : Addr, p1 = some A7 ∧
 LdSl B h5 A7 fun a9 n10 c11 h12 =>
 ∃ (J18 : Int → Nat → Heap → Prop) (m16 : Nat), Fin B h12 (J18 (0) m16) ∧
 ∀ (i13 : Int) (m15 : Nat) (h14 : Heap), J18 i13 m15 h14 →
 ((i13 : Int) < ((n10 : Nat)) →
 ∃ A19 : Addr, a9 = some A19 ∧ 0 ≤ (i13 : Int) ∧ (i13 : Int) < (n10 : Nat) ∧
 ∃ i21 : Int, ∃ i22 : Int, ∃ i23 : Int, CellsAt B h14 (Addr.add A19 (Int.toNat (i13) * 3)) 0 [(.int .i64 (i21)), (.int .i64 (i22)), (.int .i64 (i23))] ∧
 ∀ k24 : Nat, h14 k24 = none → B k24 = none → ∀ h25 : Heap, h25 = Heap.set h14 k24 (.vec 136 (plains [(.int .i64 (0)), (.int .i64 (0)), (.int .i64 (0))]) 3) →
 ∃ h26 : Heap, StoresAt ⟨k24, 0, none⟩ h25 0 [(.int .i64 (i21)), (.int .i64 (i22)), (.int .i64 (i23))] h26 ∧
 ∃ l27 : List Value, List.length l27 = 25 ∧ CellsAt B h26 ⟨k4, 0, none⟩ 0 l27 ∧
 ∃ i30 : Int, cellH B h26 ⟨k24, 0, none⟩ = some (.int .i64 (i30)) ∧
 ∃ i33 : Int, cellH B h26 ⟨k24, 1, none⟩ = some (.int .i64 (i33)) ∧
 ∃ i36 : Int, cellH B h26 ⟨k24, 2, none⟩ = some (.int .i64 (i36)) ∧
 C_reads_Now_Of B l27 (i30) (i33) h26 (fun i39 h38 =>
 CellsAt B h38 ⟨k4, 0, none⟩ 0 l27 ∧ cellH B h38 ⟨k24, 0, none⟩ = some (.int .i64 (i30)) ∧ cellH B h38 ⟨k24, 1, none⟩ = some (.int .i64 (i33)) ∧ cellH B h38 ⟨k24, 2, none⟩ = some (.int .i64 (i36)) ∧
 ((i39 : Int) = i36 →
 Fin B h38 (fun h' => ∃ m', m' < m15 ∧ J18 (IntKind.wrap .i64 ((i13) + (1))) m' h')) ∧ (¬ ((i39 : Int) = i36) →
 Fin B h38 (Q (false))))) ∧ (¬ ((i13 : Int) < ((n10 : Nat))) →
 Fin B h14 (Q (true))))
def S_attempt_View_Now_J2 (B : RO) (p1 : Option Addr) (k3 : Nat) (k11 : Nat) (h17 : Heap) (Q : List Value → Heap → Prop) : Prop :=
 ∃ (J23 : Int → Nat → Heap → Prop) (m21 : Nat), Fin B h17 (J23 (0) m21) ∧
 ∀ (i18 : Int) (m20 : Nat) (h19 : Heap), J23 i18 m20 h19 →
 ((i18 : Int) < (3) →
 ∃ A24 : Addr, p1 = some A24 ∧
 ∃ p26 : Option Addr, cellH B h19 (Addr.add A24 2) = some (.pointer p26) ∧
 C_feed_Feed_Place B p26 (i18) h19 (fun i28 i29 h27 =>
 0 ≤ (2 : Int) ∧ (2 : Int) < (3 : Nat) ∧
 0 ≤ (i18 : Int) ∧ (i18 : Int) < (8 : Nat) ∧
 ∃ h30 : Heap, storeH h27 (Addr.add ⟨k11, 16, none⟩ (Int.toNat (i18) * 1)) (.int .i64 (i29)) = some h30 ∧
 Fin B h30 (fun h' => ∃ m', m' < m20 ∧ J23 (IntKind.wrap .i64 ((i18) + (1))) m' h'))) ∧ (¬ ((i18 : Int) < (3)) →
 ∃ l31 : List Value, List.length l31 = 25 ∧ CellsAt B h19 ⟨k11, 0, none⟩ 0 l31 ∧
 List.length l31 = 25 ∧ ∃ h32 : Heap, StoresAt ⟨k3, 0, none⟩ h19 0 l31 h32 ∧
 ∃ l33 : List Value, List.length l33 = 25 ∧ CellsAt B h32 ⟨k3, 0, none⟩ 0 l33 ∧ Fin B h32 (Q l33))
def S_attempt_View_Now_J1 (B : RO) (p1 : Option Addr) (k3 : Nat) (k11 : Nat) (h15 : Heap) (Q : List Value → Heap → Prop) : Prop :=
 ∃ (J39 : Int → Nat → Heap → Prop) (m37 : Nat), Fin B h15 (J39 (0) m37) ∧
 ∀ (i34 : Int) (m36 : Nat) (h35 : Heap), J39 i34 m36 h35 →
 ((i34 : Int) < (6) →
 ∃ A40 : Addr, p1 = some A40 ∧
 ∃ p42 : Option Addr, cellH B h35 (Addr.add A40 1) = some (.pointer p42) ∧
 C_tome_Tome_Get B p42 (i34) h35 (fun b44 s45 i46 h43 =>
 0 ≤ (1 : Int) ∧ (1 : Int) < (3 : Nat) ∧
 0 ≤ (i34 : Int) ∧ (i34 : Int) < (8 : Nat) ∧
 ∃ h47 : Heap, storeH h43 (Addr.add ⟨k11, 8, none⟩ (Int.toNat (i34) * 1)) (.int .i64 (i46)) = some h47 ∧
 Fin B h47 (fun h' => ∃ m', m' < m36 ∧ J39 (IntKind.wrap .i64 ((i34) + (1))) m' h'))) ∧ (¬ ((i34 : Int) < (6)) →
 Fin B h35 (fun h' => S_attempt_View_Now_J2 B p1 k3 k11 h' Q))
def S_attempt_View_Now (B : RO) (p1 : Option Addr) (h : Heap) (Q : List Value → Heap → Prop) : Prop :=
 ∀ k3 : Nat, h k3 = none → B k3 = none → ∀ h4 : Heap, h4 = Heap.set h k3 (.vec 112 (plains (List.replicate 25 (.int .i64 (0)))) 25) →
 (p1 = none →
 ∃ h6 : Heap, StoresAt ⟨k3, 0, none⟩ h4 0 (List.replicate 25 (.int .i64 (0))) h6 ∧
 ∃ l7 : List Value, List.length l7 = 25 ∧ CellsAt B h6 ⟨k3, 0, none⟩ 0 l7 ∧ Fin B h6 (Q l7)) ∧ (¬ (p1 = none) →
 ∃ A8 : Addr, p1 = some A8 ∧
 ∃ i10 : Int, cellH B h4 (Addr.add A8 3) = some (.int .i64 (i10)) ∧
 ∀ k11 : Nat, h4 k11 = none → B k11 = none → ∀ h12 : Heap, h12 = Heap.set h4 k11 (.vec 112 (plains (List.replicate 25 (.int .i64 (0)))) 25) →
 ∃ h13 : Heap, StoresAt ⟨k11, 0, none⟩ h12 0 [(.int .i64 (0)), (.int .i64 (0)), (.int .i64 (0)), (.int .i64 (0)), (.int .i64 (0)), (.int .i64 (0)), (.int .i64 (0)), (.int .i64 (0)), (.int .i64 (0)), (.int .i64 (0)), (.int .i64 (0)), (.int .i64 (0)), (.int .i64 (0)), (.int .i64 (0)), (.int .i64 (0)), (.int .i64 (0)), (.int .i64 (0)), (.int .i64 (0)), (.int .i64 (0)), (.int .i64 (0)), (.int .i64 (0)), (.int .i64 (0)), (.int .i64 (0)), (.int .i64 (0)), (.int .i64 (i10))] h13 ∧
 ∃ (J53 : Int → Nat → Heap → Prop) (m51 : Nat), Fin B h13 (J53 (0) m51) ∧
 ∀ (i48 : Int) (m50 : Nat) (h49 : Heap), J53 i48 m50 h49 →
 ((i48 : Int) < (8) →
 ∃ A54 : Addr, p1 = some A54 ∧
 ∃ p56 : Option Addr, cellH B h49 A54 = some (.pointer p56) ∧
 C_cell_Row_int_Version B p56 (i48) h49 (fun i58 h57 =>
 0 ≤ (0 : Int) ∧ (0 : Int) < (3 : Nat) ∧
 0 ≤ (i48 : Int) ∧ (i48 : Int) < (8 : Nat) ∧
 ∃ h59 : Heap, storeH h57 (Addr.add ⟨k11, 0, none⟩ (Int.toNat (i48) * 1)) (.int .i64 (i58)) = some h59 ∧
 Fin B h59 (fun h' => ∃ m', m' < m50 ∧ J53 (IntKind.wrap .i64 ((i48) + (1))) m' h'))) ∧ (¬ ((i48 : Int) < (8)) →
 Fin B h49 (fun h' => S_attempt_View_Now_J1 B p1 k3 k11 h' Q)))
def S_draft_Draft_int_All_1 (B : RO) (v1 : Value) (A2 : Addr) (h : Heap) (Q : Heap → Prop) : Prop :=
 ∃ p3 : Option Addr, cellH B h A2 = some (.pointer p3) ∧
 (p3 = none →
 Fin B h (Q)) ∧ (¬ (p3 = none) →
 ∃ p5 : Option Addr, cellH B h A2 = some (.pointer p5) ∧
 ∃ A6 : Addr, p5 = some A6 ∧
 LdSl B h A6 fun a8 n9 c10 h11 =>
 ∃ (J17 : Int → Nat → Heap → Prop) (m15 : Nat), Fin B h11 (J17 (0) m15) ∧
 ∀ (i12 : Int) (m14 : Nat) (h13 : Heap), J17 i12 m14 h13 →
 ((i12 : Int) < ((n9 : Nat)) →
 ∃ A18 : Addr, a8 = some A18 ∧ 0 ≤ (i12 : Int) ∧ (i12 : Int) < (n9 : Nat) ∧
 ∃ i20 : Int, ∃ i21 : Int, CellsAt B h13 (Addr.add A18 (Int.toNat (i12) * 2)) 0 [(.int .i64 (i20)), (.int .i64 (i21))] ∧
 ∀ k22 : Nat, h13 k22 = none → B k22 = none → ∀ h23 : Heap, h23 = Heap.set h13 k22 (.vec 106 (plains [(.int .i64 (0)), (.int .i64 (0))]) 2) →
 ∃ h24 : Heap, StoresAt ⟨k22, 0, none⟩ h23 0 [(.int .i64 (i20)), (.int .i64 (i21))] h24 ∧
 ∃ i25 : Int, cellH B h24 ⟨k22, 0, none⟩ = some (.int .i64 (i25)) ∧
 ∃ i26 : Int, cellH B h24 ⟨k22, 1, none⟩ = some (.int .i64 (i26)) ∧
 CallV PG B v1 [(.int .i64 (i25)), (.int .i64 (i26))] h24 (fun v h27 => ∃ b28 : Bool, v = (.bool b28) ∧
 (b28 = true →
 Fin B h27 (fun h' => ∃ m', m' < m14 ∧ J17 (IntKind.wrap .i64 ((i12) + (1))) m' h')) ∧ (b28 = false →
 Fin B h27 (Q)))) ∧ (¬ ((i12 : Int) < ((n9 : Nat))) →
 Fin B h13 (Q)))
def S_sheet_Sheet_Draft (B : RO) (p1 : Option Addr) (h : Heap) (Q : Option Addr → Heap → Prop) : Prop :=
 (p1 = none →
 Fin B h (Q none)) ∧ (¬ (p1 = none) →
 ∃ A4 : Addr, p1 = some A4 ∧
 ∃ p6 : Option Addr, cellH B h A4 = some (.pointer p6) ∧
 Fin B h (Q p6))
def S_draft_Draft_file_File_All (B : RO) (p1 : Option Addr) (h : Heap) (Q : Value → Heap → Prop) : Prop :=
 ∀ k3 : Nat, h k3 = none → B k3 = none → ∀ h4 : Heap, h4 = Heap.set h k3 (.vec 116 [.plain (.pointer p1)] 1) →
 Fin B h4 (Q (Value.func (.func 55) #[] #[(.pointer (some ⟨k3, 0, none⟩))]))
def S_tome_Tome_Set_J1 (B : RO) (h14 : Heap) (Q : Bool → Heap → Prop) : Prop :=
 Fin B h14 (Q (false))
def S_tome_Tome_Set_J2 (B : RO) (k7 : Nat) (b17 : Bool) (s18 : ByteArray) (h24 : Heap) (Q : Bool → Heap → Prop) : Prop :=
 Fin B h24 (Q (false))
def S_tome_Tome_Set_J3 (B : RO) (i2 : Int) (i5 : Int) (k7 : Nat) (b17 : Bool) (s18 : ByteArray) (p36 : Option Addr) (b37 : Bool) (s38 : ByteArray) (h39 : Heap) (Q : Bool → Heap → Prop) : Prop :=
 C_cell_Row_file_File_Set B p36 (i2) (b37) s38 (i5) h39 (fun b42 h41 =>
 CellsAt B h41 ⟨k7, 0, none⟩ 0 [(.bool b17), (.string s18)] ∧
 Fin B h41 (Q (b42)))
def S_tome_Tome_Set (B : RO) (p1 : Option Addr) (i2 : Int) (b3 : Bool) (s4 : ByteArray) (i5 : Int) (h : Heap) (Q : Bool → Heap → Prop) : Prop :=
 ∀ k7 : Nat, h k7 = none → B k7 = none → ∀ h8 : Heap, h8 = Heap.set h k7 (.vec 92 (plains [(.bool b3), (.string s4)]) 2) →
 (p1 = none →
 (S_tome_Tome_Set_J1 B h8 Q) ∧
 (S_tome_Tome_Set_J1 B h8 Q)) ∧ (¬ (p1 = none) →
 ∃ b17 : Bool, ∃ s18 : ByteArray, CellsAt B h8 ⟨k7, 0, none⟩ 0 [(.bool b17), (.string s18)] ∧
 C_file_Good B (b17) s18 h8 (fun b21 h20 =>
 (b21 = true →
 CellsAt B h20 ⟨k7, 0, none⟩ 0 [(.bool b17), (.string s18)] ∧
 ∃ A27 : Addr, p1 = some A27 ∧
 (∃ p44 : Option Addr, cellH B h20 A27 = some (.pointer p44) ∧
 ∃ b45 : Bool, ∃ s46 : ByteArray, CellsAt B h20 ⟨k7, 0, none⟩ 0 [(.bool b45), (.string s46)] ∧
 S_tome_Tome_Set_J3 B i2 i5 k7 b17 s18 p44 (b45) s46 h20 Q) ∧
 (∃ b47 : Bool, ∃ s48 : ByteArray, CellsAt B h20 ⟨k7, 0, none⟩ 0 [(.bool b47), (.string s48)] ∧
 ∃ p49 : Option Addr, cellH B h20 A27 = some (.pointer p49) ∧
 S_tome_Tome_Set_J3 B i2 i5 k7 b17 s18 p49 (b47) s48 h20 Q)) ∧ (b21 = false →
 CellsAt B h20 ⟨k7, 0, none⟩ 0 [(.bool b17), (.string s18)] ∧
 (S_tome_Tome_Set_J2 B k7 b17 s18 h20 Q) ∧
 (S_tome_Tome_Set_J2 B k7 b17 s18 h20 Q))))
def S_cursor_is (B : RO) (i1 : Int) (h : Heap) (Q : Bool → Heap → Prop) : Prop :=
 ((i1 : Int) ≥ (0) →
 Fin B h (Q ((decide ((i1 : Int) < (3)))))) ∧ (¬ ((i1 : Int) ≥ (0)) →
 Fin B h (Q (false)))
def S_reads_Set_Note_J1 (B : RO) (p1 : Option Addr) (i3 : Int) (i4 : Int) (i11 : Int) (h24 : Heap) (Q : Bool → Heap → Prop) : Prop :=
 ∃ A25 : Addr, p1 = some A25 ∧
 LdSl B h24 A25 fun a27 n28 c29 h30 =>
 ∀ k31 : Nat, h30 k31 = none → B k31 = none → ∀ h32 : Heap, h32 = Heap.set h30 k31 (.vec 136 (plains [(.int .i64 (i3)), (.int .i64 (i4)), (.int .i64 (i11))]) 3) →
 semH PG B (Builtin.append_ #[95, 95] 95 #[(.slice a27 n28 c29), (.slice (some ⟨k31, 0, none⟩) 1 1)]) h32 (fun v h33 => ∃ a34 : Option Addr, ∃ n35 : Nat, ∃ c36 : Nat, v = (.slice a34 n35 c36) ∧
 ∃ A37 : Addr, p1 = some A37 ∧
 ∃ h39 : Heap, storeH h33 A37 (.slice a34 n35 c36) = some h39 ∧
 Fin B h39 (Q (true)))
def S_reads_Set_Note (B : RO) (p1 : Option Addr) (l2 : List Value) (i3 : Int) (i4 : Int) (h : Heap) (Q : Bool → Heap → Prop) : Prop :=
 ∀ k6 : Nat, h k6 = none → B k6 = none → ∀ h7 : Heap, h7 = Heap.set h k6 (.vec 112 (plains l2) (List.length l2)) →
 (p1 = none →
 Fin B h7 (Q (false))) ∧ (¬ (p1 = none) →
 ∃ l9 : List Value, List.length l9 = 25 ∧ CellsAt B h7 ⟨k6, 0, none⟩ 0 l9 ∧
 C_reads_Now_Of B l9 (i3) (i4) h7 (fun i11 h10 =>
 C_reads_Set_place B p1 (i3) (i4) h10 (fun i13 h12 =>
 ((i13 : Int) ≥ (0) →
 ∃ A14 : Addr, p1 = some A14 ∧
 LdSl B h12 A14 fun a16 n17 c18 h19 =>
 ∃ A20 : Addr, a16 = some A20 ∧ 0 ≤ (i13 : Int) ∧ (i13 : Int) < (n17 : Nat) ∧
 ∃ i22 : Int, cellH B h19 (Addr.add (Addr.add A20 (Int.toNat (i13) * 3)) 2) = some (.int .i64 (i22)) ∧
 Fin B h19 (Q (((i22 : Int) == (i11))))) ∧ (¬ ((i13 : Int) ≥ (0)) →
 ∃ A40 : Addr, p1 = some A40 ∧
 ∃ i42 : Int, cellH B h12 (Addr.add A40 1) = some (.int .i64 (i42)) ∧
 ((i11 : Int) > (i42) →
 ∃ l43 : List Value, List.length l43 = 25 ∧ CellsAt B h12 ⟨k6, 0, none⟩ 0 l43 ∧
 C_reads_Set_Valid B p1 l43 h12 (fun b45 h44 =>
 (b45 = true →
 ∃ i46 : Int, cellH B h44 ⟨k6, 24, none⟩ = some (.int .i64 (i46)) ∧
 ∃ A47 : Addr, p1 = some A47 ∧
 ∃ h49 : Heap, storeH h44 (Addr.add A47 1) (.int .i64 (i46)) = some h49 ∧
 Fin B h49 (fun h' => S_reads_Set_Note_J1 B p1 i3 i4 i11 h' Q)) ∧ (b45 = false →
 Fin B h44 (Q (false))))) ∧ (¬ ((i11 : Int) > (i42)) →
 Fin B h12 (fun h' => S_reads_Set_Note_J1 B p1 i3 i4 i11 h' Q))))))
def S_slices_BinarySearchFunc_s_draft_entry_int_draft_entry_int_int_J1 (B : RO) (a1 : Option Addr) (n2 : Nat) (c3 : Nat) (i4 : Int) (v5 : Value) (i9 : Int) (h10 : Heap) (Q : Int → Bool → Heap → Prop) : Prop :=
 ((i9 : Int) < ((n2 : Nat)) →
 ∃ A11 : Addr, a1 = some A11 ∧ 0 ≤ (i9 : Int) ∧ (i9 : Int) < (n2 : Nat) ∧
 ∃ i13 : Int, ∃ i14 : Int, CellsAt B h10 (Addr.add A11 (Int.toNat (i9) * 2)) 0 [(.int .i64 (i13)), (.int .i64 (i14))] ∧
 CallV PG B v5 [(.agg #[(.int .i64 (i13)), (.int .i64 (i14))]), (.int .i64 (i4))] h10 (fun v h15 => ∃ i16 : Int, v = (.int .i64 (i16)) ∧
 Fin B h15 (Q (i9) (((i16 : Int) == (0)))))) ∧ (¬ ((i9 : Int) < ((n2 : Nat))) →
 Fin B h10 (Q (i9) (false)))
def S_slices_BinarySearchFunc_s_draft_entry_int_draft_entry_int_int (B : RO) (a1 : Option Addr) (n2 : Nat) (c3 : Nat) (i4 : Int) (v5 : Value) (h : Heap) (Q : Int → Bool → Heap → Prop) : Prop :=
 ∃ (J23 : Int → Int → Nat → Heap → Prop) (m21 : Nat), Fin B h (J23 (0) ((n2 : Nat)) m21) ∧
 ∀ (i17 : Int) (i18 : Int) (m20 : Nat) (h19 : Heap), J23 i17 i18 m20 h19 →
 ((i17 : Int) < (i18) →
 ¬ ((1 : Int) < 0) ∧
 ∃ A24 : Addr, a1 = some A24 ∧ 0 ≤ (IntKind.wrap .i64 (Int.fdiv (IntKind.wrap .u64 (IntKind.wrap .i64 ((i17) + (i18)))) (2 ^ (min (Int.toNat (1)) (IntKind.bits .u64)))) : Int) ∧ (IntKind.wrap .i64 (Int.fdiv (IntKind.wrap .u64 (IntKind.wrap .i64 ((i17) + (i18)))) (2 ^ (min (Int.toNat (1)) (IntKind.bits .u64)))) : Int) < (n2 : Nat) ∧
 ∃ i26 : Int, ∃ i27 : Int, CellsAt B h19 (Addr.add A24 (Int.toNat (IntKind.wrap .i64 (Int.fdiv (IntKind.wrap .u64 (IntKind.wrap .i64 ((i17) + (i18)))) (2 ^ (min (Int.toNat (1)) (IntKind.bits .u64))))) * 2)) 0 [(.int .i64 (i26)), (.int .i64 (i27))] ∧
 CallV PG B v5 [(.agg #[(.int .i64 (i26)), (.int .i64 (i27))]), (.int .i64 (i4))] h19 (fun v h28 => ∃ i29 : Int, v = (.int .i64 (i29)) ∧
 ((i29 : Int) < (0) →
 Fin B h28 (fun h' => ∃ m', m' < m20 ∧ J23 (IntKind.wrap .i64 ((IntKind.wrap .i64 (Int.fdiv (IntKind.wrap .u64 (IntKind.wrap .i64 ((i17) + (i18)))) (2 ^ (min (Int.toNat (1)) (IntKind.bits .u64))))) + (1))) (i18) m' h')) ∧ (¬ ((i29 : Int) < (0)) →
 Fin B h28 (fun h' => ∃ m', m' < m20 ∧ J23 (i17) (IntKind.wrap .i64 (Int.fdiv (IntKind.wrap .u64 (IntKind.wrap .i64 ((i17) + (i18)))) (2 ^ (min (Int.toNat (1)) (IntKind.bits .u64))))) m' h')))) ∧ (¬ ((i17 : Int) < (i18)) →
 Fin B h19 (fun h' => S_slices_BinarySearchFunc_s_draft_entry_int_draft_entry_int_int_J1 B a1 n2 c3 i4 v5 (i17) h' Q))
def S_draft_by_int (B : RO) (i1 : Int) (i2 : Int) (i3 : Int) (h : Heap) (Q : Int → Heap → Prop) : Prop :=
 ∀ k5 : Nat, h k5 = none → B k5 = none → ∀ h6 : Heap, h6 = Heap.set h k5 (.vec 106 (plains [(.int .i64 (i1)), (.int .i64 (i2))]) 2) →
 ∃ i7 : Int, cellH B h6 ⟨k5, 0, none⟩ = some (.int .i64 (i7)) ∧
 ((i7 : Int) < (i3) →
 Fin B h6 (Q ((-1)))) ∧ (¬ ((i7 : Int) < (i3)) →
 ∃ i8 : Int, cellH B h6 ⟨k5, 0, none⟩ = some (.int .i64 (i8)) ∧
 ((i8 : Int) > (i3) →
 Fin B h6 (Q (1))) ∧ (¬ ((i8 : Int) > (i3)) →
 Fin B h6 (Q (0))))
def S_reads_Now_Of_J1 (B : RO) (i2 : Int) (i3 : Int) (k5 : Nat) (h8 : Heap) (Q : Int → Heap → Prop) : Prop :=
 0 ≤ (i2 : Int) ∧ (i2 : Int) < (3 : Nat) ∧
 0 ≤ (i3 : Int) ∧ (i3 : Int) < (8 : Nat) ∧
 ∃ i9 : Int, cellH B h8 (Addr.add (Addr.add ⟨k5, 0, none⟩ (Int.toNat (i2) * 8)) (Int.toNat (i3) * 1)) = some (.int .i64 (i9)) ∧
 Fin B h8 (Q (i9))
def S_reads_Now_Of (B : RO) (l1 : List Value) (i2 : Int) (i3 : Int) (h : Heap) (Q : Int → Heap → Prop) : Prop :=
 ∀ k5 : Nat, h k5 = none → B k5 = none → ∀ h6 : Heap, h6 = Heap.set h k5 (.vec 112 (plains l1) (List.length l1)) →
 ((i2 : Int) < (0) →
 Fin B h6 (Q (0))) ∧ (¬ ((i2 : Int) < (0)) →
 ((i2 : Int) > (2) →
 Fin B h6 (Q (0))) ∧ (¬ ((i2 : Int) > (2)) →
 ((i3 : Int) < (0) →
 Fin B h6 (Q (0))) ∧ (¬ ((i3 : Int) < (0)) →
 ((i3 : Int) ≥ (8) →
 Fin B h6 (Q (0))) ∧ (¬ ((i3 : Int) ≥ (8)) →
 Fin B h6 (fun h' => S_reads_Now_Of_J1 B i2 i3 k5 h' Q)))))
def S_cell_Row_int_Version (B : RO) (p1 : Option Addr) (i2 : Int) (h : Heap) (Q : Int → Heap → Prop) : Prop :=
 C_cell_Row_int_Get B p1 (i2) h (fun i5 i6 h4 =>
 Fin B h4 (Q (i6)))
def S_tome_Tome_Get (B : RO) (p1 : Option Addr) (i2 : Int) (h : Heap) (Q : Bool → ByteArray → Int → Heap → Prop) : Prop :=
 ∀ k6 : Nat, h k6 = none → B k6 = none → ∀ h7 : Heap, h7 = Heap.set h k6 (.vec 92 (plains [(.bool false), (.string ByteArray.empty)]) 2) →
 (p1 = none →
 ∃ h9 : Heap, StoresAt ⟨k6, 0, none⟩ h7 0 [(.bool false), (.string ByteArray.empty)] h9 ∧
 ∃ b10 : Bool, ∃ s11 : ByteArray, CellsAt B h9 ⟨k6, 0, none⟩ 0 [(.bool b10), (.string s11)] ∧ Fin B h9 (Q (b10) s11 (0))) ∧ (¬ (p1 = none) →
 ∃ A12 : Addr, p1 = some A12 ∧
 ∃ p14 : Option Addr, cellH B h7 A12 = some (.pointer p14) ∧
 C_cell_Row_file_File_Get B p14 (i2) h7 (fun b16 s17 i18 h15 =>
 ∃ h19 : Heap, StoresAt ⟨k6, 0, none⟩ h15 0 [(.bool b16), (.string s17)] h19 ∧
 ∃ b20 : Bool, ∃ s21 : ByteArray, CellsAt B h19 ⟨k6, 0, none⟩ 0 [(.bool b20), (.string s21)] ∧ Fin B h19 (Q (b20) s21 (i18))))
def S_draft_Draft_file_File_All_1 (B : RO) (v1 : Value) (A2 : Addr) (h : Heap) (Q : Heap → Prop) : Prop :=
 ∃ p3 : Option Addr, cellH B h A2 = some (.pointer p3) ∧
 (p3 = none →
 Fin B h (Q)) ∧ (¬ (p3 = none) →
 ∃ p5 : Option Addr, cellH B h A2 = some (.pointer p5) ∧
 ∃ A6 : Addr, p5 = some A6 ∧
 LdSl B h A6 fun a8 n9 c10 h11 =>
 ∃ (J17 : Int → Nat → Heap → Prop) (m15 : Nat), Fin B h11 (J17 (0) m15) ∧
 ∀ (i12 : Int) (m14 : Nat) (h13 : Heap), J17 i12 m14 h13 →
 ((i12 : Int) < ((n9 : Nat)) →
 ∃ A18 : Addr, a8 = some A18 ∧ 0 ≤ (i12 : Int) ∧ (i12 : Int) < (n9 : Nat) ∧
 ∃ i20 : Int, ∃ b21 : Bool, ∃ s22 : ByteArray, CellsAt B h13 (Addr.add A18 (Int.toNat (i12) * 3)) 0 [(.int .i64 (i20)), (.bool b21), (.string s22)] ∧
 ∀ k23 : Nat, h13 k23 = none → B k23 = none → ∀ h24 : Heap, h24 = Heap.set h13 k23 (.vec 142 (plains [(.int .i64 (0)), (.bool false), (.string ByteArray.empty)]) 3) →
 ∃ h25 : Heap, StoresAt ⟨k23, 0, none⟩ h24 0 [(.int .i64 (i20)), (.bool b21), (.string s22)] h25 ∧
 ∃ i26 : Int, cellH B h25 ⟨k23, 0, none⟩ = some (.int .i64 (i26)) ∧
 ∃ b27 : Bool, ∃ s28 : ByteArray, CellsAt B h25 ⟨k23, 1, none⟩ 0 [(.bool b27), (.string s28)] ∧
 CallV PG B v1 [(.int .i64 (i26)), (.agg #[(.bool b27), (.string s28)])] h25 (fun v h29 => ∃ b30 : Bool, v = (.bool b30) ∧
 (b30 = true →
 Fin B h29 (fun h' => ∃ m', m' < m14 ∧ J17 (IntKind.wrap .i64 ((i12) + (1))) m' h')) ∧ (b30 = false →
 Fin B h29 (Q)))) ∧ (¬ ((i12 : Int) < ((n9 : Nat))) →
 Fin B h13 (Q)))
def S_file_Good (B : RO) (b1 : Bool) (s2 : ByteArray) (h : Heap) (Q : Bool → Heap → Prop) : Prop :=
 ∀ k4 : Nat, h k4 = none → B k4 = none → ∀ h5 : Heap, h5 = Heap.set h k4 (.vec 92 (plains [(.bool b1), (.string s2)]) 2) →
 ∃ s6 : ByteArray, cellH B h5 ⟨k4, 1, none⟩ = some (.string s6) ∧
 (((ByteArray.size s6 : Nat) : Int) ≤ (32) →
 ∃ b7 : Bool, cellH B h5 ⟨k4, 0, none⟩ = some (.bool b7) ∧ (b7 = true →
 Fin B h5 (Q (true))) ∧ (b7 = false →
 ∃ s8 : ByteArray, cellH B h5 ⟨k4, 1, none⟩ = some (.string s8) ∧
 Fin B h5 (Q ((decide (s8 = (ByteArray.mk #[]))))))) ∧ (¬ (((ByteArray.size s6 : Nat) : Int) ≤ (32)) →
 Fin B h5 (Q (false)))
def S_cell_Row_file_File_Set (B : RO) (p1 : Option Addr) (i2 : Int) (b3 : Bool) (s4 : ByteArray) (i5 : Int) (h : Heap) (Q : Bool → Heap → Prop) : Prop :=
 ∀ k7 : Nat, h k7 = none → B k7 = none → ∀ h8 : Heap, h8 = Heap.set h k7 (.vec 92 (plains [(.bool b3), (.string s4)]) 2) →
 C_cell_Row_file_File_is B p1 (i2) h8 (fun b10 h9 =>
 (b10 = true →
 ∃ A11 : Addr, p1 = some A11 ∧
 ∃ a13 : Option Addr, ∃ n14 : Nat, ∃ c15 : Nat, cellH B h9 A11 = some (.slice a13 n14 c15) ∧
 ∃ b16 : Bool, ∃ s17 : ByteArray, CellsAt B h9 ⟨k7, 0, none⟩ 0 [(.bool b16), (.string s17)] ∧
 ∃ A18 : Addr, a13 = some A18 ∧ 0 ≤ (i2 : Int) ∧ (i2 : Int) < (n14 : Nat) ∧
 ∃ h20 : Heap, StoresAt (Addr.add A18 (Int.toNat (i2) * 3)) h9 0 [(.bool b16), (.string s17), (.int .i64 (i5))] h20 ∧
 Fin B h20 (Q (true))) ∧ (b10 = false →
 Fin B h9 (Q (false))))
def S_reads_Set_place (B : RO) (p1 : Option Addr) (i2 : Int) (i3 : Int) (h : Heap) (Q : Int → Heap → Prop) : Prop :=
 ∀ k5 : Nat, h k5 = none → B k5 = none → ∀ h6 : Heap, h6 = Heap.set h k5 (.vec 85 [.plain (.int .i64 (i2))] 1) →
 ∀ k7 : Nat, h6 k7 = none → B k7 = none → ∀ h8 : Heap, h8 = Heap.set h6 k7 (.vec 3 [.plain (.int .i64 (i3))] 1) →
 ∃ A9 : Addr, p1 = some A9 ∧
 LdSl B h8 A9 fun a11 n12 c13 h14 =>
 C_slices_IndexFunc_s_reads_Entry_reads_Entry B a11 n12 c13 (Value.func (.func 63) #[] #[(.pointer (some ⟨k5, 0, none⟩)), (.pointer (some ⟨k7, 0, none⟩))]) h14 (fun i16 h15 =>
 Fin B h15 (Q (i16)))
def S_cell_Row_file_File_Get (B : RO) (p1 : Option Addr) (i2 : Int) (h : Heap) (Q : Bool → ByteArray → Int → Heap → Prop) : Prop :=
 ∀ k6 : Nat, h k6 = none → B k6 = none → ∀ h7 : Heap, h7 = Heap.set h k6 (.vec 92 (plains [(.bool false), (.string ByteArray.empty)]) 2) →
 C_cell_Row_file_File_is B p1 (i2) h7 (fun b9 h8 =>
 (b9 = true →
 ∃ A18 : Addr, p1 = some A18 ∧
 ∃ a22 : Option Addr, ∃ n23 : Nat, ∃ c24 : Nat, cellH B h8 A18 = some (.slice a22 n23 c24) ∧
 ∃ A27 : Addr, a22 = some A27 ∧ 0 ≤ (i2 : Int) ∧ (i2 : Int) < (n23 : Nat) ∧
 ∃ b33 : Bool, ∃ s34 : ByteArray, CellsAt B h8 (Addr.add A27 (Int.toNat (i2) * 3)) 0 [(.bool b33), (.string s34)] ∧
 ∃ A37 : Addr, p1 = some A37 ∧
 ∃ a41 : Option Addr, ∃ n42 : Nat, ∃ c43 : Nat, cellH B h8 A37 = some (.slice a41 n42 c43) ∧
 ∃ A46 : Addr, a41 = some A46 ∧ 0 ≤ (i2 : Int) ∧ (i2 : Int) < (n42 : Nat) ∧
 ∃ i52 : Int, cellH B h8 (Addr.add (Addr.add A46 (Int.toNat (i2) * 3)) 2) = some (.int .i64 (i52)) ∧
 ∃ h54 : Heap, StoresAt ⟨k6, 0, none⟩ h8 0 [(.bool b33), (.string s34)] h54 ∧
 cellH B h54 A18 = some (.slice a22 n23 c24) ∧ CellsAt B h54 (Addr.add A27 (Int.toNat (i2) * 3)) 0 [(.bool b33), (.string s34)] ∧ cellH B h54 A37 = some (.slice a41 n42 c43) ∧ cellH B h54 (Addr.add (Addr.add A46 (Int.toNat (i2) * 3)) 2) = some (.int .i64 (i52)) ∧
 ∃ b59 : Bool, ∃ s60 : ByteArray, CellsAt B h54 ⟨k6, 0, none⟩ 0 [(.bool b59), (.string s60)] ∧ Fin B h54 (Q (b59) s60 (i52))) ∧ (b9 = false →
 ∀ k10 : Nat, h8 k10 = none → B k10 = none → ∀ h11 : Heap, h11 = Heap.set h8 k10 (.vec 92 (plains [(.bool false), (.string ByteArray.empty)]) 2) →
 ∃ b12 : Bool, ∃ s13 : ByteArray, CellsAt B h11 ⟨k10, 0, none⟩ 0 [(.bool b12), (.string s13)] ∧
 ∃ h14 : Heap, StoresAt ⟨k6, 0, none⟩ h11 0 [(.bool b12), (.string s13)] h14 ∧
 ∃ b15 : Bool, ∃ s16 : ByteArray, CellsAt B h14 ⟨k6, 0, none⟩ 0 [(.bool b15), (.string s16)] ∧ Fin B h14 (Q (b15) s16 (0))))
def S_cell_Row_file_File_is (B : RO) (p1 : Option Addr) (i2 : Int) (h : Heap) (Q : Bool → Heap → Prop) : Prop :=
 (p1 = none →
 Fin B h (Q (false))) ∧ (¬ (p1 = none) →
 ((i2 : Int) ≥ (0) →
 ∃ A5 : Addr, p1 = some A5 ∧
 LdSl B h A5 fun a7 n8 c9 h10 =>
 Fin B h10 (Q ((decide ((i2 : Int) < ((n8 : Nat))))))) ∧ (¬ ((i2 : Int) ≥ (0)) →
 Fin B h (Q (false))))
def S_slices_IndexFunc_s_reads_Entry_reads_Entry (B : RO) (a1 : Option Addr) (n2 : Nat) (c3 : Nat) (v4 : Value) (h : Heap) (Q : Int → Heap → Prop) : Prop :=
 ∃ (J11 : Int → Nat → Heap → Prop) (m9 : Nat), Fin B h (J11 (0) m9) ∧
 ∀ (i6 : Int) (m8 : Nat) (h7 : Heap), J11 i6 m8 h7 →
 ((i6 : Int) < ((n2 : Nat)) →
 ∃ A12 : Addr, a1 = some A12 ∧ 0 ≤ (i6 : Int) ∧ (i6 : Int) < (n2 : Nat) ∧
 ∃ i14 : Int, ∃ i15 : Int, ∃ i16 : Int, CellsAt B h7 (Addr.add A12 (Int.toNat (i6) * 3)) 0 [(.int .i64 (i14)), (.int .i64 (i15)), (.int .i64 (i16))] ∧
 CallV PG B v4 [(.agg #[(.int .i64 (i14)), (.int .i64 (i15)), (.int .i64 (i16))])] h7 (fun v h17 => ∃ b18 : Bool, v = (.bool b18) ∧
 (b18 = true →
 Fin B h17 (Q (i6))) ∧ (b18 = false →
 Fin B h17 (fun h' => ∃ m', m' < m8 ∧ J11 (IntKind.wrap .i64 ((i6) + (1))) m' h')))) ∧ (¬ ((i6 : Int) < ((n2 : Nat))) →
 Fin B h7 (Q ((-1))))
def S_reads_Set_place_1 (B : RO) (i1 : Int) (i2 : Int) (i3 : Int) (A4 : Addr) (A5 : Addr) (h : Heap) (Q : Bool → Heap → Prop) : Prop :=
 ∀ k7 : Nat, h k7 = none → B k7 = none → ∀ h8 : Heap, h8 = Heap.set h k7 (.vec 136 (plains [(.int .i64 (i1)), (.int .i64 (i2)), (.int .i64 (i3))]) 3) →
 ∃ i9 : Int, cellH B h8 ⟨k7, 0, none⟩ = some (.int .i64 (i9)) ∧
 ∃ i10 : Int, cellH B h8 A4 = some (.int .i64 (i10)) ∧
 ((i9 : Int) = i10 →
 ∃ i11 : Int, cellH B h8 ⟨k7, 1, none⟩ = some (.int .i64 (i11)) ∧
 ∃ i12 : Int, cellH B h8 A5 = some (.int .i64 (i12)) ∧
 Fin B h8 (Q (((i11 : Int) == (i12))))) ∧ (¬ ((i9 : Int) = i10) →
 Fin B h8 (Q (false)))
end Go.Proofs.Ytgldgabefiialaa.H
