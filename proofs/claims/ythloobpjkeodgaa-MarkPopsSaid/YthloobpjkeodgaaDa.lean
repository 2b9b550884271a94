/- Drafts: the plain law of things by rising numbers. No condition. -/
import Derived.Test.YthloobpjkeodgaaHw
namespace Go.Proofs.Ythloobpjkeodgaa.H
open Go
set_option linter.unusedVariables false
section
variable {V : Type} {l m : List (Int × V)} {i j : Int} {v : V} {p : Nat} {x : Int × V}
def insD : List (Int × V) → Int → V → List (Int × V)
  | [], i, v => [(i, v)]
  | y :: t, i, v => if y.1 < i then y :: insD t i v else if y.1 = i then (i, v) :: t else (i, v) :: y :: t
def SortD (l : List (Int × V)) : Prop := l.Pairwise fun x y => x.1 < y.1
def atD (l : List (Int × V)) (i : Int) : Option V := (l.find? fun x => x.1 == i).map (·.2)
structure PosD (l : List (Int × V)) (i : Int) (p : Nat) : Prop where
  le : p ≤ l.length
  lo : ∀ (q : Nat) (x : Int × V), q < p → l[q]? = some x → x.1 < i
  hi : ∀ (q : Nat) (x : Int × V), p ≤ q → l[q]? = some x → i ≤ x.1
def foundD (l : List (Int × V)) (p : Nat) (i : Int) : Bool := match l[p]? with
  | some x => x.1 == i
  | none => false
theorem PosD.tail {y : Int × V} (k : PosD (y :: l) i (p + 1)) : PosD l i p :=
  ⟨by have := k.le; simp at this; exact this, fun q x hq hx => k.lo (q + 1) x (by omega) (by simpa using hx), fun q x hq hx => k.hi (q + 1) x (by omega) (by simpa using hx)⟩
theorem insD_new : ∀ {l : List (Int × V)} {p : Nat}, PosD l i p → foundD l p i = false → insD l i v = l.take p ++ (i, v) :: l.drop p
  | [], p, k, _ => by
    have := k.le; simp at this; subst this; rfl
  | y :: t, 0, k, hf => by
    have h1 := k.hi 0 y (Nat.le_refl _) rfl
    have h2 : y.1 ≠ i := by simpa [foundD] using hf
    rw [insD, if_neg (by omega), if_neg h2]; rfl
  | y :: t, p + 1, k, hf => by
    have h1 := k.lo 0 y (by omega) rfl
    rw [insD, if_pos h1, insD_new k.tail (by simpa [foundD] using hf)]; rfl
theorem insD_old : ∀ {l : List (Int × V)} {p : Nat}, PosD l i p → foundD l p i = true → insD l i v = l.set p (i, v)
  | [], p, k, hf => by simp [foundD] at hf
  | y :: t, 0, k, hf => by
    have h2 : y.1 = i := by simpa [foundD] using hf
    rw [insD, if_neg (by omega), if_pos h2]; rfl
  | y :: t, p + 1, k, hf => by
    have h1 := k.lo 0 y (by omega) rfl
    rw [insD, if_pos h1, insD_old k.tail (by simpa [foundD] using hf)]; rfl
theorem foundD_some (hf : foundD l p i = true) : ∃ x, l[p]? = some x ∧ x.1 = i := by
  unfold foundD at hf
  split at hf
  · rename_i x hx; exact ⟨x, hx, by simpa using hf⟩
  · cases hf
theorem atD_old : ∀ {l : List (Int × V)} {p : Nat} {x : Int × V}, PosD l i p → l[p]? = some x → x.1 = i → atD l i = some x.2
  | [], p, x, _, h, _ => by simp at h
  | y :: t, 0, x, k, h, e => by
    simp at h; subst h
    simp [atD, e]
  | y :: t, p + 1, x, k, h, e => by
    have h1 := k.lo 0 y (by omega) rfl
    have := atD_old k.tail (by simpa using h) e
    have hn : (y.1 == i) = false := by simp; omega
    simp only [atD, List.find?_cons, hn]
    exact this
theorem atD_new : ∀ {l : List (Int × V)} {p : Nat}, SortD l → PosD l i p → foundD l p i = false → atD l i = none
  | [], p, _, _, _ => rfl
  | y :: t, 0, s, k, hf => by
    have h1 := k.hi 0 y (Nat.le_refl _) rfl
    have h2 : y.1 ≠ i := by simpa [foundD] using hf
    rw [SortD, List.pairwise_cons] at s
    unfold atD
    rw [Option.map_eq_none_iff, List.find?_eq_none]
    intro z hz
    rcases List.mem_cons.1 hz with rfl | hz
    · simpa using h2
    · have := s.1 z hz
      simp; omega
  | y :: t, p + 1, s, k, hf => by
    have h1 := k.lo 0 y (by omega) rfl
    rw [SortD, List.pairwise_cons] at s
    have := atD_new s.2 k.tail (by simpa [foundD] using hf)
    have hn : (y.1 == i) = false := by simp; omega
    simp only [atD, List.find?_cons, hn]
    exact this
theorem insD_mem : ∀ {l : List (Int × V)}, x ∈ insD l i v → x = (i, v) ∨ x ∈ l
  | [], h => by simp [insD] at h; exact .inl h
  | y :: t, h => by
    unfold insD at h
    split at h
    · rcases List.mem_cons.1 h with rfl | h
      · exact .inr (by simp)
      · rcases insD_mem h with h | h
        · exact .inl h
        · exact .inr (by simp [h])
    · split at h
      · rcases List.mem_cons.1 h with rfl | h
        · exact .inl rfl
        · exact .inr (by simp [h])
      · rcases List.mem_cons.1 h with rfl | h
        · exact .inl rfl
        · exact .inr h
theorem SortD.ins : ∀ {l : List (Int × V)}, SortD l → SortD (insD l i v)
  | [], _ => by simp [insD, SortD]
  | y :: t, s => by
    have s' := s
    rw [SortD, List.pairwise_cons] at s
    unfold insD
    split
    · rename_i h
      refine List.pairwise_cons.2 ⟨fun z hz => ?_, SortD.ins s.2⟩
      rcases insD_mem hz with rfl | hz
      · exact h
      · exact s.1 z hz
    · split
      · rename_i h
        refine List.pairwise_cons.2 ⟨fun z hz => ?_, s.2⟩
        have := s.1 z hz
        simp only; omega
      · rename_i h1 h2
        refine List.pairwise_cons.2 ⟨fun z hz => ?_, s'⟩
        rcases List.mem_cons.1 hz with rfl | hz
        · simp only; omega
        · have := s.1 z hz
          simp only; omega
theorem atD_ins : ∀ (l : List (Int × V)), atD (insD l i v) j = if j = i then some v else atD l j
  | [] => by
    unfold insD atD
    by_cases h : j = i
    · subst h; simp
    · simp [h, Ne.symm h]
  | y :: t => by
    have ih := atD_ins t
    unfold insD
    by_cases h : j = i
    · subst h
      rw [if_pos rfl] at ih ⊢
      split
      · rename_i h1
        have hn : (y.1 == j) = false := by simp; omega
        simp only [atD, List.find?_cons, hn]
        exact ih
      · split
        · simp [atD]
        · simp [atD]
    · rw [if_neg h] at ih ⊢
      split
      · simp only [atD, List.find?_cons]
        cases hn : (y.1 == j)
        · exact ih
        · rfl
      · split
        · rename_i h2
          have hn : (y.1 == j) = false := by simp; omega
          have hn2 : (i == j) = false := by simp; omega
          simp only [atD, List.find?_cons, hn, hn2]
        · have hn2 : (i == j) = false := by simp; omega
          simp only [atD, List.find?_cons, hn2]
theorem atD_lo (h : ∀ x ∈ l, i < x.1) : atD l i = none := by
  unfold atD
  rw [Option.map_eq_none_iff, List.find?_eq_none]
  intro z hz
  have := h z hz
  simp; omega
theorem sortD_ext : ∀ {l m : List (Int × V)}, SortD l → SortD m → (∀ i, atD l i = atD m i) → l = m
  | [], [], _, _, _ => rfl
  | [], y :: m, _, _, h => by
    have := h y.1
    simp [atD] at this
  | x :: l, [], _, _, h => by
    have := h x.1
    simp [atD] at this
  | x :: l, y :: m, sl, sm, h => by
    rw [SortD, List.pairwise_cons] at sl sm
    have hx := h x.1
    have hy := h y.1
    have e : x.1 = y.1 := by
      rcases Int.lt_trichotomy x.1 y.1 with hlt | e | hgt
      · exfalso
        rw [atD_lo (l := y :: m) (i := x.1) (fun z hz => by
          rcases List.mem_cons.1 hz with rfl | hz
          · exact hlt
          · have := sm.1 z hz; omega)] at hx
        simp [atD] at hx
      · exact e
      · exfalso
        rw [atD_lo (l := x :: l) (i := y.1) (fun z hz => by
          rcases List.mem_cons.1 hz with rfl | hz
          · exact hgt
          · have := sl.1 z hz; omega)] at hy
        simp [atD] at hy
    have e2 : x.2 = y.2 := by
      simp [atD, e] at hx
      exact hx
    have exy : x = y := Prod.ext e e2
    subst exy
    have ih := sortD_ext sl.2 sm.2 (fun i => by
      by_cases hi : x.1 < i
      · have := h i
        have hn : (x.1 == i) = false := by simp; omega
        simp only [atD, List.find?_cons, hn] at this
        exact this
      · rw [atD_lo (fun z hz => by have := sl.1 z hz; omega), atD_lo (fun z hz => by have := sm.1 z hz; omega)])
    rw [ih]
theorem SortD.get (s : SortD l) {p q : Nat} {x y : Int × V} (h : q < p) (hx : l[q]? = some x) (hy : l[p]? = some y) : x.1 < y.1 := by
  obtain ⟨h1, rfl⟩ := List.getElem?_eq_some_iff.1 hx
  obtain ⟨h2, rfl⟩ := List.getElem?_eq_some_iff.1 hy
  exact List.pairwise_iff_getElem.1 s q p h1 h2 h
theorem insD_len : (insD l i v).length ≤ l.length + 1 := by
  induction l with
  | nil => simp [insD]
  | cons y t ih =>
    unfold insD
    split
    · simpa using ih
    · split <;> simp
end
end Go.Proofs.Ythloobpjkeodgaa.H
