/- The heap logic, part 13: slices of a call's own, as lists of things. No condition. -/
import Derived.Test.YthloobpjkeodgaaHl
namespace Go.Proofs.Ythloobpjkeodgaa.H
open Go
set_option linter.unusedVariables false

section
variable {B : RO} {h : Heap}

theorem CellsAt.append {A : Addr} : ∀ {us vs : List Value} {i : Nat}, CellsAt B h A i us → CellsAt B h A (i + us.length) vs → CellsAt B h A i (us ++ vs)
  | [], _, i, _, h2 => h2
  | u :: us, vs, i, h1, h2 => ⟨h1.1, CellsAt.append h1.2 (by rw [List.length_cons] at h2; rw [show i + 1 + us.length = i + (us.length + 1) by omega]; exact h2)⟩
theorem CellsAt.shift {A : Addr} (n : Nat) : ∀ {vs : List Value} {i : Nat}, CellsAt B h (A.add n) i vs → CellsAt B h A (n + i) vs
  | [], _, _ => trivial
  | v :: vs, i, c => by
    refine ⟨?_, ?_⟩
    · have := c.1
      have e : (A.add n).add i = A.add (n + i) := by
        unfold Addr.add
        by_cases hn : n = 0
        · subst hn; simp
        · by_cases hi : i = 0
          · subst hi; simp
          · simp only [hn, hi, if_false, show n + i ≠ 0 by omega]
            simp
      rw [← e]; exact this
    · have := CellsAt.shift n c.2
      rw [show n + (i + 1) = n + i + 1 by omega] at this; exact this
/-- What is read one by one stands there as one row of cells. -/
theorem Reads.cells {α : Type} {a : Option Addr} {n : Nat} {cells : α → List Value} {l : List α} (r : Reads B h a n cells l) (hc : ∀ x, (cells x).length = n) : (l = []) ∨ ∃ A, a = some A ∧ CellsAt B h A 0 (l.flatMap cells) := by
  cases l with
  | nil => exact .inl rfl
  | cons x0 l0 =>
    right
    obtain ⟨A, e, _, _⟩ := r 0 x0 rfl
    refine ⟨A, e, ?_⟩
    have key : ∀ (m : List α) (j : Nat), (∀ i x, m[i]? = some x → CellsAt B h (A.add ((j + i) * n)) 0 (cells x)) → CellsAt B h A (j * n) (m.flatMap cells) := by
      intro m
      induction m with
      | nil => intro j _; trivial
      | cons x m ih =>
        intro j hm
        rw [List.flatMap_cons]
        refine CellsAt.append ?_ ?_
        · have := CellsAt.shift (j * n) (hm 0 x rfl); simpa using this
        · rw [hc, show j * n + n = (j + 1) * n by rw [Nat.add_mul]; omega]
          exact ih (j + 1) fun i y hy => by rw [show j + 1 + i = j + (i + 1) by omega]; exact hm (i + 1) y hy
    have := key (x0 :: l0) 0 (fun i x hx => by
      obtain ⟨A', e', _, c⟩ := r i x hx
      rw [e] at e'; cases e'
      rw [Nat.zero_add]; exact c)
    rwa [Nat.zero_mul] at this
theorem flatMap_length {α : Type} {cells : α → List Value} {n : Nat} (hc : ∀ x, (cells x).length = n) : ∀ l : List α, (l.flatMap cells).length = l.length * n
  | [] => by simp
  | x :: l => by rw [List.flatMap_cons, List.length_append, hc, flatMap_length hc l, List.length_cons, Nat.add_mul]; omega
theorem Reads.src {α : Type} {a : Option Addr} {n c : Nat} {cells : α → List Value} {l : List α} (r : Reads B h a n cells l) (hc : ∀ x, (cells x).length = n) (ho : ∀ x, ∀ y ∈ cells x, isOne y = true) : Src B h (.slice a l.length c) n l.length (l.flatMap cells) := by
  refine ⟨flatMap_length hc l, fun y hy => ?_, ?_⟩
  · obtain ⟨x, _, hx⟩ := List.mem_flatMap.1 hy; exact ho x y hx
  · rcases r.cells hc with rfl | ⟨A, rfl, hA⟩
    · cases a with
      | none => exact .inr (.inl ⟨c, rfl, rfl⟩)
      | some A => exact .inl ⟨A, c, rfl, trivial⟩
    · exact .inl ⟨A, c, rfl, hA⟩
theorem flatMap_at {α : Type} {cells : α → List Value} {n : Nat} (hc : ∀ x, (cells x).length = n) : ∀ (l : List α) (i : Nat) (x : α) (j : Nat) (y : Value), l[i]? = some x → (cells x)[j]? = some y → (l.flatMap cells)[i * n + j]? = some y
  | [], i, x, j, y, h, _ => by simp at h
  | z :: l, 0, x, j, y, h, hj => by
    cases h
    have := (List.getElem?_eq_some_iff.1 hj).1
    rw [List.flatMap_cons, Nat.zero_mul, Nat.zero_add, List.getElem?_append_left this]; exact hj
  | z :: l, i + 1, x, j, y, h, hj => by
    rw [List.flatMap_cons, List.getElem?_append_right (by rw [hc, Nat.add_mul]; omega), hc]
    rw [show (i + 1) * n + j - n = i * n + j by rw [Nat.add_mul]; omega]
    exact flatMap_at hc l i x j y (by simpa using h) hj
/-- A slice of one's own, as a list of things. -/
theorem SlRow.reads {α : Type} {a : Option Addr} {m c n : Nat} {e : TypeId} {cells : α → List Value} {l : List α} (r : SlRow h (.slice a m c) e n (l.flatMap cells)) (hc : ∀ x, (cells x).length = n) (h0 : 0 < n) : m = l.length ∧ Reads B h a n cells l := by
  have hl := flatMap_length hc l
  rcases r with ⟨e1, e2⟩ | ⟨k, m', c', nn, js, e1, e2, e3, e4, e5⟩
  · cases e1
    have : l = [] := by
      cases l with
      | nil => rfl
      | cons x l =>
        rw [e2, List.length_cons, List.length_nil, Nat.add_mul] at hl; omega
    subst this
    exact ⟨rfl, fun i x hx => by cases hx⟩
  · cases e1
    have : m = l.length := by rw [hl] at e3; exact Nat.eq_of_mul_eq_mul_right h0 e3
    refine ⟨this, fun i x hx => ⟨_, rfl, fun hh => absurd (hh.symm.trans e2) (by simp), ?_⟩⟩
    have key : CellsAt B h ⟨k, 0 + i * n, none⟩ 0 (cells x) := CellsAt.of_vec (cells x) 0 e2 (fun j y hj => by
      have h1 := flatMap_at hc l i x j y hx hj
      refine plains_get_some ?_
      rw [show 0 + i * n + 0 + j = i * n + j by omega]
      rw [List.getElem?_append_left (List.getElem?_eq_some_iff.1 h1).1]; exact h1)
    unfold Addr.add
    split
    · rename_i hz; rw [hz] at key; exact key
    · exact key
theorem Appd.news {v v' : Value} {e : TypeId} {sz : Nat} {xs ys : List Value} {h' : Heap} (ha : Appd B h v e sz xs ys v' h') (hv : ∀ k m c, v = .slice (some ⟨k, 0, none⟩) m c → B k = none) : NewOver B h h' ∧ ∀ k m c, v' = .slice (some ⟨k, 0, none⟩) m c → B k = none := by
  rcases ha with ⟨rfl, rfl, rfl⟩ | ⟨k, m, n, c, nn, js, hn, rfl, rfl, h1, h2, h3, h4, h5⟩
  · exact ⟨NewOver.refl _ _, hv⟩
  · have hk : B k = none := by
      rcases h5 with ⟨e1, _⟩ | ⟨_, e2⟩
      · exact hv _ _ _ e1
      · exact e2
    exact ⟨(NewOver.refl B h).set hk, fun k' m' c' e1 => by cases e1; exact hk⟩
theorem Appd.le {h0 : Heap} {v v' : Value} {e : TypeId} {sz : Nat} {xs ys : List Value} {h' : Heap} (ha : Appd B h v e sz xs ys v' h') (hl : Le h0 h) (hv : ∀ k m c, v = .slice (some ⟨k, 0, none⟩) m c → h0 k = none) : Le h0 h' ∧ ∀ k m c, v' = .slice (some ⟨k, 0, none⟩) m c → h0 k = none := by
  rcases ha with ⟨rfl, rfl, rfl⟩ | ⟨k, m, n, c, nn, js, hn, rfl, rfl, h1, h2, h3, h4, h5⟩
  · exact ⟨hl, hv⟩
  · have hk : h0 k = none := by
      rcases h5 with ⟨e1, _⟩ | ⟨e2, _⟩
      · exact hv _ _ _ e1
      · exact hl.none e2
    exact ⟨hl.set hk, fun k' m' c' e1 => by cases e1; exact hk⟩
end
end Go.Proofs.Ythloobpjkeodgaa.H
