/- The heap logic, part 21: things of a row are stored. No condition. -/
import Derived.Test.YthloobpjkeodgaaHt
namespace Go.Proofs.Ythloobpjkeodgaa.H
open Go
set_option linter.unusedVariables false

theorem flatMap_setR {α : Type} {cells : α → List Value} (x : α) : ∀ (l : List α) (i : Nat) (hi : i < l.length), (l.set i x).flatMap cells = (l.take i).flatMap cells ++ cells x ++ (l.drop (i + 1)).flatMap cells
  | [], i, hi => by simp at hi
  | y :: l, 0, _ => by simp
  | y :: l, i + 1, hi => by
    simp only [List.set_cons_succ, List.flatMap_cons, List.take_succ_cons, List.drop_succ_cons]
    rw [flatMap_setR x l i (by simpa using hi)]
    simp [List.append_assoc]
theorem flatMap_splitR {α : Type} {cells : α → List Value} (l : List α) (i : Nat) (hi : i < l.length) : l.flatMap cells = (l.take i).flatMap cells ++ (cells l[i] ++ (l.drop (i + 1)).flatMap cells) := by
  conv => lhs; rw [← List.take_append_drop i l, List.drop_eq_getElem_cons hi]
  rw [List.flatMap_append, List.flatMap_cons]

section
variable {P : Program} {B : RO} {h0 h h' : Heap} {L : List (Option (Nat × AObj))} {r : Option (Nat × AObj)} {e : TypeId} {sz : Nat} {α : Type} {cells : α → List Value} {l : List α} {a : Option Addr} {m c : Nat}
/-- A thing of a row is another one. -/
theorem Keep.rowSet (E : Keep B h0 L h) (q : Nat) (hq : L[q]? = some r) (R : Row r (.slice a m c) e sz (l.flatMap cells)) (hc : ∀ x, (cells x).length = sz) (hsz : 0 < sz) (i : Nat) (hi : i < l.length) (x : α) (ho : ∀ y ∈ cells x, isOne y = true) :
    ∃ A h' r', a = some A ∧ StoresAt (A.add (i * sz)) h 0 (cells x) h' ∧ Row r' (.slice a m c) e sz ((l.set i x).flatMap cells) ∧ Keep B h0 (L.set q r') h' := by
  have hfl := flatMap_length hc l
  rcases R with ⟨_, _, e2⟩ | ⟨k, m', c', nn, js, rfl, e1, e3, e4, e5⟩
  · rw [e2] at hfl
    have : l.length * sz = 0 := hfl.symm
    rcases Nat.mul_eq_zero.1 this with h | h <;> omega
  · cases e1
    have hb := E.at q hq
    have hlen := flatMap_length hc (l.take i)
    rw [List.length_take, Nat.min_eq_left (by omega)] at hlen
    have hbb := hb
    rw [flatMap_splitR l i hi, List.append_assoc, List.append_assoc] at hbb
    have htot : l.length * sz ≤ nn := by
      have : m * sz ≤ c * sz := Nat.mul_le_mul_right _ e4
      omega
    have hii : i * sz + sz ≤ l.length * sz := by
      have : (i + 1) * sz ≤ l.length * sz := Nat.mul_le_mul_right _ hi
      rw [Nat.add_mul, Nat.one_mul] at this; exact this
    obtain ⟨h2, s1, _, s3⟩ := StoresAt.over (cells x) h (i * sz) 0 _ _ ho hbb (by rw [hlen]; omega) (by rw [hc]; omega)
    have hne : cells x ≠ [] := fun e0 => by have := hc x; rw [e0] at this; simp at this; omega
    have s3 := s3 hne
    have hdrop : (cells l[i] ++ ((l.drop (i + 1)).flatMap cells ++ js)).drop (cells x).length = (l.drop (i + 1)).flatMap cells ++ js := by
      rw [hc, ← hc l[i], List.drop_left]
    rw [hdrop, ← List.append_assoc, ← flatMap_setR (cells := cells) x l i hi] at s3
    have hset : ((l.set i x).flatMap cells).length = (l.flatMap cells).length := by
      rw [flatMap_length hc, flatMap_length hc, List.length_set]
    have E2 := E.put (o' := .vec e (plains ((l.set i x).flatMap cells ++ js)) nn) q hq
    rw [← s3] at E2
    refine ⟨_, h2, _, rfl, ?_, .inr ⟨k, m, c, nn, js, rfl, rfl, by rw [hset]; exact e3, e4, e5⟩, E2⟩
    rw [addr_more, Nat.zero_add]; exact s1
end
end Go.Proofs.Ythloobpjkeodgaa.H
