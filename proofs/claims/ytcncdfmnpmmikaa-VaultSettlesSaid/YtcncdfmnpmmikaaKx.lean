/- Numbers read, at most so great. No condition. -/
import Derived.Test.YtcncdfmnpmmikaaKh
namespace Go.Proofs.Ytcncdfmnpmmikaa.H
open Go Go.RowKit
set_option linter.unusedVariables false
set_option maxRecDepth 100000

theorem natB_0 : natB 0 = [0] := by rw [natB_lo (by omega)]; rfl
theorem natB_1 : natB 1 = [1] := by rw [natB_lo (by omega)]; rfl
theorem natI_nat (n : Nat) : natI (n : Int) = natB n := by rw [natI, if_neg (by omega), Int.toNat_natCast]
/-- A number, at most so great. -/
noncomputable def natT (most : Nat) (l : List UInt8) : Option (Nat × List UInt8) :=
  match wordOf l with
  | none => none
  | some (n, r) => if most < n then none else some (n, r)
theorem natT_some {most n : Nat} {l r : List UInt8} (h : natT most l = some (n, r)) : wordOf l = some (n, r) ∧ n ≤ most := by
  unfold natT at h
  cases hw : wordOf l with
  | none => rw [hw] at h; cases h
  | some p =>
    obtain ⟨n', r'⟩ := p
    rw [hw] at h
    simp only at h
    split at h
    · cases h
    · cases h; exact ⟨rfl, by omega⟩
theorem natT_eq {most n : Nat} {l r : List UInt8} (h : natT most l = some (n, r)) : l = natB n ++ r ∧ n ≤ most := ⟨(wordOf_eq (natT_some h).1).1, (natT_some h).2⟩
theorem natT_ok {most n : Nat} (hn : n ≤ most) (hm : most < 18446744073709551616) (r : List UInt8) : natT most (natB n ++ r) = some (n, r) := by
  rw [natT, wordOf_some rfl (by omega)]; simp; omega
theorem rNat_none {most : Nat} {l : List UInt8} (h : natT most l = none) : rNat most l false = (0, [], true) := by
  unfold natT at h
  cases hw : wordOf l with
  | none => rw [rNat, rWord_none hw]; simp
  | some p =>
    obtain ⟨n', r'⟩ := p
    rw [hw] at h
    simp only at h
    split at h
    · rw [rNat, rWord_some hw]; simp; omega
    · cases h
theorem rNat_some {most n : Nat} {l r : List UInt8} (h : natT most l = some (n, r)) : rNat most l false = (n, r, false) := by
  obtain ⟨hw, hn⟩ := natT_some h
  rw [rNat, rWord_some hw, if_neg (by simp only; omega)]
theorem rNat_bad (most : Int) : rNat most [] true = (0, [], true) := by
  rw [rNat, rWord_bad]; simp
theorem rText_none {most : Nat} {l : List UInt8} (h : natT most l = none) : rText most l false = ([], [], true) := by
  rw [rText, rNat_none h]; simp [rRaw]
theorem rText_short {most n : Nat} {l r : List UInt8} (h : natT most l = some (n, r)) (hs : r.length < n) : rText most l false = ([], [], true) := by
  rw [rText, rNat_some h, rRaw, if_pos (by simp only; omega)]
theorem rText_some {most n : Nat} {l r : List UInt8} (h : natT most l = some (n, r)) (hs : ¬ r.length < n) : rText most l false = (r.take n, r.drop n, false) := by
  rw [rText, rNat_some h, rRaw, if_neg (by simp only; simp; omega)]; simp
end Go.Proofs.Ytcncdfmnpmmikaa.H
