/- Vault: what an area tells (plain). No condition. -/
import Derived.Test.YtcncdfmnpmmikaaWf
import Derived.Test.YtcncdfmnpmmikaaKx
namespace Go.Proofs.Ytcncdfmnpmmikaa.H
open Go Go.RowKit
set_option linter.unusedVariables false
set_option maxRecDepth 100000

/-- The epoch, and the image, of a first record. -/
noncomputable def firstL : List UInt8 → Option (Nat × List UInt8)
  | [] => none
  | b :: t => if b = 0 then (match natT 1099511627776 t with
    | none => none
    | some (n, r) => if n = 0 then none else some (n, r)) else none
theorem firstL_0 : firstL [] = none := rfl
theorem firstL_b {b : UInt8} {t : List UInt8} (h : b ≠ 0) : firstL (b :: t) = none := by simp [firstL, h]
theorem firstL_n {t : List UInt8} (h : natT 1099511627776 t = none) : firstL (0 :: t) = none := by simp [firstL, h]
theorem firstL_z {t r : List UInt8} (h : natT 1099511627776 t = some (0, r)) : firstL (0 :: t) = none := by simp [firstL, h]
theorem firstL_s {t r : List UInt8} {n : Nat} (h : natT 1099511627776 t = some (n, r)) (hn : n ≠ 0) : firstL (0 :: t) = some (n, r) := by simp [firstL, h, hn]
/-- The loads behind an image. -/
def loadsL : List (List UInt8) → List (List UInt8)
  | [] => []
  | [] :: _ => []
  | (b :: r) :: t => if b = 1 then r :: loadsL t else []
theorem loadsL_nil (t : List (List UInt8)) : loadsL ([] :: t) = [] := rfl
theorem loadsL_no {b : UInt8} {r : List UInt8} {t : List (List UInt8)} (h : b ≠ 1) : loadsL ((b :: r) :: t) = [] := by simp [loadsL, h]
theorem loadsL_yes {r : List UInt8} {t : List (List UInt8)} : loadsL ((1 :: r) :: t) = r :: loadsL t := by simp [loadsL]
structure TDL where
  e : Nat
  im : List UInt8
  ls : List (List UInt8)
noncomputable def toldR : List (List UInt8) → TDL
  | [] => ⟨0, [], []⟩
  | l :: t => match firstL l with
    | none => ⟨0, [], []⟩
    | some (n, r) => ⟨n, r, loadsL t⟩
theorem toldR_nil : toldR [] = ⟨0, [], []⟩ := rfl
theorem toldR_none {l : List UInt8} {t : List (List UInt8)} (h : firstL l = none) : toldR (l :: t) = ⟨0, [], []⟩ := by rw [toldR, h]
theorem toldR_some {l r : List UInt8} {t : List (List UInt8)} {n : Nat} (h : firstL l = some (n, r)) : toldR (l :: t) = ⟨n, r, loadsL t⟩ := by rw [toldR, h]
noncomputable def toldL (b : List UInt8) : TDL := toldR (allL b)
noncomputable def foundL (a b : List UInt8) : TDL := if (toldL a).e < (toldL b).e then toldL b else toldL a
noncomputable def areaL (a b : List UInt8) : Int := if (toldL a).e < (toldL b).e then 1 else 0
/-- An image's record's text. -/
def imgL (n : Nat) (im : List UInt8) : List UInt8 := 0 :: (natB n ++ im)
theorem firstL_img {n : Nat} (h0 : n ≠ 0) (h : n ≤ 1099511627776) (im : List UInt8) : firstL (imgL n im) = some (n, im) := firstL_s (natT_ok h (by omega) im) h0
theorem loadsL_ones : ∀ (ls : List (List UInt8)), loadsL (ls.map (1 :: ·)) = ls
  | [] => rfl
  | l :: t => by rw [List.map_cons, loadsL_yes, loadsL_ones t]
theorem firstL_le {l r : List UInt8} {n : Nat} (h : firstL l = some (n, r)) : n ≠ 0 ∧ n ≤ 1099511627776 ∧ r.length ≤ l.length := by
  cases l with
  | nil => cases h
  | cons b t =>
    by_cases hb : b = 0
    · subst hb
      cases ht : natT 1099511627776 t with
      | none => rw [firstL_n ht] at h; cases h
      | some p =>
        obtain ⟨m, q⟩ := p
        by_cases hm : m = 0
        · subst hm; rw [firstL_z ht] at h; cases h
        · rw [firstL_s ht hm] at h
          cases h
          obtain ⟨e, h2⟩ := natT_eq ht
          exact ⟨hm, h2, by rw [e]; simp; omega⟩
    · rw [firstL_b hb] at h; cases h
theorem toldR_le (ls : List (List UInt8)) : (toldR ls).e ≤ 1099511627776 := by
  cases ls with
  | nil => simp [toldR_nil]
  | cons l t =>
    cases h : firstL l with
    | none => rw [toldR_none h]; simp
    | some p => obtain ⟨n, r⟩ := p; rw [toldR_some h]; exact (firstL_le h).2.1
theorem loadsL_len : ∀ (ls : List (List UInt8)), (loadsL ls).length ≤ ls.length
  | [] => Nat.le_refl _
  | [] :: t => by rw [loadsL_nil]; simp
  | (b :: r) :: t => by
    by_cases hb : b = 1
    · subst hb; rw [loadsL_yes]; simp; exact loadsL_len t
    · rw [loadsL_no hb]; simp
end Go.Proofs.Ytcncdfmnpmmikaa.H
