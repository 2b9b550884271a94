/- What a reader's Int and Text do, and Signed: contracts. No condition. -/
import Derived.Test.YtcncdfmnpmmikaaKf
namespace Go.Proofs.Ytcncdfmnpmmikaa.H
open Go
set_option linter.unusedVariables false
set_option maxRecDepth 100000

/-- The number with a sign that one without stands for. -/
def unzig (u : Nat) : Int := if u % 2 = 1 then -((u / 2 : Nat) : Int) - 1 else ((u / 2 : Nat) : Int)
theorem unzig_zig (i : Int) : unzig (zig i) = i := by
  unfold unzig zig
  split <;> split <;> omega
theorem unzigWord {u : Nat} (h : u < 18446744073709551616) : IntKind.wrap .i64 ((BitVec.ofInt (IntKind.bits .i64) (IntKind.wrap .i64 (Int.fdiv ((u : Nat) : Int) (2 ^ (min (Int.toNat (1)) (IntKind.bits .u64))))) ^^^ BitVec.ofInt (IntKind.bits .i64) (IntKind.wrap .i64 (0 - (IntKind.wrap .i64 (IntKind.wrap .u64 ((BitVec.ofInt (IntKind.bits .u64) ((u : Nat) : Int) &&& BitVec.ofInt (IntKind.bits .u64) (1)).toNat : Int)))))).toNat : Int) = unzig u := by
  have p64 : (2 : Nat) ^ (IntKind.bits .u64) = 18446744073709551616 := by decide
  have p64' : (2 : Nat) ^ (IntKind.bits .i64) = 18446744073709551616 := by decide
  have e1 : (BitVec.ofInt (IntKind.bits .u64) ((u : Nat) : Int) &&& BitVec.ofInt (IntKind.bits .u64) (1)).toNat = u % 2 := by
    rw [BitVec.toNat_and, BitVec.ofInt_natCast, BitVec.toNat_ofNat, p64, Nat.mod_eq_of_lt h, show (BitVec.ofInt (IntKind.bits .u64) (1)).toNat = 1 from rfl, Nat.and_one_is_mod]
  have e2 : IntKind.wrap .i64 (Int.fdiv ((u : Nat) : Int) (2 ^ (min (Int.toNat (1)) (IntKind.bits .u64)))) = ((u / 2 : Nat) : Int) := by
    rw [two1, Int.fdiv_eq_ediv_of_nonneg _ (by decide), w64 (by omega) (by omega)]; omega
  rw [e1, e2]
  unfold unzig
  by_cases h2 : u % 2 = 1
  · rw [if_pos h2, h2]
    have e3 : IntKind.wrap .i64 (0 - (IntKind.wrap .i64 (IntKind.wrap .u64 ((1 : Nat) : Int)))) = -1 := by decide
    have e4 : BitVec.ofInt (IntKind.bits .i64) (-1) = BitVec.allOnes (IntKind.bits .i64) := by decide
    rw [e3, e4, BitVec.xor_allOnes, BitVec.toNat_not, BitVec.ofInt_natCast, BitVec.toNat_ofNat, p64', Nat.mod_eq_of_lt (by omega), IntKind.wrap_i64]
    omega
  · rw [if_neg h2, show u % 2 = 0 by omega]
    have e3 : IntKind.wrap .i64 (0 - (IntKind.wrap .i64 (IntKind.wrap .u64 ((0 : Nat) : Int)))) = 0 := by decide
    have e4 : BitVec.ofInt (IntKind.bits .i64) 0 = 0#(IntKind.bits .i64) := by decide
    rw [e3, e4, BitVec.xor_zero, BitVec.ofInt_natCast, BitVec.toNat_ofNat, p64', Nat.mod_eq_of_lt (by omega), w64 (by omega) (by omega)]

section
variable {B : RO} {h : Heap}
noncomputable def rText (most : Int) (l : List UInt8) (bad : Bool) : List UInt8 × List UInt8 × Bool := rRaw ((rNat most l bad).1 : Nat) (rNat most l bad).2.1 (rNat most l bad).2.2
theorem rof_wp {l : List UInt8} {s : ByteArray} {Q : Option Addr → Heap → Prop} (hs : s = ba l) (hQ : ∀ k, h k = none → B k = none → Q (some ⟨k, 0, none⟩) (h.set k (rdO l false))) : C_stylus_Of B s h Q := by
  subst hs
  exact of_wp hQ

/-! Reading what was written -/
theorem rRaw_ok (x r : List UInt8) : rRaw (x.length : Nat) (x ++ r) false = (x, r, false) := by
  rw [rRaw, if_neg (by simp; omega)]
  simp
theorem rWord_ok {n : Nat} (hn : n < 18446744073709551616) (r : List UInt8) : rWord (natB n ++ r) false = (n, r, false) := rWord_some (wordOf_some rfl hn)
theorem rNat_ok {n : Nat} {most : Int} (hn : n < 18446744073709551616) (hm : (n : Int) ≤ most) (r : List UInt8) : rNat most (natB n ++ r) false = (n, r, false) := by
  rw [rNat, rWord_ok hn, if_neg (by simp only; omega)]
theorem rText_ok {x : List UInt8} {most : Int} (hx : x.length < 18446744073709551616) (hm : ((x.length : Nat) : Int) ≤ most) (r : List UInt8) : rText most (natB x.length ++ x ++ r) false = (x, r, false) := by
  rw [rText, List.append_assoc, rNat_ok hx hm]
  exact rRaw_ok x r
end
end Go.Proofs.Ytcncdfmnpmmikaa.H
