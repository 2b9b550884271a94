/- Plain facts of whole numbers, bytes and varints. No condition. -/
import Derived.IntWalk
import Derived.Laws.BitsLemmas
namespace Go.Proofs.Ythloobpjkeodgaa.H
open Go
set_option linter.unusedVariables false

theorem w64 {n : Int} (h : -9223372036854775808 ≤ n) (h' : n ≤ 9223372036854775807) : IntKind.wrap .i64 n = n := IntWalk.i64_in n ⟨h, h'⟩
theorem wu64 (n : Int) : IntKind.wrap .u64 n = n % 18446744073709551616 := by simp [IntKind.wrap, IntKind.bits, IntKind.signed]
theorem wu8 (n : Int) : IntKind.wrap .u8 n = n % 256 := IntKind.wrap_u8 n

/-- A number's bytes, seven bits in each. -/
def natB (n : Nat) : List UInt8 := if n < 128 then [UInt8.ofNat n] else UInt8.ofNat (n % 128 + 128) :: natB (n / 128)
termination_by n
decreasing_by omega
theorem natB_lo {n : Nat} (h : n < 128) : natB n = [UInt8.ofNat n] := by rw [natB, if_pos h]
theorem natB_hi {n : Nat} (h : ¬ n < 128) : natB n = UInt8.ofNat (n % 128 + 128) :: natB (n / 128) := by rw [natB, if_neg h]
theorem natB_length_le : ∀ (k n : Nat), n < 128 ^ k → 0 < k → (natB n).length ≤ k
  | 0, _, _, h => absurd h (by omega)
  | k + 1, n, hn, _ => by
    by_cases h : n < 128
    · rw [natB_lo h]; simp
    · rw [natB_hi h]
      have h0 : 0 < k := by
        cases k with
        | zero => simp at hn; omega
        | succ k => omega
      have := natB_length_le k (n / 128) (by rw [Nat.pow_succ] at hn; exact Nat.div_lt_of_lt_mul (by omega)) h0
      simp only [List.length_cons]; omega
theorem natB_length {n : Nat} (h : n < 18446744073709551616) : (natB n).length ≤ 10 := natB_length_le 10 n (by omega) (by omega)
theorem natB_pos (n : Nat) : 0 < (natB n).length := by
  rw [natB]; split <;> simp
theorem natB_mono : ∀ (n m : Nat), n ≤ m → (natB n).length ≤ (natB m).length
  | n, m, h => by
    by_cases h1 : n < 128
    · rw [natB_lo h1]; exact natB_pos m
    · rw [natB_hi h1, natB_hi (n := m) (by omega)]
      have := natB_mono (n / 128) (m / 128) (Nat.div_le_div_right h)
      simp only [List.length_cons]; omega
termination_by n => n
decreasing_by omega
theorem ofNat_inj {a b : Nat} (ha : a < 256) (hb : b < 256) (h : UInt8.ofNat a = UInt8.ofNat b) : a = b := by
  have := congrArg UInt8.toNat h
  simp only [UInt8.toNat_ofNat'] at this
  omega
/-- No number's bytes are the beginning of another's. -/
theorem natB_prefix : ∀ (n m : Nat) (r s : List UInt8), natB n ++ r = natB m ++ s → n = m ∧ r = s
  | n, m, r, s, h => by
    by_cases h1 : n < 128 <;> by_cases h2 : m < 128
    · rw [natB_lo h1, natB_lo h2] at h
      simp only [List.cons_append, List.nil_append, List.cons.injEq] at h
      exact ⟨ofNat_inj (by omega) (by omega) h.1, h.2⟩
    · rw [natB_lo h1, natB_hi h2] at h
      simp only [List.cons_append, List.nil_append, List.cons.injEq] at h
      have := ofNat_inj (by omega) (by omega) h.1
      omega
    · rw [natB_hi h1, natB_lo h2] at h
      simp only [List.cons_append, List.nil_append, List.cons.injEq] at h
      have := ofNat_inj (by omega) (by omega) h.1
      omega
    · rw [natB_hi h1, natB_hi h2] at h
      simp only [List.cons_append, List.cons.injEq] at h
      have h3 := ofNat_inj (by omega) (by omega) h.1
      obtain ⟨h4, h5⟩ := natB_prefix (n / 128) (m / 128) r s h.2
      exact ⟨by omega, h5⟩
termination_by n => n
decreasing_by omega
theorem natB_inj {n m : Nat} (h : natB n = natB m) : n = m := (natB_prefix n m [] [] (by simpa using h)).1

/-- Of several numbers: nothing of those below 0. -/
def natI (i : Int) : List UInt8 := if i < 0 then [] else natB i.toNat
def natsB (l : List Int) : List UInt8 := l.flatMap natI
/-- A number with a sign as one without. -/
def zig (i : Int) : Nat := if i < 0 then (-2 * i - 1).toNat else (2 * i).toNat
def intsB (l : List Int) : List UInt8 := l.flatMap fun i => natB (zig i)

set_option maxRecDepth 20000 in
theorem orByte (v : Nat) : (IntKind.wrap .u8 ((BitVec.ofInt (IntKind.bits .u8) (IntKind.wrap .u8 (v : Int)) ||| BitVec.ofInt (IntKind.bits .u8) (128)).toNat : Int)) = (((UInt8.ofNat (v % 128 + 128)).toNat : Nat) : Int) := by
  have key : ∀ x : Fin 256, ((BitVec.ofInt (IntKind.bits .u8) ((x.val : Nat) : Int) ||| BitVec.ofInt (IntKind.bits .u8) (128)).toNat) = x.val % 128 + 128 := by decide
  have h1 : IntKind.wrap .u8 (v : Int) = ((v % 256 : Nat) : Int) := by rw [wu8]; omega
  rw [h1]
  have h2 := key ⟨v % 256, by omega⟩
  simp only at h2
  rw [h2, wu8]
  simp only [UInt8.toNat_ofNat']
  omega
theorem lowByte {v : Nat} (h : v < 256) : (IntKind.wrap .u8 (v : Int)) = (((UInt8.ofNat v).toNat : Nat) : Int) := by
  rw [wu8]; simp only [UInt8.toNat_ofNat']; omega
theorem shr7 (v : Nat) : Int.fdiv (v : Int) (2 ^ (min (Int.toNat (7)) (IntKind.bits .i64))) = ((v / 128 : Nat) : Int) := by
  have : (2 : Int) ^ (min (Int.toNat (7)) (IntKind.bits .i64)) = 128 := by decide
  rw [this, Int.fdiv_eq_ediv_of_nonneg _ (by decide)]; omega
theorem shr7u (v : Nat) : Int.fdiv (v : Int) (2 ^ (min (Int.toNat (7)) (IntKind.bits .u64))) = ((v / 128 : Nat) : Int) := by
  have : (2 : Int) ^ (min (Int.toNat (7)) (IntKind.bits .u64)) = 128 := by decide
  rw [this, Int.fdiv_eq_ediv_of_nonneg _ (by decide)]; omega
theorem two1 : (2 : Int) ^ (min (Int.toNat (1)) (IntKind.bits .u64)) = 2 := by decide
theorem two63 : (2 : Int) ^ (min (Int.toNat (63)) (IntKind.bits .i64)) = 9223372036854775808 := by decide
theorem zigWord {i : Int} (h : -9223372036854775808 ≤ i) (h' : i ≤ 9223372036854775807) : IntKind.wrap .u64 ((BitVec.ofInt (IntKind.bits .u64) (IntKind.wrap .u64 ((IntKind.wrap .u64 (i)) * 2 ^ (min (Int.toNat (1)) (IntKind.bits .u64)))) ^^^ BitVec.ofInt (IntKind.bits .u64) (IntKind.wrap .u64 (Int.fdiv (i) (2 ^ (min (Int.toNat (63)) (IntKind.bits .i64)))))).toNat : Int) = ((zig i : Nat) : Int) := by
  rw [two1, two63, Int.fdiv_eq_ediv_of_nonneg _ (by decide)]
  unfold zig
  by_cases hn : i < 0
  · have e1 : IntKind.wrap .u64 (i / 9223372036854775808) = 18446744073709551615 := by rw [wu64]; omega
    have e2 : IntKind.wrap .u64 (IntKind.wrap .u64 i * 2) = (((2 * i + 18446744073709551616).toNat : Nat) : Int) := by rw [wu64, wu64]; omega
    have e3 : BitVec.ofInt (IntKind.bits .u64) 18446744073709551615 = BitVec.allOnes (IntKind.bits .u64) := by decide
    rw [e1, e2, e3, BitVec.xor_allOnes, BitVec.toNat_not, BitVec.ofInt_natCast, BitVec.toNat_ofNat, wu64, if_pos hn]
    have : (2 : Nat) ^ (IntKind.bits .u64) = 18446744073709551616 := by decide
    rw [this]
    omega
  · have e1 : IntKind.wrap .u64 (i / 9223372036854775808) = 0 := by rw [wu64]; omega
    have e2 : IntKind.wrap .u64 (IntKind.wrap .u64 i * 2) = (((2 * i).toNat : Nat) : Int) := by rw [wu64, wu64]; omega
    have e3 : BitVec.ofInt (IntKind.bits .u64) 0 = 0#(IntKind.bits .u64) := by decide
    rw [e1, e2, e3, BitVec.xor_zero, BitVec.ofInt_natCast, BitVec.toNat_ofNat, wu64, if_neg hn]
    have : (2 : Nat) ^ (IntKind.bits .u64) = 18446744073709551616 := by decide
    rw [this]
    omega
theorem zig_inj {i j : Int} (h : zig i = zig j) : i = j := by
  unfold zig at h
  split at h <;> split at h <;> omega

/-! Bytes of a string, as a list. -/
def bl (s : ByteArray) : List UInt8 := s.data.toList
def ba (l : List UInt8) : ByteArray := ⟨l.toArray⟩
theorem bl_ba (l : List UInt8) : bl (ba l) = l := by simp [bl, ba]
theorem ba_bl (s : ByteArray) : ba (bl s) = s := by cases s; simp [bl, ba]
theorem bl_inj {s t : ByteArray} (h : bl s = bl t) : s = t := by rw [← ba_bl s, h, ba_bl]
theorem ba_inj {l m : List UInt8} (h : ba l = ba m) : l = m := by rw [← bl_ba l, h, bl_ba]
theorem bl_append (s t : ByteArray) : bl (s ++ t) = bl s ++ bl t := by simp [bl]
theorem ba_append (l m : List UInt8) : ba (l ++ m) = ba l ++ ba m := bl_inj (by rw [bl_append, bl_ba, bl_ba, bl_ba])
theorem bl_length (s : ByteArray) : (bl s).length = s.size := by simp [bl]
theorem ba_size (l : List UInt8) : (ba l).size = l.length := by rw [← bl_length, bl_ba]
end Go.Proofs.Ythloobpjkeodgaa.H
