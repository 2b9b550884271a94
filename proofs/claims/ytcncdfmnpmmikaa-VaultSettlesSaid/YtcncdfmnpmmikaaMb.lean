/- Plain facts of the bytes with which a number begins. No condition. -/
import Derived.Test.YtcncdfmnpmmikaaMa
namespace Go.Proofs.Ytcncdfmnpmmikaa.H
open Go
set_option linter.unusedVariables false

/-- The number with which bytes begin, and what is behind it. -/
noncomputable def wordOf (l : List UInt8) : Option (Nat × List UInt8) :=
  open Classical in if h : ∃ p : Nat × List UInt8, l = natB p.1 ++ p.2 ∧ p.1 < 18446744073709551616 then some (Classical.choose h) else none
theorem wordOf_some {l r : List UInt8} {n : Nat} (h : l = natB n ++ r) (hn : n < 18446744073709551616) : wordOf l = some (n, r) := by
  have hex : ∃ p : Nat × List UInt8, l = natB p.1 ++ p.2 ∧ p.1 < 18446744073709551616 := ⟨(n, r), h, hn⟩
  unfold wordOf
  rw [dif_pos hex]
  have hc := Classical.choose_spec hex
  obtain ⟨e1, e2⟩ := natB_prefix _ _ _ _ (hc.1.symm.trans h)
  exact congrArg some (Prod.ext e1 e2)
theorem wordOf_none {l : List UInt8} (h : ∀ n r, l = natB n ++ r → ¬ n < 18446744073709551616) : wordOf l = none := by
  unfold wordOf
  rw [dif_neg]
  rintro ⟨p, h1, h2⟩
  exact h _ _ h1 h2
theorem wordOf_eq {l r : List UInt8} {n : Nat} (h : wordOf l = some (n, r)) : l = natB n ++ r ∧ n < 18446744073709551616 := by
  unfold wordOf at h
  split at h
  · rename_i hex
    have hc := Classical.choose_spec hex
    rw [Option.some.injEq] at h
    rw [h] at hc
    exact hc
  · cases h

theorem natB_cons_hi {m : Nat} {b : UInt8} {r t : List UInt8} (hb : 128 ≤ b.toNat) : b :: t = natB m ++ r ↔ 128 ≤ m ∧ b.toNat = m % 128 + 128 ∧ t = natB (m / 128) ++ r := by
  by_cases hm : m < 128
  · rw [natB_lo hm]
    constructor
    · intro h
      simp only [List.cons_append, List.nil_append, List.cons.injEq] at h
      rw [h.1, UInt8.toNat_ofNat'] at hb
      omega
    · intro h; omega
  · rw [natB_hi hm]
    simp only [List.cons_append, List.cons.injEq]
    constructor
    · rintro ⟨h1, h2⟩
      refine ⟨by omega, ?_, h2⟩
      rw [h1, UInt8.toNat_ofNat']; omega
    · rintro ⟨_, h1, h2⟩
      refine ⟨?_, h2⟩
      rw [← h1]; simp
theorem natB_cons_lo {m : Nat} {b : UInt8} {r t : List UInt8} (hb : b.toNat < 128) : b :: t = natB m ++ r ↔ m = b.toNat ∧ t = r := by
  by_cases hm : m < 128
  · rw [natB_lo hm]
    simp only [List.cons_append, List.nil_append, List.cons.injEq]
    constructor
    · rintro ⟨h1, h2⟩
      refine ⟨?_, h2⟩
      rw [h1, UInt8.toNat_ofNat']; omega
    · rintro ⟨h1, h2⟩
      refine ⟨?_, h2⟩
      rw [h1]; simp
  · rw [natB_hi hm]
    constructor
    · intro h
      simp only [List.cons_append, List.cons.injEq] at h
      rw [h.1, UInt8.toNat_ofNat'] at hb
      omega
    · intro h; omega

/-- 'k' bytes were read, and tell 'acc'; 'rest' is left. -/
def Half (l : List UInt8) (k acc : Nat) (rest : List UInt8) : Prop :=
  acc < 2 ^ (7 * k) ∧ rest.length + k = l.length ∧ ∀ n r, l = natB n ++ r ↔ rest = natB (n / 2 ^ (7 * k)) ++ r ∧ n % 2 ^ (7 * k) = acc ∧ (0 < k → 2 ^ (7 * k) ≤ n)
theorem Half.zero (l : List UInt8) : Half l 0 0 l := ⟨by simp, rfl, fun n r => by simp [Nat.mod_one]⟩
theorem Half.succ {l t : List UInt8} {k acc : Nat} {b : UInt8} (h : Half l k acc (b :: t)) (hb : 128 ≤ b.toNat) : Half l (k + 1) (acc + b.toNat % 128 * 2 ^ (7 * k)) t := by
  obtain ⟨h1, h2, h3⟩ := h
  have hp : 2 ^ (7 * (k + 1)) = 2 ^ (7 * k) * 128 := by rw [show 7 * (k + 1) = 7 * k + 7 by omega, Nat.pow_add]
  have hpos : 0 < 2 ^ (7 * k) := Nat.two_pow_pos _
  refine ⟨?_, by simp only [List.length_cons] at h2; omega, fun n r => ?_⟩
  · rw [hp]
    have : b.toNat % 128 < 128 := Nat.mod_lt _ (by omega)
    have : b.toNat % 128 * 2 ^ (7 * k) ≤ 127 * 2 ^ (7 * k) := Nat.mul_le_mul_right _ (by omega)
    omega
  · rw [h3 n r, natB_cons_hi hb, hp, ← Nat.div_div_eq_div_mul, Nat.mod_mul]
    have hlt := b.toNat_lt
    have hmod : n % 2 ^ (7 * k) < 2 ^ (7 * k) := Nat.mod_lt _ hpos
    constructor
    · rintro ⟨⟨a1, a2, a3⟩, a4, a5⟩
      refine ⟨a3, ?_, fun _ => ?_⟩
      · rw [a4, a2, Nat.mul_comm]
        congr 1; congr 1; omega
      · have := Nat.div_mul_le_self n (2 ^ (7 * k))
        calc 2 ^ (7 * k) * 128 ≤ 2 ^ (7 * k) * (n / 2 ^ (7 * k)) := Nat.mul_le_mul_left _ a1
          _ ≤ n := by rw [Nat.mul_comm]; exact this
    · rintro ⟨a1, a2, a3⟩
      have a4 : n % 2 ^ (7 * k) = acc ∧ n / 2 ^ (7 * k) % 128 = b.toNat % 128 := by
        have e1 := congrArg (· % 2 ^ (7 * k)) a2
        simp only [Nat.add_mul_mod_self_left, Nat.add_mul_mod_self_right, Nat.mod_eq_of_lt hmod, Nat.mod_eq_of_lt h1] at e1
        refine ⟨e1, ?_⟩
        rw [e1, Nat.mul_comm] at a2
        exact Nat.eq_of_mul_eq_mul_right hpos (by omega)
      refine ⟨⟨?_, by omega, a1⟩, a4.1, fun _ => by have := a3 (by omega); omega⟩
      exact (Nat.le_div_iff_mul_le hpos).2 (by have := a3 (by omega); rw [Nat.mul_comm]; exact this)
theorem Half.done {l t : List UInt8} {k acc : Nat} {b : UInt8} (h : Half l k acc (b :: t)) (hb : b.toNat < 128) (h0 : 0 < k → b.toNat ≠ 0) : l = natB (acc + b.toNat * 2 ^ (7 * k)) ++ t := by
  obtain ⟨h1, h2, h3⟩ := h
  have hpos : 0 < 2 ^ (7 * k) := Nat.two_pow_pos _
  refine (h3 _ _).2 ⟨(natB_cons_lo hb).2 ⟨?_, rfl⟩, ?_, fun hk => ?_⟩
  · rw [Nat.add_mul_div_right _ _ hpos, Nat.div_eq_of_lt h1, Nat.zero_add]
  · rw [Nat.add_mul_mod_self_right, Nat.mod_eq_of_lt h1]
  · have := h0 hk
    have : 1 * 2 ^ (7 * k) ≤ b.toNat * 2 ^ (7 * k) := Nat.mul_le_mul_right _ (by omega)
    omega
theorem Half.empty {l : List UInt8} {k acc : Nat} (h : Half l k acc []) : wordOf l = none := by
  refine wordOf_none fun n r e => ?_
  have := ((h.2.2 n r).1 e).1
  have h2 := natB_pos (n / 2 ^ (7 * k))
  have h3 := congrArg List.length this
  simp only [List.length_nil, List.length_append] at h3
  omega
theorem Half.zeroByte {l t : List UInt8} {k acc : Nat} {b : UInt8} (h : Half l k acc (b :: t)) (hb : b.toNat = 0) (hk : 0 < k) : wordOf l = none := by
  refine wordOf_none fun n r e => ?_
  obtain ⟨a1, a2, a3⟩ := (h.2.2 n r).1 e
  have := ((natB_cons_lo (by omega)).1 a1).1
  rw [hb] at this
  have hpos : 0 < 2 ^ (7 * k) := Nat.two_pow_pos _
  have := (Nat.div_eq_zero_iff_lt hpos).1 this
  have := a3 hk
  omega
theorem Half.great {l t : List UInt8} {acc : Nat} {b : UInt8} (h : Half l 9 acc (b :: t)) (hb : 1 < b.toNat) : wordOf l = none := by
  refine wordOf_none fun n r e => ?_
  obtain ⟨a1, a2, a3⟩ := (h.2.2 n r).1 e
  by_cases hlt : b.toNat < 128
  · have := ((natB_cons_lo hlt).1 a1).1
    omega
  · have := ((natB_cons_hi (by omega)).1 a1).1
    omega
theorem Half.bound {l t : List UInt8} {k acc : Nat} {b : UInt8} (h : Half l k acc (b :: t)) (hk : k ≤ 9) (hb : b.toNat < 128) (h9 : k = 9 → b.toNat ≤ 1) : acc + b.toNat * 2 ^ (7 * k) < 18446744073709551616 := by
  have h1 := h.1
  by_cases h9' : k = 9
  · subst h9'
    have := h9 rfl
    have : b.toNat * 2 ^ (7 * 9) ≤ 1 * 2 ^ (7 * 9) := Nat.mul_le_mul_right _ this
    omega
  · have hp : 2 ^ (7 * k) ≤ 2 ^ 56 := Nat.pow_le_pow_right (by omega) (by omega)
    have : b.toNat * 2 ^ (7 * k) ≤ 127 * 2 ^ 56 := Nat.mul_le_mul (by omega) hp
    omega
theorem bl_extract (s : ByteArray) (i j : Nat) : bl (s.extract i j) = ((bl s).drop i).take (j - i) := by
  unfold bl
  rw [ByteArray.data_extract, Array.toList_extract, List.extract_eq_take_drop]
theorem extract_ba (l : List UInt8) (j : Nat) : (ba l).extract 0 j = ba (l.take j) := bl_inj (by rw [bl_extract, bl_ba, bl_ba]; simp)
theorem extract_ba_end (l : List UInt8) (i : Nat) : (ba l).extract i l.length = ba (l.drop i) := bl_inj (by rw [bl_extract, bl_ba, bl_ba, List.take_of_length_le (by simp)])
theorem ba_nil : ba [] = ByteArray.mk #[] := rfl

set_option maxRecDepth 20000 in
theorem orShift {acc k x : Nat} (h1 : acc < 2 ^ (7 * k)) (hk : k ≤ 9) (hx : x < 256) (hb : acc + x % 128 * 2 ^ (7 * k) < 18446744073709551616) :
    IntKind.wrap .u64 ((BitVec.ofInt (IntKind.bits .u64) ((acc : Nat) : Int) ||| BitVec.ofInt (IntKind.bits .u64) (IntKind.wrap .u64 ((IntKind.wrap .u64 (IntKind.wrap .u8 ((BitVec.ofInt (IntKind.bits .u8) ((x : Nat) : Int) &&& BitVec.ofInt (IntKind.bits .u8) (127)).toNat : Int))) * 2 ^ (min (Int.toNat (((7 * k : Nat) : Int))) (IntKind.bits .u64))))).toNat : Int) = ((acc + x % 128 * 2 ^ (7 * k) : Nat) : Int) := by
  have e0 : (BitVec.ofInt (IntKind.bits .u8) ((x : Nat) : Int) &&& BitVec.ofInt (IntKind.bits .u8) (127)).toNat = x % 128 := by
    have key : ∀ y : Fin 256, (BitVec.ofInt (IntKind.bits .u8) ((y.val : Nat) : Int) &&& BitVec.ofInt (IntKind.bits .u8) (127)).toNat = y.val % 128 := by decide
    exact key ⟨x, hx⟩
  have e1 : min (Int.toNat (((7 * k : Nat) : Int))) (IntKind.bits .u64) = 7 * k := by
    show min _ 64 = _
    rw [Int.toNat_natCast]; omega
  have hb2 : x % 128 * 2 ^ (7 * k) < 18446744073709551616 := by omega
  rw [e0, e1, wu8, wu64, wu64, wu64]
  have e2 : ((x % 128 : Nat) : Int) % 256 % 18446744073709551616 * 2 ^ (7 * k) % 18446744073709551616 = ((x % 128 * 2 ^ (7 * k) : Nat) : Int) := by
    rw [Int.emod_eq_of_lt (a := ((x % 128 : Nat) : Int)) (by omega) (by omega), Int.emod_eq_of_lt (a := ((x % 128 : Nat) : Int)) (by omega) (by omega)]
    have : ((x % 128 : Nat) : Int) * 2 ^ (7 * k) = ((x % 128 * 2 ^ (7 * k) : Nat) : Int) := by push_cast; rfl
    rw [this, Int.emod_eq_of_lt (by omega) (by omega)]
  rw [e2, BitVec.toNat_or, BitVec.ofInt_natCast, BitVec.ofInt_natCast, BitVec.toNat_ofNat, BitVec.toNat_ofNat]
  have p64 : (2 : Nat) ^ (IntKind.bits .u64) = 18446744073709551616 := by decide
  rw [p64, Nat.mod_eq_of_lt (by omega), Nat.mod_eq_of_lt hb2, Nat.or_comm, Nat.mul_comm, ← Nat.two_pow_add_eq_or_of_lt h1, Nat.add_comm, Int.emod_eq_of_lt (by omega) (by rw [Nat.mul_comm]; omega)]
end Go.Proofs.Ytcncdfmnpmmikaa.H
