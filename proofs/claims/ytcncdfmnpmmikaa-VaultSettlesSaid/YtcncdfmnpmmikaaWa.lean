/- Sums of 32 bits, records, and rows of these: plain facts. No condition. -/
import Derived.Test.YtcncdfmnpmmikaaMb
namespace Go.Proofs.Ytcncdfmnpmmikaa.H
open Go
set_option linter.unusedVariables false

theorem wu32 (n : Int) : IntKind.wrap .u32 n = n % 4294967296 := by simp [IntKind.wrap, IntKind.bits, IntKind.signed]
theorem bvInt (x : BitVec 32) : BitVec.ofInt 32 (x.toNat : Int) = x := by rw [BitVec.ofInt_natCast, BitVec.ofNat_toNat, BitVec.setWidth_eq]
theorem wrapBv (x : BitVec 32) : IntKind.wrap .u32 (x.toNat : Int) = (x.toNat : Int) := by rw [wu32]; have := x.isLt; omega

def polyV : BitVec 32 := 2197175160#32
def crcBit (c : BitVec 32) : BitVec 32 := (c >>> 1) ^^^ (polyV &&& -(c &&& 1#32))
def crcBits : Nat → BitVec 32 → BitVec 32
  | 0, c => c
  | n + 1, c => crcBits n (crcBit c)
def crcByte (c : BitVec 32) (b : UInt8) : BitVec 32 := crcBits 8 (c ^^^ BitVec.ofNat 32 b.toNat)
def crcRaw (l : List UInt8) : BitVec 32 := l.foldl crcByte 4294967295#32
def crcL (l : List UInt8) : Nat := (4294967295#32 ^^^ crcRaw l).toNat
theorem crcL_lt (l : List UInt8) : crcL l < 4294967296 := (4294967295#32 ^^^ crcRaw l).isLt
theorem crcBit_even {c : BitVec 32} (h : c.toNat % 2 = 0) : crcBit c = c >>> 1 := by
  have h1 : c &&& 1#32 = 0#32 := by
    apply BitVec.eq_of_toNat_eq
    rw [BitVec.toNat_and]
    show c.toNat &&& 1 = 0
    rw [Nat.and_one_is_mod]; exact h
  unfold crcBit
  rw [h1]
  simp
theorem crcBit_odd {c : BitVec 32} (h : c.toNat % 2 = 1) : crcBit c = (c >>> 1) ^^^ polyV := by
  have h1 : c &&& 1#32 = 1#32 := by
    apply BitVec.eq_of_toNat_eq
    rw [BitVec.toNat_and]
    show c.toNat &&& 1 = 1
    rw [Nat.and_one_is_mod]; exact h
  unfold crcBit
  rw [h1]
  have : polyV &&& -1#32 = polyV := by decide
  rw [this]
theorem xor_mod2 (a b : BitVec 32) : (a ^^^ b).toNat % 2 = (a.toNat + b.toNat) % 2 := by
  have h := @Nat.xor_mod_two_eq_one a.toNat b.toNat
  rw [BitVec.toNat_xor]
  omega
theorem shr1_toNat (c : BitVec 32) : (c >>> 1).toNat = c.toNat / 2 := by
  rw [BitVec.toNat_ushiftRight, Nat.shiftRight_eq_div_pow]
theorem ofNat_shr1 {b : Nat} (hb : b < 256) : (BitVec.ofNat 32 b) >>> 1 = BitVec.ofNat 32 (b / 2) := by
  apply BitVec.eq_of_toNat_eq
  rw [shr1_toNat, BitVec.toNat_ofNat, BitVec.toNat_ofNat, Nat.mod_eq_of_lt (by omega), Nat.mod_eq_of_lt (by omega)]
theorem ofNat_toNat8 {b : Nat} (hb : b < 256) : (BitVec.ofNat 32 b).toNat = b := by rw [BitVec.toNat_ofNat, Nat.mod_eq_of_lt (by omega)]
/-- The document's step: the sum and the rest of the byte, each by itself. -/
theorem crcBit_even2 {c : BitVec 32} {b : Nat} (hb : b < 256) (h : c.toNat % 2 = b % 2) : crcBit (c ^^^ BitVec.ofNat 32 b) = (c >>> 1) ^^^ BitVec.ofNat 32 (b / 2) := by
  rw [crcBit_even (by rw [xor_mod2, ofNat_toNat8 hb]; omega), BitVec.ushiftRight_xor_distrib, ofNat_shr1 hb]
theorem crcBit_odd2 {c : BitVec 32} {b : Nat} (hb : b < 256) (h : ¬ c.toNat % 2 = b % 2) : crcBit (c ^^^ BitVec.ofNat 32 b) = ((c >>> 1) ^^^ polyV) ^^^ BitVec.ofNat 32 (b / 2) := by
  rw [crcBit_odd (by rw [xor_mod2, ofNat_toNat8 hb]; omega), BitVec.ushiftRight_xor_distrib, ofNat_shr1 hb, BitVec.xor_assoc, BitVec.xor_assoc, BitVec.xor_comm polyV]

/-! Records -/
def le4 (n : Nat) : List UInt8 := [UInt8.ofNat n, UInt8.ofNat (n / 256), UInt8.ofNat (n / 65536), UInt8.ofNat (n / 16777216)]
def hdrL (n : Nat) : List UInt8 := [UInt8.ofNat (n / 256), UInt8.ofNat n]
def closeL (l : List UInt8) : List UInt8 := if 1024 < l.length then [] else hdrL l.length ++ l ++ le4 (crcL (hdrL l.length ++ l))
def openL (b : List UInt8) : Option (List UInt8) :=
  match b with
  | b0 :: b1 :: t => let n := b0.toNat * 256 + b1.toNat
    if 1024 < n ∨ t.length < n + 4 then none
    else if le4 (crcL (b0 :: b1 :: t.take n)) = (t.drop n).take 4 then some (t.take n) else none
  | _ => none
theorem closeL_len {l : List UInt8} (h : l.length ≤ 1024) : (closeL l).length = l.length + 6 := by
  unfold closeL
  rw [if_neg (by omega)]
  simp [hdrL, le4]
theorem hdr_eq {b0 b1 : UInt8} : hdrL (b0.toNat * 256 + b1.toNat) = [b0, b1] := by
  have h0 := b0.toNat_lt
  have h1 := b1.toNat_lt
  unfold hdrL
  have e0 : (b0.toNat * 256 + b1.toNat) / 256 = b0.toNat := by omega
  rw [e0]
  have e1 : UInt8.ofNat (b0.toNat * 256 + b1.toNat) = b1 := by
    apply UInt8.toNat_inj.1
    rw [UInt8.toNat_ofNat']; omega
  rw [e1, UInt8.ofNat_toNat]
theorem openL_some {b l : List UInt8} (h : openL b = some l) : b = closeL l ++ b.drop (l.length + 6) ∧ l.length ≤ 1024 ∧ l.length + 6 ≤ b.length := by
  unfold openL at h
  split at h
  · rename_i b0 b1 t
    simp only at h
    split at h
    · cases h
    · rename_i hn
      split at h
      · rename_i hs
        simp only [Option.some.injEq] at h
        have hl : l.length = b0.toNat * 256 + b1.toNat := by rw [← h, List.length_take]; omega
        refine ⟨?_, by omega, by simp; omega⟩
        have e0 : closeL l = b0 :: b1 :: (l ++ le4 (crcL (b0 :: b1 :: l))) := by
          unfold closeL
          rw [if_neg (by omega), hl, hdr_eq]; rfl
        have key : ∀ n, t.take n = l → le4 (crcL (b0 :: b1 :: l)) = (t.drop n).take 4 → l.length = n → b0 :: b1 :: t = closeL l ++ (b0 :: b1 :: t).drop (l.length + 6) := by
          intro n h1 h2 h3
          rw [e0, h2, h3]
          show b0 :: b1 :: t = b0 :: b1 :: (l ++ (t.drop n).take 4 ++ t.drop (n + 4))
          rw [← List.drop_drop, ← h1, List.append_assoc, List.take_append_drop, List.take_append_drop]
        exact key _ h (by rw [← h]; exact hs) hl
      · cases h
  · cases h
theorem openL_close {l r : List UInt8} (h : l.length ≤ 1024) : openL (closeL l ++ r) = some l := by
  have e : closeL l ++ r = UInt8.ofNat (l.length / 256) :: UInt8.ofNat l.length :: (l ++ (le4 (crcL (hdrL l.length ++ l)) ++ r)) := by
    unfold closeL
    rw [if_neg (by omega)]
    simp [hdrL]
  rw [e]
  unfold openL
  have e0 : (UInt8.ofNat (l.length / 256)).toNat * 256 + (UInt8.ofNat l.length).toNat = l.length := by
    rw [UInt8.toNat_ofNat', UInt8.toNat_ofNat']; omega
  simp only [e0]
  rw [if_neg (by simp [le4]; omega), if_pos]
  · simp
  · rw [List.take_left' rfl, List.drop_left' rfl]
    simp [le4, hdrL]
theorem closeL_inj {l m r s : List UInt8} (hl : l.length ≤ 1024) (hm : m.length ≤ 1024) (h : closeL l ++ r = closeL m ++ s) : l = m ∧ r = s := by
  have h1 := openL_close (r := r) hl
  rw [h, openL_close hm] at h1
  have : m = l := by simpa using h1
  subst this
  exact ⟨rfl, List.append_cancel_left h⟩
/-- A part of a record is none. -/
theorem openL_part {l p q : List UInt8} (hl : l.length ≤ 1024) (h : closeL l = p ++ q) (hq : q ≠ []) : openL p = none := by
  cases e : openL p with
  | none => rfl
  | some m =>
    exfalso
    obtain ⟨e1, e2, e3⟩ := openL_some e
    have h2 : closeL l ++ [] = closeL m ++ (p.drop (m.length + 6) ++ q) := by rw [List.append_nil, h, ← List.append_assoc, ← e1]
    obtain ⟨_, h3⟩ := closeL_inj hl e2 h2
    exact hq (List.append_eq_nil_iff.1 h3.symm).2

/-- All loads with which bytes begin. -/
def allL (b : List UInt8) : List (List UInt8) :=
  match h : openL b with
  | none => []
  | some l => l :: allL (b.drop (l.length + 6))
termination_by b.length
decreasing_by
  have := (openL_some h).2.2
  rw [List.length_drop]; omega
theorem allL_none {b : List UInt8} (h : openL b = none) : allL b = [] := by
  rw [allL]; split
  · rfl
  · rename_i e; rw [h] at e; cases e
theorem allL_some {b l : List UInt8} (h : openL b = some l) : allL b = l :: allL (b.drop (l.length + 6)) := by
  rw [allL]; split
  · rename_i e; rw [h] at e; cases e
  · rename_i m e; rw [h] at e; cases e; rfl
def rowL (ls : List (List UInt8)) : List UInt8 := ls.flatMap closeL
def Short (ls : List (List UInt8)) : Prop := ∀ l ∈ ls, l.length ≤ 1024
theorem allL_close {l r : List UInt8} (h : l.length ≤ 1024) : allL (closeL l ++ r) = l :: allL r := by
  rw [allL_some (openL_close h), ← closeL_len h, List.drop_left' rfl]
theorem allL_row : ∀ {ls : List (List UInt8)} {r : List UInt8}, Short ls → allL (rowL ls ++ r) = ls ++ allL r
  | [], r, h => rfl
  | l :: ls, r, h => by
    show allL (closeL l ++ rowL ls ++ r) = _
    rw [List.append_assoc, allL_close (h l (by simp)), allL_row (fun x hx => h x (by simp [hx]))]; rfl
theorem allL_spec (b : List UInt8) : Short (allL b) ∧ ∃ r, b = rowL (allL b) ++ r ∧ openL r = none := by
  cases e : openL b with
  | none => rw [allL_none e]; exact ⟨fun _ hx => by simp at hx, b, rfl, e⟩
  | some l =>
    obtain ⟨h1, h2, h3⟩ := openL_some e
    obtain ⟨hs, r, h4, h5⟩ := allL_spec (b.drop (l.length + 6))
    rw [allL_some e]
    refine ⟨fun x hx => ?_, r, ?_, h5⟩
    · rcases List.mem_cons.1 hx with rfl | hx
      · exact h2
      · exact hs x hx
    · show b = closeL l ++ rowL _ ++ r
      rw [List.append_assoc, ← h4]; exact h1
termination_by b.length
decreasing_by rw [List.length_drop]; omega
def wholeL (b : List UInt8) : Nat := (rowL (allL b)).length
theorem wholeL_le (b : List UInt8) : wholeL b ≤ b.length := by
  obtain ⟨_, r, h, _⟩ := allL_spec b
  have := congrArg List.length h
  rw [List.length_append] at this
  unfold wholeL; omega
theorem rowL_nil : rowL [] = [] := rfl
theorem rowL_append (a b : List (List UInt8)) : rowL (a ++ b) = rowL a ++ rowL b := List.flatMap_append
theorem rowL_one (l : List UInt8) : rowL [l] = closeL l := by simp [rowL]
theorem rowL_len : ∀ {ls : List (List UInt8)}, Short ls → (rowL ls).length = (ls.map fun l => l.length + 6).sum
  | [], _ => rfl
  | l :: ls, h => by
    show (closeL l ++ rowL ls).length = _
    rw [List.length_append, closeL_len (h l (by simp)), rowL_len (fun x hx => h x (by simp [hx]))]; rfl
theorem openL_nil : openL [] = none := rfl
theorem allL_rows {ls : List (List UInt8)} (h : Short ls) : allL (rowL ls) = ls := by
  have := allL_row (r := []) h
  rwa [List.append_nil, allL_none openL_nil, List.append_nil] at this
/-- Nothing stands behind the records. -/
theorem whole_eq {b : List UInt8} (h : ¬ wholeL b < b.length) : b = rowL (allL b) := by
  obtain ⟨_, r, h1, _⟩ := allL_spec b
  have h2 := congrArg List.length h1
  rw [List.length_append] at h2
  have h3 : (rowL (allL b)).length = wholeL b := rfl
  have : r = [] := List.length_eq_zero_iff.1 (by omega)
  rw [this, List.append_nil] at h1; exact h1
theorem whole_rows {ls : List (List UInt8)} (h : Short ls) : wholeL (rowL ls) = (rowL ls).length := by unfold wholeL; rw [allL_rows h]
end Go.Proofs.Ytcncdfmnpmmikaa.H
