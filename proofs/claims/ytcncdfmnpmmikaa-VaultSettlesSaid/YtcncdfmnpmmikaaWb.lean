/- Sums and records: contracts of the functions and of the document's. No condition. -/
import Derived.Test.YtcncdfmnpmmikaaXvT
import Derived.Test.YtcncdfmnpmmikaaHr
import Derived.Test.YtcncdfmnpmmikaaHt
import Derived.Test.YtcncdfmnpmmikaaWa
namespace Go.Proofs.Ytcncdfmnpmmikaa.H
open Go
set_option linter.unusedVariables false
set_option maxRecDepth 100000

theorem byteAt_w {s : ByteArray} {i : Nat} (h : i < s.size) : ∃ b, (bl s)[i]? = some b ∧ byteAt s i = ((b.toNat : Nat) : Int) := by
  refine ⟨s[i], ?_, by unfold byteAt; rw [dif_pos h]⟩
  have h' : i < s.data.toList.length := by simpa using h
  show s.data.toList[i]? = some s[i]
  rw [List.getElem?_eq_getElem h']
  rfl
theorem bvIntU (n : Int) : BitVec.ofInt 32 (IntKind.wrap .u32 n) = BitVec.ofInt 32 n := by
  apply BitVec.eq_of_toNat_eq
  rw [BitVec.toNat_ofInt, BitVec.toNat_ofInt, wu32]
  congr 1
  show n % 4294967296 % 4294967296 = n % 4294967296
  omega
theorem progByte (c : BitVec 32) (b : UInt8) : IntKind.wrap .u32 (((BitVec.ofInt (IntKind.bits .u32) ((c.toNat : Nat) : Int) ^^^ BitVec.ofInt (IntKind.bits .u32) (IntKind.wrap .u32 ((b.toNat : Nat) : Int))).toNat : Nat) : Int) = (((c ^^^ BitVec.ofNat 32 b.toNat).toNat : Nat) : Int) := by
  show IntKind.wrap .u32 (((BitVec.ofInt 32 ((c.toNat : Nat) : Int) ^^^ BitVec.ofInt 32 (IntKind.wrap .u32 ((b.toNat : Nat) : Int))).toNat : Nat) : Int) = _
  rw [bvIntU, bvInt, BitVec.ofInt_natCast, wrapBv]
theorem progBit (c : BitVec 32) : IntKind.wrap .u32 (((BitVec.ofInt (IntKind.bits .u32) (Int.fdiv ((c.toNat : Nat) : Int) (2 ^ (min (Int.toNat (1)) (IntKind.bits .u32)))) ^^^ BitVec.ofInt (IntKind.bits .u32) (IntKind.wrap .u32 (((BitVec.ofInt (IntKind.bits .u32) (2197175160) &&& BitVec.ofInt (IntKind.bits .u32) (IntKind.wrap .u32 (0 - (IntKind.wrap .u32 (((BitVec.ofInt (IntKind.bits .u32) ((c.toNat : Nat) : Int) &&& BitVec.ofInt (IntKind.bits .u32) (1)).toNat : Nat) : Int))))).toNat : Nat) : Int))).toNat : Nat) : Int) = (((crcBit c).toNat : Nat) : Int) := by
  have e2 : (2 : Int) ^ (min (Int.toNat (1)) (IntKind.bits .u32)) = 2 := by decide
  rw [e2]
  show IntKind.wrap .u32 (((BitVec.ofInt 32 (Int.fdiv ((c.toNat : Nat) : Int) 2) ^^^ BitVec.ofInt 32 (IntKind.wrap .u32 (((BitVec.ofInt 32 (2197175160) &&& BitVec.ofInt 32 (IntKind.wrap .u32 (0 - (IntKind.wrap .u32 (((BitVec.ofInt 32 ((c.toNat : Nat) : Int) &&& BitVec.ofInt 32 (1)).toNat : Nat) : Int))))).toNat : Nat) : Int))).toNat : Nat) : Int) = _
  have e3 : BitVec.ofInt 32 1 = 1#32 := by decide
  have e4 : BitVec.ofInt 32 2197175160 = polyV := by decide
  have e5 : BitVec.ofInt 32 (Int.fdiv ((c.toNat : Nat) : Int) 2) = c >>> 1 := by
    rw [Int.fdiv_eq_ediv_of_nonneg _ (by omega)]
    show BitVec.ofInt 32 ((c.toNat / 2 : Nat) : Int) = _
    rw [← shr1_toNat, bvInt]
  have e6 : ∀ x : BitVec 32, BitVec.ofInt 32 (0 - ((x.toNat : Nat) : Int)) = -x := fun x => by
    apply BitVec.eq_of_toNat_eq
    rw [BitVec.toNat_ofInt, BitVec.toNat_neg]
    have := x.isLt
    show ((0 - ((x.toNat : Nat) : Int)) % ((4294967296 : Nat) : Int)).toNat = (4294967296 - x.toNat) % 4294967296
    omega
  rw [e3, e4, e5, bvInt, wrapBv (c &&& 1#32), bvIntU (0 - _), e6, bvIntU, bvInt, wrapBv]
  rfl
theorem compl_toNat (x : BitVec 32) : (4294967295#32 ^^^ x).toNat = 4294967295 - x.toNat := by
  have : (4294967295#32 : BitVec 32) = BitVec.allOnes 32 := by decide
  rw [this, BitVec.allOnes_xor, BitVec.toNat_not]
theorem crcRaw_take (l : List UInt8) (j : Nat) (b : UInt8) (h : l[j]? = some b) : crcRaw (l.take (j + 1)) = crcByte (crcRaw (l.take j)) b := by
  obtain ⟨hj, rfl⟩ := List.getElem?_eq_some_iff.1 h
  unfold crcRaw
  rw [List.take_succ_eq_append_getElem hj, List.foldl_append]; rfl
theorem le4_bytes {n : Nat} (h : n < 4294967296) : [(Value.int .u8 (IntKind.wrap .u8 ((n : Nat) : Int))), (Value.int .u8 (IntKind.wrap .u8 (Int.fdiv ((n : Nat) : Int) (2 ^ (min (Int.toNat (8)) (IntKind.bits .u32)))))), (Value.int .u8 (IntKind.wrap .u8 (Int.fdiv ((n : Nat) : Int) (2 ^ (min (Int.toNat (16)) (IntKind.bits .u32)))))), (Value.int .u8 (IntKind.wrap .u8 (Int.fdiv ((n : Nat) : Int) (2 ^ (min (Int.toNat (24)) (IntKind.bits .u32))))))] = (le4 n).map byteV := by
  have a1 : (2 : Int) ^ (min (Int.toNat (8)) (IntKind.bits .u32)) = 256 := by decide
  have a2 : (2 : Int) ^ (min (Int.toNat (16)) (IntKind.bits .u32)) = 65536 := by decide
  have a3 : (2 : Int) ^ (min (Int.toNat (24)) (IntKind.bits .u32)) = 16777216 := by decide
  rw [a1, a2, a3, Int.fdiv_eq_ediv_of_nonneg _ (by omega), Int.fdiv_eq_ediv_of_nonneg _ (by omega), Int.fdiv_eq_ediv_of_nonneg _ (by omega), wu8, wu8, wu8, wu8]
  unfold le4 byteV
  simp only [List.map_cons, List.map_nil, UInt8.toNat_ofNat']
  rfl
theorem le4_bytes2 {n : Nat} (h : n < 4294967296) : [(Value.int .u8 (IntKind.wrap .u8 (Int.tmod ((n : Nat) : Int) (256)))), (Value.int .u8 (IntKind.wrap .u8 (Int.tmod (IntKind.wrap .u32 (Int.tdiv ((n : Nat) : Int) (256))) (256)))), (Value.int .u8 (IntKind.wrap .u8 (Int.tmod (IntKind.wrap .u32 (Int.tdiv ((n : Nat) : Int) (65536))) (256)))), (Value.int .u8 (IntKind.wrap .u8 (IntKind.wrap .u32 (Int.tdiv ((n : Nat) : Int) (16777216)))))] = (le4 n).map byteV := by
  have t1 : ∀ m : Nat, Int.tdiv ((n : Nat) : Int) (m : Nat) = ((n / m : Nat) : Int) := fun m => rfl
  have t2 : ∀ m : Nat, Int.tmod ((m : Nat) : Int) 256 = ((m % 256 : Nat) : Int) := fun m => rfl
  have t3 : ∀ m : Nat, m ≤ n → IntKind.wrap .u32 ((m : Nat) : Int) = ((m : Nat) : Int) := fun m hm => by rw [wu32]; omega
  have r1 : Int.tdiv ((n : Nat) : Int) 256 = ((n / 256 : Nat) : Int) := rfl
  have r2 : Int.tdiv ((n : Nat) : Int) 65536 = ((n / 65536 : Nat) : Int) := rfl
  have r3 : Int.tdiv ((n : Nat) : Int) 16777216 = ((n / 16777216 : Nat) : Int) := rfl
  rw [r1, r2, r3, t3 _ (Nat.div_le_self _ _), t3 _ (Nat.div_le_self _ _), t3 _ (Nat.div_le_self _ _), t2, t2, t2, wu8, wu8, wu8, wu8]
  unfold le4 byteV
  simp only [List.map_cons, List.map_nil, UInt8.toNat_ofNat']
  refine congr (congrArg List.cons ?_) (congr (congrArg List.cons ?_) (congr (congrArg List.cons ?_) (congr (congrArg List.cons ?_) rfl))) <;> congr 1 <;> omega
theorem hdr_bytes {n : Nat} (h : n ≤ 1024) : [(Value.int .u8 (IntKind.wrap .u8 (Int.fdiv ((n : Nat) : Int) (2 ^ (min (Int.toNat (8)) (IntKind.bits .i64)))))), (Value.int .u8 (IntKind.wrap .u8 ((n : Nat) : Int)))] = (hdrL n).map byteV := by
  have a1 : (2 : Int) ^ (min (Int.toNat (8)) (IntKind.bits .i64)) = 256 := by decide
  rw [a1, Int.fdiv_eq_ediv_of_nonneg _ (by omega), wu8, wu8]
  unfold hdrL byteV
  simp only [List.map_cons, List.map_nil, UInt8.toNat_ofNat']
  rfl
theorem hdr_bytes2 {n : Nat} (h : n ≤ 1024) : [(Value.int .u8 (IntKind.wrap .u8 (IntKind.wrap .i64 (Int.tdiv ((n : Nat) : Int) (256))))), (Value.int .u8 (IntKind.wrap .u8 (Int.tmod ((n : Nat) : Int) (256))))] = (hdrL n).map byteV := by
  have r1 : Int.tdiv ((n : Nat) : Int) 256 = ((n / 256 : Nat) : Int) := rfl
  have r2 : Int.tmod ((n : Nat) : Int) 256 = ((n % 256 : Nat) : Int) := rfl
  rw [r1, r2, w64 (by omega) (by omega), wu8, wu8]
  unfold hdrL byteV
  simp only [List.map_cons, List.map_nil, UInt8.toNat_ofNat']
  refine congr (congrArg List.cons ?_) (congr (congrArg List.cons ?_) rfl) <;> congr 1 <;> omega
theorem TK.byteStr2 : byteStr PG TY.s_uint8 TY.string = true := by kernel_rfl
theorem TK.slc_strs : slcB PG TY.s_string = some (TY.string, 1, 16) := by kernel_rfl
theorem TK.zero_str : zeroB PG TY.string = some [.string ByteArray.empty] := by kernel_rfl
theorem TK.sl_strs : slT PG TY.s_string = true := by kernel_rfl
/-- A row of texts. -/
def strC (l : List UInt8) : List Value := [.string (ba l)]
theorem strC_len (l : List UInt8) : (strC l).length = 1 := rfl
theorem ba_empty : ByteArray.mk #[] = ba [] := rfl

section
variable {B : RO} {h h0 : Heap} {L : List (Option (Nat × AObj))}
theorem bytes_str {k n : Nat} {vs : List Value} {bs : List UInt8} {K : Value → Heap → Prop} (hk : h k = some (.vec TY.uint8 (plains vs) n)) (hv : vs = bs.map byteV) (hn : bs.length ≤ n) (hK : K (.string (ba bs)) h) :
    semH PG B (convert TY.s_uint8 TY.string (.slice (some ⟨k, 0, none⟩) bs.length bs.length)) h K := by
  subst hv
  refine semH_convB TK.byteStr2 (semH_bytesToString (e := TY.uint8) (bs := bs) (.inr ⟨k, bs.length, bs.length, n, [], rfl, by rw [List.append_nil]; exact hk, by simp, by omega, by omega⟩) hK)
theorem wsum_wp {s : ByteArray} {Q : Int → Heap → Prop} (hs : s.size ≤ 1099511627776) (hQ : Q ((crcL (bl s) : Nat) : Int) h) : C_wafer_Sum B s h Q := by
  refine C_wafer_Sum.of ?_
  unfold S_wafer_Sum
  refine ⟨fun a i m h' => ∃ j : Nat, j ≤ s.size ∧ i = j ∧ a = ((crcRaw ((bl s).take j)).toNat : Nat) ∧ m = s.size - j ∧ h' = h, s.size, Fin.of ⟨0, by omega, rfl, rfl, by omega, rfl⟩, ?_⟩
  rintro _ _ _ h5 ⟨j, hj, rfl, rfl, rfl, rfl⟩
  refine ⟨fun hlt => ⟨by omega, hlt, ?_⟩, fun hge => Fin.of ?_⟩
  · have hj' : j < s.size := by omega
    obtain ⟨b, hb1, hb2⟩ := byteAt_w hj'
    have e0 : Int.toNat (j : Int) = j := by omega
    rw [e0, hb2, progByte]
    refine ⟨fun a k m h' => ∃ (n : Nat) (c : BitVec 32), n ≤ 8 ∧ k = n ∧ a = (c.toNat : Nat) ∧ crcBits (8 - n) c = crcByte (crcRaw ((bl s).take j)) b ∧ m = 8 - n ∧ h' = h5, 8, Fin.of ⟨0, _, by omega, rfl, rfl, rfl, by omega, rfl⟩, ?_⟩
    rintro _ _ _ h13 ⟨n, c, hn, rfl, rfl, hc, rfl, rfl⟩
    refine ⟨fun h8 => ⟨by decide, Fin.of ?_⟩, fun h8 => Fin.of ?_⟩
    · rw [progBit]
      refine ⟨8 - (n + 1), by omega, n + 1, crcBit c, by omega, ?_, rfl, ?_, rfl, rfl⟩
      · rw [w64 (by omega) (by omega)]; omega
      · rw [← hc, show 8 - n = (8 - (n + 1)) + 1 by omega]; rfl
    · have : n = 8 := by omega
      subst this
      refine ⟨s.size - (j + 1), by omega, j + 1, by omega, ?_, ?_, rfl, rfl⟩
      · rw [w64 (by omega) (by omega)]; omega
      · rw [crcRaw_take _ _ _ hb1, ← hc]; rfl
  · have : j = s.size := by omega
    subst this
    rw [← bl_length, List.take_length]
    have e : IntKind.wrap .u32 (((BitVec.ofInt (IntKind.bits .u32) (if IntKind.signed .u32 then (-1 : Int) else IntKind.max .u32) ^^^ BitVec.ofInt (IntKind.bits .u32) (((crcRaw (bl s)).toNat : Nat) : Int)).toNat : Nat) : Int) = ((crcL (bl s) : Nat) : Int) := by
      have e1 : BitVec.ofInt (IntKind.bits .u32) (if IntKind.signed .u32 then (-1 : Int) else IntKind.max .u32) = (4294967295#32 : BitVec 32) := by
        show BitVec.ofInt 32 4294967295 = (4294967295#32 : BitVec 32)
        decide
      rw [e1]
      show IntKind.wrap .u32 (((4294967295#32 ^^^ BitVec.ofInt 32 (((crcRaw (bl s)).toNat : Nat) : Int)).toNat : Nat) : Int) = _
      rw [bvInt, wrapBv]; rfl
    rw [e]; exact hQ
theorem rsum_wp {s : ByteArray} {Q : Int → Heap → Prop} (hs : s.size ≤ 1099511627776) (hQ : Q ((crcL (bl s) : Nat) : Int) h) : C_countermandref02_Sum B s h Q := by
  refine C_countermandref02_Sum.of ?_
  unfold S_countermandref02_Sum
  refine ⟨fun a i m h' => ∃ j : Nat, j ≤ s.size ∧ i = j ∧ a = ((crcRaw ((bl s).take j)).toNat : Nat) ∧ m = s.size - j ∧ h' = h, s.size, Fin.of ⟨0, by omega, rfl, rfl, by omega, rfl⟩, ?_⟩
  rintro _ _ _ h5 ⟨j, hj, rfl, rfl, rfl, rfl⟩
  refine ⟨fun hlt => ⟨by omega, hlt, ?_⟩, fun hge => Fin.of ?_⟩
  · have hj' : j < s.size := by omega
    obtain ⟨b, hb1, hb2⟩ := byteAt_w hj'
    have e0 : Int.toNat (j : Int) = j := by omega
    rw [e0, hb2]
    refine ⟨fun a b' k m h' => ∃ (n : Nat) (c : BitVec 32) (x : Nat), n ≤ 8 ∧ k = n ∧ a = (c.toNat : Nat) ∧ b' = x ∧ x < 2 ^ (8 - n) ∧ crcBits (8 - n) (c ^^^ BitVec.ofNat 32 x) = crcByte (crcRaw ((bl s).take j)) b ∧ m = 8 - n ∧ h' = h5, 8, Fin.of ⟨0, _, b.toNat, by omega, rfl, rfl, rfl, b.toNat_lt, rfl, by omega, rfl⟩, ?_⟩
    rintro _ _ _ _ h14 ⟨n, c, x, hn, rfl, rfl, rfl, hx, hc, rfl, rfl⟩
    have hx8 : x < 256 := Nat.lt_of_lt_of_le hx (Nat.le_trans (Nat.pow_le_pow_right (by omega) (show 8 - n ≤ 8 by omega)) (by decide))
    have hcl := c.isLt
    refine ⟨fun h8 => ⟨by decide, by decide, ?_⟩, fun h8 => Fin.of ?_⟩
    · have hxs : x / 2 < 2 ^ (8 - (n + 1)) := by
        rw [show 8 - n = (8 - (n + 1)) + 1 by omega, Nat.pow_succ] at hx; omega
      have hw : IntKind.wrap .i64 ((n : Int) + 1) = ((n + 1 : Nat) : Int) := by rw [w64 (by omega) (by omega)]; omega
      have t1 : Int.tmod ((c.toNat : Nat) : Int) 2 = ((c.toNat % 2 : Nat) : Int) := rfl
      have t2 : Int.tmod ((x : Nat) : Int) 2 = ((x % 2 : Nat) : Int) := rfl
      have t3 : Int.tdiv ((c.toNat : Nat) : Int) 2 = ((c.toNat / 2 : Nat) : Int) := rfl
      have t4 : Int.tdiv ((x : Nat) : Int) 2 = ((x / 2 : Nat) : Int) := rfl
      have t5 : IntKind.wrap .u8 ((x / 2 : Nat) : Int) = ((x / 2 : Nat) : Int) := by rw [wu8]; omega
      have t6 : IntKind.wrap .u32 ((c.toNat / 2 : Nat) : Int) = (((c >>> 1).toNat : Nat) : Int) := by rw [← shr1_toNat, wrapBv]
      rw [t1, t2, t3, t4, t5, t6]
      have hcs : crcBits (8 - (n + 1)) (crcBit (c ^^^ BitVec.ofNat 32 x)) = crcByte (crcRaw ((bl s).take j)) b := by
        rw [← hc, show 8 - n = (8 - (n + 1)) + 1 by omega]; rfl
      have hp : ((((c.toNat % 2 : Nat) : Int) == 1) = (((x % 2 : Nat) : Int) == 1)) ↔ c.toNat % 2 = x % 2 := by
        rw [Bool.eq_iff_iff, beq_iff_eq, beq_iff_eq]; omega
      refine ⟨fun he => ⟨by decide, by decide, Fin.of ?_⟩, fun he => ⟨by decide, by decide, Fin.of ?_⟩⟩
      · rw [crcBit_even2 hx8 (hp.1 he)] at hcs
        exact ⟨8 - (n + 1), by omega, n + 1, c >>> 1, x / 2, by omega, hw, rfl, rfl, hxs, hcs, rfl, rfl⟩
      · rw [crcBit_odd2 hx8 (fun z => he (hp.2 z))] at hcs
        refine ⟨8 - (n + 1), by omega, n + 1, (c >>> 1) ^^^ polyV, x / 2, by omega, hw, ?_, rfl, hxs, hcs, rfl, rfl⟩
        show IntKind.wrap .u32 (((BitVec.ofInt 32 (((c >>> 1).toNat : Nat) : Int) ^^^ BitVec.ofInt 32 2197175160).toNat : Nat) : Int) = _
        rw [bvInt, show BitVec.ofInt 32 2197175160 = polyV by decide, wrapBv]
    · have : n = 8 := by omega
      subst this
      have hx0 : x = 0 := by simpa using hx
      subst hx0
      refine ⟨s.size - (j + 1), by omega, j + 1, by omega, ?_, ?_, rfl, rfl⟩
      · rw [w64 (by omega) (by omega)]; omega
      · rw [crcRaw_take _ _ _ hb1, ← hc]
        show _ = (((c ^^^ 0#32).toNat : Nat) : Int)
        rw [BitVec.xor_zero]
  · have : j = s.size := by omega
    subst this
    rw [← bl_length, List.take_length]
    have hl := (crcRaw (bl s)).isLt
    have e : IntKind.wrap .u32 (4294967295 - (((crcRaw (bl s)).toNat : Nat) : Int)) = ((crcL (bl s) : Nat) : Int) := by
      rw [wu32, crcL, compl_toNat]; omega
    rw [e]; exact hQ
theorem foots_wp {n : Nat} {Q : ByteArray → Heap → Prop} (hn : n < 4294967296) (hQ : Q (ba (le4 n)) h) : C_wafer_foots B ((n : Nat) : Int) h Q := by
  refine C_wafer_foots.of ?_
  unfold S_wafer_foots
  refine ⟨by decide, by decide, by decide, fun k a b h4 e4 => ?_⟩
  obtain ⟨g, l, -⟩ := Heap.made a e4
  exact bytes_str (bs := le4 n) g (le4_bytes hn) (by simp [le4]) ⟨_, rfl, Fin.ent (Ent.forget l) (Fin.of hQ)⟩
theorem wclose_wp {s : ByteArray} {Q : ByteArray → Heap → Prop} (hs : s.size ≤ 1099511627776) (hQ : Q (ba (closeL (bl s))) h) : C_wafer_Close B s h Q := by
  refine C_wafer_Close.of ?_
  unfold S_wafer_Close
  refine ⟨fun hgt => Fin.of ?_, fun hle => ⟨by decide, fun k a b h4 e4 => ?_⟩⟩
  · rw [closeL, if_pos (by rw [bl_length]; omega)] at hQ; exact hQ
  · obtain ⟨g, l, -⟩ := Heap.made a e4
    refine bytes_str (bs := hdrL s.size) g (hdr_bytes (by omega)) (by simp [hdrL]) ⟨_, rfl, ?_⟩
    have hz : (ba (hdrL s.size)).size = 2 := by rw [ba_size]; rfl
    refine ⟨by rw [hz]; omega, wsum_wp (by rw [ByteArray.size_append, hz]; omega) (foots_wp (crcL_lt _) ⟨by rw [ByteArray.size_append, hz, ba_size]; simp [le4]; omega, Fin.ent (Ent.forget l) (Fin.of ?_)⟩)⟩
    have : ba (closeL (bl s)) = ba (hdrL s.size) ++ s ++ ba (le4 (crcL (bl (ba (hdrL s.size) ++ s)))) := by
      apply bl_inj
      simp only [bl_ba, bl_append, closeL, bl_length]
      rw [if_neg (by omega)]
    rw [← this]; exact hQ
theorem rclose_wp {s : ByteArray} {Q : ByteArray → Heap → Prop} (hs : s.size ≤ 1099511627776) (hQ : Q (ba (closeL (bl s))) h) : C_countermandref02_Close B s h Q := by
  refine C_countermandref02_Close.of ?_
  unfold S_countermandref02_Close
  refine ⟨fun hgt => Fin.of ?_, fun hle => ⟨by decide, by decide, fun k a b h4 e4 => ?_⟩⟩
  · rw [closeL, if_pos (by rw [bl_length]; omega)] at hQ; exact hQ
  · obtain ⟨g, l, -⟩ := Heap.made a e4
    refine bytes_str (bs := hdrL s.size) g (hdr_bytes2 (by omega)) (by simp [hdrL]) ⟨_, rfl, ?_⟩
    have hz : (ba (hdrL s.size)).size = 2 := by rw [ba_size]; rfl
    refine ⟨by rw [hz]; omega, rsum_wp (by rw [ByteArray.size_append, hz]; omega) ⟨by decide, by decide, by decide, by decide, by decide, by decide, fun k10 a10 b10 h11 e11 => ?_⟩⟩
    obtain ⟨g11, l11, -⟩ := Heap.made a10 e11
    refine bytes_str (bs := le4 (crcL (bl (ba (hdrL s.size) ++ s)))) g11 (le4_bytes2 (crcL_lt _)) (by simp [le4]) ⟨_, rfl, ?_⟩
    refine ⟨by rw [ByteArray.size_append, hz, ba_size]; simp [le4]; omega, Fin.ent (Ent.forget (Le.trans l l11)) (Fin.of ?_)⟩
    have : ba (closeL (bl s)) = ba (hdrL s.size) ++ s ++ ba (le4 (crcL (bl (ba (hdrL s.size) ++ s)))) := by
      apply bl_inj
      simp only [bl_ba, bl_append, closeL, bl_length]
      rw [if_neg (by omega)]
    rw [← this]; exact hQ
end
end Go.Proofs.Ytcncdfmnpmmikaa.H
