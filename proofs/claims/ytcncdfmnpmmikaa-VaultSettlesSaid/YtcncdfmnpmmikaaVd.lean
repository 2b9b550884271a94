/- Vault: the document's answers; great, alive. No condition. -/
import Derived.Test.YtcncdfmnpmmikaaVc
import Derived.Test.YtcncdfmnpmmikaaKc
import Derived.Test.YtcncdfmnpmmikaaHk
import Derived.Test.YtcncdfmnpmmikaaXvT
namespace Go.Proofs.Ytcncdfmnpmmikaa.H
open Go Go.RowKit
set_option linter.unusedVariables false
set_option maxRecDepth 100000

theorem hd_byte {b : UInt8} {t : List UInt8} : byteAt (ba (b :: t)) (Int.toNat 0) = ((b.toNat : Nat) : Int) := by
  obtain ⟨b', e1, e2⟩ := byteAt_w (s := ba (b :: t)) (i := 0) (by rw [ba_size]; simp)
  rw [bl_ba] at e1
  cases e1
  exact e2
theorem tl_bytes {b : UInt8} {t : List UInt8} : ByteArray.extract (ba (b :: t)) (Int.toNat 1) (Int.toNat (((ba (b :: t)).size : Nat) : Int)) = ba t := by
  rw [ba_size, Int.toNat_natCast]; exact extract_ba_end (b :: t) 1
theorem u8_eq {b c : UInt8} (h : b.toNat = c.toNat) : b = c := UInt8.toNat.inj h
section
variable {B : RO} {h0 h h' : Heap} {L M : List (Option (Nat × AObj))} {r : Option (Nat × AObj)} {b b1 b2 : List UInt8} {a a1 : Option Addr} {c c1 : Nat} {ls ls1 : List (List UInt8)}
theorem told_wp {Q : Int → ByteArray → Option Addr → Nat → Nat → Heap → Prop} (hs : b.length ≤ 1000000000) (hQ : ∀ a c r' h', SRow r' (.slice a (toldL b).ls.length c) (toldL b).ls → Keep B h [r'] h' → Q ((toldL b).e : Nat) (ba (toldL b).im) a (toldL b).ls.length c h') : C_countermandref05_Told B (ba b) h Q := by
  refine C_countermandref05_Told.of ?_
  unfold S_countermandref05_Told
  refine rall_wp (by rw [ba_size]; exact hs) fun a8 c10 r h7 R E => ?_
  rw [bl_ba] at R ⊢
  have hsm := allL_small b
  have hshort := (allL_spec b).1
  unfold toldL at hQ
  generalize allL b = rs at R hsm hQ hshort
  refine ⟨fun a n c ep im i m h' => ∃ (q e : Nat) (im' : List UInt8) (acc : List (List UInt8)) (r' : Option (Nat × AObj)), ep = (e : Nat) ∧ im = ba im' ∧ n = acc.length ∧ i = q ∧ q ≤ rs.length ∧ m = rs.length - q ∧ (q = 0 → e = 0 ∧ im' = [] ∧ acc = []) ∧ (1 ≤ q → toldR rs = ⟨e, im', acc ++ loadsL (rs.drop q)⟩) ∧ acc.length ≤ q ∧ SRow r' (.slice a acc.length c) acc ∧ Keep B h [r, r'] h', rs.length, Fin.of ⟨0, 0, [], [], none, rfl, rfl, rfl, rfl, by omega, by omega, fun _ => ⟨rfl, rfl, rfl⟩, fun e => by omega, by simp, Row.nil _ _, E.gap⟩, ?_⟩
  clear E
  rintro a _ c _ _ _ _ h17 ⟨q, e, im, acc, r', rfl, rfl, rfl, rfl, hq, rfl, i0, i1, hal, R', E⟩
  have fin : ∀ {h1 : Heap}, toldR rs = ⟨e, im, acc⟩ → Keep B h [r, r'] h1 → Fin B h1 (Q (e : Nat) (ba im) a acc.length c) := fun {h1} ht E => by
    rw [ht] at hQ
    exact Fin.of (hQ a c r' _ R' (E.picks [1] (by decide)))
  have non : ∀ {h1 : Heap}, toldR rs = ⟨0, [], []⟩ → Keep B h [r, r'] h1 → Fin B h1 (Q 0 (ByteArray.mk #[]) none 0 0) := fun {h1} ht E => by
    rw [ht] at hQ
    exact Fin.of (hQ none 0 none _ (Row.nil _ _) (E.take 0).gap)
  refine ⟨fun hlt => ?_, fun hge => ?_⟩
  · have hq' : q < rs.length := by omega
    have hw : IntKind.wrap .i64 ((q : Int) + 1) = ((q + 1 : Nat) : Int) := by rw [w64 (by omega) (by omega)]; omega
    have hx := List.getElem?_eq_getElem hq'
    have hsl := hshort _ (List.getElem_mem hq')
    have hdr : rs.drop q = rs[q] :: rs.drop (q + 1) := List.drop_eq_getElem_cons hq'
    generalize rs[q] = l at hx hdr hsl
    obtain ⟨A', e1, _, e4⟩ := ((Row.rd (B := B) R strC_len (by omega)).2 h17 fun k o e => E.at 0 (by rw [← e]; rfl)) q l hx
    refine ⟨A', e1, by omega, hlt, ba l, e4.1, fun h1 => ?_, fun h1 => ?_⟩
    · have : q = 0 := by omega
      subst this
      obtain ⟨rfl, rfl, rfl⟩ := i0 rfl
      rw [List.drop_zero] at hdr
      cases l with
      | nil => exact ⟨fun _ => non (by rw [hdr, toldR_none firstL_0]) E, fun hn => absurd (by rw [ba_size]; rfl) hn⟩
      | cons x t =>
        refine ⟨fun hn => by rw [ba_size] at hn; simp at hn; omega, fun _ => ⟨by omega, by rw [ba_size]; simp, fun hb => Fin.of ?_, fun hb => ?_⟩⟩
        · rw [hd_byte] at hb
          have hx0 : x = 0 := u8_eq (by show x.toNat = 0; omega)
          subst hx0
          unfold S_countermandref05_Told_J1
          rw [tl_bytes]
          have htl : t.length ≤ 1024 := by simp at hsl; omega
          refine ⟨by omega, by rw [ba_size]; simp; omega, by omega, taken_wp (by rw [ba_size]; omega) ?_⟩
          rw [bl_ba]
          cases hwd : wordOf t with
          | none =>
            have et : takenOf t = (0, 0) := by rw [takenOf, hwd]
            rw [et]
            exact ⟨fun _ => non (by rw [hdr, toldR_none (firstL_n (by rw [natT, hwd]))]) E, fun hn => absurd rfl hn⟩
          | some p =>
            obtain ⟨n, r3⟩ := p
            have et : takenOf t = (n, t.length - r3.length) := by rw [takenOf, hwd]
            obtain ⟨el, ei⟩ := wordOf_eq hwd
            have hp := natB_pos n
            have hlen : t.length = (natB n).length + r3.length := by rw [el, List.length_append]
            rw [et]
            refine ⟨fun e => by simp only at e; omega, fun _ => ⟨fun hn0 => ?_, fun hn0 => ⟨fun hgt => ?_, fun hle => Fin.of ?_⟩⟩⟩
            · have : n = 0 := by simp only at hn0; omega
              subst this
              have tz : natT 1099511627776 t = some (0, r3) := by rw [natT, hwd]; simp
              exact non (by rw [hdr, toldR_none (firstL_z tz)]) E
            · simp only at hgt
              have tz : natT 1099511627776 t = none := by rw [natT, hwd]; simp only; rw [if_pos (by omega)]
              exact non (by rw [hdr, toldR_none (firstL_n tz)]) E
            · simp only at hle hn0
              have tz : natT 1099511627776 t = some (n, r3) := by rw [natT, hwd]; simp only; rw [if_neg (by omega)]
              have hf : firstL (0 :: t) = some (n, r3) := firstL_s tz (by omega)
              unfold S_countermandref05_Told_J2
              have hw2 : IntKind.wrap .i64 (1 + ((t.length - r3.length : Nat) : Int)) = ((1 + (t.length - r3.length) : Nat) : Int) := by rw [w64 (by omega) (by omega)]; omega
              simp only
              rw [hw2, w64 (n := ((n : Nat) : Int)) (by omega) (by omega)]
              have ex : ByteArray.extract (ba (0 :: t)) (Int.toNat ((1 + (t.length - r3.length) : Nat) : Int)) (Int.toNat (((ba (0 :: t)).size : Nat) : Int)) = ba r3 := by
                rw [ba_size, Int.toNat_natCast, Int.toNat_natCast, extract_ba_end]
                congr 1
                rw [show 1 + (t.length - r3.length) = (t.length - r3.length) + 1 by omega, List.drop_succ_cons]
                conv => lhs; rw [el]
                rw [show (natB n ++ r3).length - r3.length = (natB n).length by rw [List.length_append]; omega, List.drop_left]
              rw [ex]
              exact ⟨by omega, by rw [ba_size, List.length_cons]; omega, by omega, Fin.of ⟨rs.length - 1, by omega, 1, n, r3, [], r', rfl, rfl, rfl, hw, by omega, rfl, fun e => by omega, fun _ => by rw [hdr, toldR_some hf]; simp, by simp, R', E⟩⟩
        · rw [hd_byte] at hb
          have hx0 : x ≠ 0 := fun e => by subst e; exact hb rfl
          exact non (by rw [hdr, toldR_none (firstL_b hx0)]) E
    · have hq1 : 1 ≤ q := by omega
      have ht := i1 hq1
      rw [hdr] at ht
      cases l with
      | nil =>
        rw [loadsL_nil, List.append_nil] at ht
        exact ⟨fun _ => fin ht E, fun hn => absurd (by rw [ba_size]; rfl) hn⟩
      | cons x t =>
        refine ⟨fun hn => by rw [ba_size] at hn; simp at hn; omega, fun _ => ⟨by omega, by rw [ba_size]; simp, fun hb => Fin.of ?_, fun hb => ?_⟩⟩
        · rw [hd_byte] at hb
          have hx0 : x = 1 := u8_eq (by show x.toNat = 1; omega)
          subst hx0
          rw [loadsL_yes] at ht
          unfold S_countermandref05_Told_J3
          rw [tl_bytes]
          refine ⟨by omega, by rw [ba_size]; simp; omega, by omega, fun k41 a41 b41 h42 e42 => ?_⟩
          refine E.push1 1 rfl R' TK.slc_strs TK.zero_str rfl (by omega) (by omega) TK.sl_strs (ys := strC t) rfl (strC_one t) (by rw [flatMap_length strC_len, strC_len]; omega) a41 b41 e42 fun a' m' c' r'' h59 R2 E2 => ⟨a', m', c', rfl, ?_⟩
          have hm := Row.len R2
          rw [List.length_append, flatMap_length strC_len, strC_len] at hm
          have hm2 : m' = (acc ++ [t]).length := by rw [List.length_append, List.length_singleton]; omega
          subst hm2
          refine Fin.of ⟨rs.length - (q + 1), by omega, q + 1, e, im, acc ++ [t], r'', rfl, rfl, rfl, hw, by omega, rfl, fun e => by omega, fun _ => by rw [ht]; simp [List.append_assoc], by rw [List.length_append, List.length_singleton]; omega, ?_, E2⟩
          unfold SRow
          rw [List.flatMap_append, List.flatMap_singleton]; exact R2
        · rw [hd_byte] at hb
          have hx0 : x ≠ 1 := fun e => by subst e; exact hb rfl
          rw [loadsL_no hx0, List.append_nil] at ht
          exact fin ht E
  · have : q = rs.length := by omega
    subst this
    refine fin ?_ E
    rcases Nat.eq_zero_or_pos rs.length with hz | hp
    · have hr : rs = [] := List.length_eq_zero_iff.1 hz
      obtain ⟨rfl, rfl, rfl⟩ := i0 hz
      rw [hr, toldR_nil]
    · rw [i1 hp, List.drop_length]; simp [loadsL]
theorem found_wp {Q : Int → ByteArray → Option Addr → Nat → Nat → Heap → Prop} (hs1 : b1.length ≤ 1000000000) (hs2 : b2.length ≤ 1000000000) (hQ : ∀ a c r' h', SRow r' (.slice a (foundL b1 b2).ls.length c) (foundL b1 b2).ls → Keep B h [r'] h' → Q ((foundL b1 b2).e : Nat) (ba (foundL b1 b2).im) a (foundL b1 b2).ls.length c h') : C_countermandref05_Found B (ba b1) (ba b2) h Q := by
  refine C_countermandref05_Found.of ?_
  unfold S_countermandref05_Found
  refine told_wp hs1 fun a1 c1 r1 h8 R1 E1 => told_wp hs2 fun a2 c2 r2 h14 R2 E2 => ?_
  have E3 := E1.append E2
  unfold foundL at hQ
  refine ⟨fun hgt => Fin.of ?_, fun hle => Fin.of ?_⟩
  · rw [if_pos (by omega)] at hQ
    exact hQ a2 c2 r2 _ R2 (E3.picks [1] (by decide))
  · rw [if_neg (by omega)] at hQ
    exact hQ a1 c1 r1 _ R1 (E3.picks [0] (by decide))
theorem same05_wp {Q : Bool → Heap → Prop} (ra : Reads B h a 1 strC ls) (rb : Reads B h a1 1 strC ls) (hla : ls.length ≤ 1000000000) (hQ : Q true h) : C_countermandref05_Same B a ls.length c a1 ls.length c1 h Q := by
  refine C_countermandref05_Same.of ?_
  unfold S_countermandref05_Same
  refine ⟨fun _ => ?_, fun hn => absurd rfl hn⟩
  refine ⟨fun i m h' => ∃ j : Nat, j ≤ ls.length ∧ i = j ∧ m = ls.length - j ∧ h' = h, ls.length, Fin.of ⟨0, by omega, rfl, by omega, rfl⟩, ?_⟩
  rintro _ _ _ ⟨j, hj, rfl, rfl, rfl⟩
  refine ⟨fun hlt => ?_, fun _ => Fin.of hQ⟩
  have hj' : j < ls.length := by omega
  have hw : IntKind.wrap .i64 ((j : Int) + 1) = ((j + 1 : Nat) : Int) := by rw [w64 (by omega) (by omega)]; omega
  have hx := List.getElem?_eq_getElem hj'
  generalize ls[j] = x at hx
  obtain ⟨A, e1, _, e2⟩ := ra j x hx
  obtain ⟨A', f1, _, f2⟩ := rb j x hx
  exact ⟨A, e1, by omega, hlt, ba x, e2.1, A', f1, by omega, hlt, ba x, f2.1, fun _ => Fin.of ⟨ls.length - (j + 1), by omega, j + 1, by omega, hw, rfl, rfl⟩, fun hn => absurd rfl hn⟩
theorem image_wp {n : Nat} {s : ByteArray} {Q : ByteArray → Heap → Prop} (hn : n ≤ 1099511627776) (hs : s.size ≤ 1000000) (hQ : Q (ba (closeL (imgL n (bl s)))) h) : C_countermandref05_Image B (n : Nat) s h Q := by
  refine C_countermandref05_Image.of ?_
  unfold S_countermandref05_Image
  have hb := natB_length (n := n) (by omega)
  refine refNat_wp (by omega) ?_
  rw [natI_nat]
  have e : ByteArray.mk #[0] ++ ba (natB n) ++ s = ba (imgL n (bl s)) := by
    rw [show ByteArray.mk #[0] = ba [0] from rfl, ← ba_append]
    conv => lhs; rw [← ba_bl s]
    rw [← ba_append]; rfl
  have e1 : (ByteArray.mk #[0] ++ ba (natB n)).size = 1 + (natB n).length := by
    rw [show ByteArray.mk #[0] = ba [0] from rfl, ← ba_append, ba_size]; simp; omega
  rw [e]
  refine ⟨by rw [ba_size]; show 1 + _ ≤ _; omega, by rw [e1]; omega, rclose_wp (by rw [ba_size]; simp [imgL, bl_length]; omega) (Fin.of ?_)⟩
  rw [bl_ba]; exact hQ
theorem great05_wp {Q : Bool → Heap → Prop} (hr : Reads B h a 1 strC ls) (hQ : ∀ b, (b = false → ls.length ≤ 40 ∧ (ls.map List.length).sum ≤ 4096) → Q b h) : C_countermandlaw05_great B a ls.length c h Q := by
  refine C_countermandlaw05_great.of ?_
  unfold S_countermandlaw05_great
  refine ⟨fun _ => Fin.of (hQ true fun e => by cases e), fun hlen => ?_⟩
  refine ⟨fun n i m h' => ∃ j : Nat, j ≤ ls.length ∧ i = j ∧ m = ls.length - j ∧ n = (((ls.take j).map List.length).sum : Nat) ∧ ((ls.take j).map List.length).sum ≤ 4096 ∧ h' = h, ls.length, Fin.of ⟨0, by omega, rfl, by omega, by simp, by simp, rfl⟩, ?_⟩
  rintro _ _ _ _ ⟨j, hj, rfl, rfl, rfl, hn, rfl⟩
  refine ⟨fun hlt => ?_, fun _ => Fin.of (hQ false fun _ => ?_)⟩
  · have hj' : j < ls.length := by omega
    have hw : IntKind.wrap .i64 ((j : Int) + 1) = ((j + 1 : Nat) : Int) := by rw [w64 (by omega) (by omega)]; omega
    have hx := List.getElem?_eq_getElem hj'
    have htk := List.take_succ_eq_append_getElem hj'
    generalize ls[j] = x at hx htk
    obtain ⟨A, e1, _, e2⟩ := hr j x hx
    refine ⟨A, e1, by omega, hlt, ba x, e2.1, fun _ => Fin.of (hQ true fun e => by cases e), fun hz => ?_⟩
    rw [ba_size] at hz
    have hw2 : IntKind.wrap .i64 ((((ls.take j).map List.length).sum : Nat) + (((ba x).size : Nat) : Int)) = (((ls.take (j + 1)).map List.length).sum : Nat) := by
      rw [ba_size, w64 (by omega) (by omega), htk]; simp
    rw [hw2]
    exact ⟨fun _ => Fin.of (hQ true fun e => by cases e), fun hz2 => Fin.of ⟨ls.length - (j + 1), by omega, j + 1, by omega, hw, rfl, rfl, by omega, rfl⟩⟩
  · have : j = ls.length := by omega
    subst this
    rw [List.take_length] at hn
    exact ⟨by omega, hn⟩
end
end Go.Proofs.Ytcncdfmnpmmikaa.H
