/- Tomes: Read, of the program and of the document: contracts; TomeReads, TomeReturns. No condition. -/
import Derived.Test.YtoajfmmomgpjcaaTg
import Derived.Test.YtoajfmmomgpjcaaTf
namespace Go.Proofs.Ytoajfmmomgpjcaa.H
open Go Go.RowKit
set_option linter.unusedVariables false
set_option maxRecDepth 100000

theorem stepR_read (l : List UInt8) : ((rText 32 (rNat 5 l false).2.1 (rNat 5 l false).2.2).2.2 = true → stepR l = none) ∧ ((rText 32 (rNat 5 l false).2.1 (rNat 5 l false).2.2).2.2 = false → stepR l = some ((rNat 5 l false).1, (rText 32 (rNat 5 l false).2.1 (rNat 5 l false).2.2).1, (rText 32 (rNat 5 l false).2.1 (rNat 5 l false).2.2).2.1)) := by
  have bad : rText 32 [] true = ([], [], true) := by
    rw [rText, rNat, rWord_bad]; simp [rRaw]
  cases hw : wordOf l with
  | none =>
    have e : rNat 5 l false = (0, [], true) := by rw [rNat, rWord_none hw]; simp
    rw [e]
    simp only [bad]
    exact ⟨fun _ => stepR_w0 hw, fun h => by cases h⟩
  | some p =>
    obtain ⟨i, r⟩ := p
    by_cases hi : 5 < i
    · have e : rNat 5 l false = (0, [], true) := by rw [rNat, rWord_some hw]; simp; omega
      rw [e]
      simp only [bad]
      exact ⟨fun _ => stepR_i hw hi, fun h => by cases h⟩
    · have e : rNat 5 l false = (i, r, false) := by rw [rNat, rWord_some hw, if_neg (by simp only; omega)]
      rw [e]
      simp only
      cases hw2 : wordOf r with
      | none =>
        have e2 : rText 32 r false = ([], [], true) := by rw [rText, rNat, rWord_none hw2]; simp [rRaw]
        rw [e2]
        exact ⟨fun _ => stepR_w1 hw hw2, fun h => by cases h⟩
      | some p2 =>
        obtain ⟨n, r2⟩ := p2
        by_cases hn : 32 < n
        · have e2 : rText 32 r false = ([], [], true) := by
            have : rNat 32 r false = (0, [], true) := by rw [rNat, rWord_some hw2]; simp; omega
            rw [rText, this]; simp [rRaw]
          rw [e2]
          exact ⟨fun _ => stepR_n hw hw2 (.inl hn), fun h => by cases h⟩
        · have e1 : rNat 32 r false = (n, r2, false) := by rw [rNat, rWord_some hw2, if_neg (by simp only; omega)]
          by_cases hs : r2.length < n
          · have e2 : rText 32 r false = ([], [], true) := by
              rw [rText, e1, rRaw, if_pos (by simp only; omega)]
            rw [e2]
            exact ⟨fun _ => stepR_n hw hw2 (.inr hs), fun h => by cases h⟩
          · have e2 : rText 32 r false = (r2.take n, r2.drop n, false) := by
              rw [rText, e1, rRaw, if_neg (by simp only; simp; omega)]
              simp
            rw [e2]
            exact ⟨fun h => (by cases h), fun _ => stepR_ok hw hi hw2 (by omega)⟩
section
variable {B : RO} {h0 h h' : Heap} {L : List (Option (Nat × AObj))} {Q : Bool → Heap → Prop} {k6 kT kR k16 k18 k32 : Nat} {v : Value} {r : Option (Nat × AObj)} {l : FL} {n : Int} {s : ByteArray}
theorem tread_wp {Q : Option Addr → Bool → Heap → Prop} (E : Keep B h0 L h) (hN : readG (bl s) (-1) zF = none → ∀ h', Keep B h0 L h' → Q none false h')
    (hS : ∀ z, readG (bl s) (-1) zF = some z → ∀ kT kR v r h', FRow r v z → Keep B h0 (L ++ tomE kT kR v r) h' → Q (some ⟨kT, 0, none⟩) true h') : C_tome_Read B s h Q := by
  refine C_tome_Read.of ?_
  unfold S_tome_Read
  refine tnew_wp fun kT kR v r h4 R E1 => rof_wp (ba_bl s).symm fun k7 a7 b7 => ?_
  have E2 := (E.append E1).new (o := rdO (bl s) false) a7 b7
  refine ⟨fun i m h' => ∃ (l : List UInt8) (z : FL) (r : Option (Nat × AObj)), m = l.length ∧ FRow r v z ∧ StR z i ∧ readG l i z = readG (bl s) (-1) zF ∧ Keep B h0 (L ++ tomE kT kR v r ++ [some (k7, rdO l false)]) h', (bl s).length, Fin.of ⟨_, _, r, rfl, R, StR.zero, rfl, E2⟩, ?_⟩
  clear E2 E1 R
  rintro last _ h9 ⟨l, z, r, rfl, R, K, hg, E⟩
  refine rleft_wp E.last ⟨fun h0' => ?_, fun h0' => ?_⟩
  · refine rnat_wp (by decide) E.last ?_
    have E1 := E.putLast (rdO (rNat 5 l false).2.1 (rNat 5 l false).2.2)
    refine rtext_wp (by decide) E1.last ?_
    have E2 := E1.putLast (rdO (rText 32 (rNat 5 l false).2.1 (rNat 5 l false).2.2).2.1 (rText 32 (rNat 5 l false).2.1 (rNat 5 l false).2.2).2.2)
    have hst := stepR_read l
    generalize rNat 5 l false = p1 at E2 hst
    generalize rText 32 p1.2.1 p1.2.2 = p2 at E2 hst
    have hne : l ≠ [] := fun e => by rw [e] at h0'; simp at h0'
    refine rbad_wp E2.last ⟨fun hb => Fin.of (hN ?_ _ E2.popL.popL), fun hb => ⟨fun hle => Fin.of (hN ?_ _ E2.popL.popL), fun hgt => Fin.of ?_⟩⟩
    · rw [← hg, readG_none hne (hst.1 hb)]
    · rw [← hg, readG_some (hst.2 hb), if_pos hle]
    · have hs := hst.2 hb
      obtain ⟨f1, f2, f3⟩ := stepR_some hs
      unfold S_tome_Read_J1
      have n6 := K.n6
      refine tset_wp (i := L.length) (kR := kR) E2 ⟨?_, ?_, ?_⟩ R fun r' h23 R' E3 => ?_
      · rw [List.append_assoc, List.getElem?_append_right (Nat.le_refl _), Nat.sub_self]; rfl
      · rw [List.append_assoc, List.getElem?_append_right (by omega), show L.length + 1 - L.length = 1 by omega]; rfl
      · rw [List.append_assoc, List.getElem?_append_right (by omega), show L.length + 1 + 1 - L.length = 2 by omega]; rfl
      · have hB : setB z p1.1 true (ba p2.1) = true := by
          unfold setB goodF
          rw [decide_eq_true (ba_small f2), decide_eq_true (show 0 ≤ ((p1.1 : Nat) : Int) ∧ ((p1.1 : Nat) : Int) < (z.length : Int) by omega)]; rfl
        rw [setF, hB, if_pos rfl, Int.toNat_natCast] at R'
        have e3 : (L ++ tomE kT kR v r ++ [some (k7, rdO p2.2.1 p2.2.2)]).set (L.length + 2) r' = L ++ tomE kT kR v r' ++ [some (k7, rdO p2.2.1 p2.2.2)] := by
          rw [List.append_assoc, List.set_append_right _ _ (by omega), show L.length + 2 - L.length = 2 by omega, List.append_assoc]; rfl
        rw [e3, hb] at E3
        refine Fin.of ⟨p2.2.1.length, stepR_lt hs, p2.2.1, _, r', rfl, R', K.step f1 hgt f2, ?_, E3⟩
        rw [← hg, readG_some hs, if_neg hgt]
  · have : l = [] := List.length_eq_zero_iff.1 (by omega)
    subst this
    rw [readG_nil] at hg
    exact Fin.of (hS z hg.symm _ _ _ _ _ R E.pop)
def afO (z : FL) : AObj := .vec TY.a_6_countermandref09_File (plains (filesC z ++ [])) 12
theorem Keep.fileSet {z : FL} (E : Keep B h0 L h) (i : Nat) {k nn : Nat} {t : TypeId} {zs : List Value} (hi : L[i]? = some (some (k, .vec t (plains (filesC z ++ zs)) nn))) (q : Nat) (hq : q < z.length) (hn : z.length * 2 ≤ nn) (b : Bool) (s : ByteArray) (ver : Int) :
    ∃ h', StoresAt (Addr.add ⟨k, 0, none⟩ (q * 2)) h 0 [.bool b, .string s] h' ∧ Keep B h0 (L.set i (some (k, .vec t (plains (filesC (z.set q ((b, s), ver)) ++ zs)) nn))) h' := by
  have l1 := filesC_len (z.take q)
  rw [List.length_take] at l1
  obtain ⟨h15, s1, -, s3⟩ := StoresAt.over (k := k) (nn := nn) (t := t) [.bool b, .string s] h (q * 2) 0 (filesC (z.take q)) (fileC z[q] ++ filesC (z.drop (q + 1)) ++ zs) (by simp [isOne]) (by
    rw [E.at i hi]
    congr 2
    rw [filesC, flatMap_splitR z q hq]
    simp [filesC, List.append_assoc]) (by omega) (by simp; omega)
  have s4 := s3 (by simp)
  have e4 : filesC (z.take q) ++ [.bool b, .string s] ++ (fileC z[q] ++ filesC (z.drop (q + 1)) ++ zs).drop [Value.bool b, Value.string s].length = filesC (z.set q ((b, s), ver)) ++ zs := by
    rw [filesC_set z q hq, List.append_assoc (fileC z[q])]
    simp only [List.append_assoc]
    rfl
  rw [e4] at s4
  refine ⟨h15, by rw [addr_more, Nat.zero_add]; exact s1, ?_⟩
  rw [s4]
  exact E.put i hi
theorem ref10_read_wp {Q : List Value → Bool → Heap → Prop} (hs : s.size ≤ 1099511627776) (hN : readG (bl s) (-1) zF = none → Q (filesC zF) false h) (hS : ∀ z, readG (bl s) (-1) zF = some z → Q (filesC z) true h) : C_countermandref10_Read B s h Q := by
  refine C_countermandref10_Read.of ?_
  unfold S_countermandref10_Read
  intro k4 a4 b4 h5 e5 k6 a6 b6 h7 e7
  have E0 : Keep B h [some (k4, afO zF), some (k6, afO zF)] h7 := ((Keep.nil B h).made a4 b4 e5).made a6 b6 e7
  refine ⟨fun s8 m h' => ∃ (l : List UInt8) (z : FL) (last : Int), s8 = ba l ∧ m = l.length ∧ l.length ≤ (bl s).length ∧ StR z last ∧ readG l last z = readG (bl s) (-1) zF ∧ Keep B h [some (k4, afO zF), some (k6, afO z)] h', (bl s).length, Fin.of ⟨bl s, zF, -1, (ba_bl s).symm, rfl, Nat.le_refl _, StR.zero, rfl, E0⟩, ?_⟩
  clear E0 e5 e7
  rintro _ _ h9 ⟨l, z, last, rfl, rfl, hll, K, hg, E⟩
  rw [bl_length] at hll
  have n6 := K.n6
  have hzc := filesC_len z
  -- nothing is found
  have bad : ∀ {h1 : Heap}, Keep B h [some (k4, afO zF), some (k6, afO z)] h1 → readG l last z = none → ∃ h', StoresAt ⟨k4, 0, none⟩ h1 0 [(Value.bool false), (Value.string ByteArray.empty), (Value.bool false), (Value.string ByteArray.empty), (Value.bool false), (Value.string ByteArray.empty), (Value.bool false), (Value.string ByteArray.empty), (Value.bool false), (Value.string ByteArray.empty), (Value.bool false), (Value.string ByteArray.empty)] h' ∧ ∃ l47 : List Value, List.length l47 = 12 ∧ CellsAt B h' ⟨k4, 0, none⟩ 0 l47 ∧ Fin B h' (Q l47 false) := fun {h1} E1 e => by
    refine ⟨_, stores_whole (us := filesC zF) (E1.at 0 rfl) rfl (by simp) (by simp [isOne]) (by simp), ?_⟩
    have E2 := E1.put (o' := afO zF) 0 rfl
    exact ⟨filesC zF, rfl, E2.cellsP 0 rfl, Fin.ent E2.back (Fin.of (hN (by rw [← hg]; exact e)))⟩
  refine ⟨fun hpos => ?_, fun hz => ?_⟩
  · rw [ba_size] at hpos
    have hne : l ≠ [] := fun e => by rw [e] at hpos; simp at hpos
    refine taken_wp (by rw [ba_size]; omega) ?_
    rw [bl_ba]
    cases hw : wordOf l with
    | none =>
      have et : takenOf l = (0, 0) := by rw [takenOf, hw]
      rw [et]
      exact ⟨fun _ => bad E (readG_none hne (stepR_w0 hw)), fun hn => absurd rfl hn⟩
    | some p =>
      obtain ⟨i, rr⟩ := p
      have et : takenOf l = (i, l.length - rr.length) := by rw [takenOf, hw]
      obtain ⟨el, ei⟩ := wordOf_eq hw
      have hp := natB_pos i
      have hlen : l.length = (natB i).length + rr.length := by rw [el, List.length_append]
      rw [et]
      refine ⟨fun e => by simp only at e; omega, fun _ => ⟨fun h5 => bad E (readG_none hne (stepR_i hw (by simp only at h5; omega))), fun h5 => Fin.of ?_⟩⟩
      simp only at h5
      unfold S_countermandref10_Read_J1
      rw [ba_size]
      simp only [Int.toNat_natCast]
      have ex1 : ByteArray.extract (ba l) (l.length - rr.length) l.length = ba rr := by
        rw [extract_ba_end]
        congr 1
        conv => lhs; rw [el]
        rw [show (natB i ++ rr).length - rr.length = (natB i).length by rw [List.length_append]; omega, List.drop_left]
      rw [ex1]
      refine ⟨by omega, by omega, by omega, taken_wp (by rw [ba_size]; omega) ?_⟩
      rw [bl_ba]
      cases hw2 : wordOf rr with
      | none =>
        have et2 : takenOf rr = (0, 0) := by rw [takenOf, hw2]
        rw [et2]
        exact ⟨fun _ => bad E (readG_none hne (stepR_w1 hw hw2)), fun hn => absurd rfl hn⟩
      | some p2 =>
        obtain ⟨n, r2⟩ := p2
        have et2 : takenOf rr = (n, rr.length - r2.length) := by rw [takenOf, hw2]
        obtain ⟨er, en⟩ := wordOf_eq hw2
        have hp2 := natB_pos n
        have hlen2 : rr.length = (natB n).length + r2.length := by rw [er, List.length_append]
        rw [et2]
        have hwu : IntKind.wrap .u64 (IntKind.wrap .i64 (((rr.length : Nat) : Int) - ((rr.length - r2.length : Nat) : Int))) = ((r2.length : Nat) : Int) := by
          rw [w64 (by omega) (by omega), wu64]; omega
        rw [ba_size]
        simp only
        rw [hwu]
        refine ⟨fun e => by omega, fun _ => ⟨fun h32 => bad E (readG_none hne (stepR_n hw hw2 (.inl (by omega)))), fun h32 => ⟨fun hlt => bad E (readG_none hne (stepR_n hw hw2 (.inr (by omega)))), fun hge => Fin.of ?_⟩⟩⟩
        have hst := stepR_ok hw (by omega) hw2 (show ¬ (32 < n ∨ r2.length < n) by omega)
        obtain ⟨f1, f2, f3⟩ := stepR_some hst
        have hgo := readG_some (last := last) (z := z) hst
        unfold S_countermandref10_Read_J2
        refine ⟨by omega, by omega, by omega, ?_⟩
        refine ⟨fun i' m h' => ∃ q : Nat, q ≤ 6 - i ∧ i' = q ∧ m = 6 - i - q ∧ (∀ p x, i ≤ p → p < i + q → z[p]? = some x → x.1.1 = false) ∧ Keep B h [some (k4, afO zF), some (k6, afO z)] h', 6 - i, Fin.of ⟨0, by omega, rfl, by omega, fun p x h1 h2 => by omega, E⟩, ?_⟩
        clear E
        rintro _ _ h29 ⟨q, hq, rfl, rfl, hoff, E⟩
        simp only [Int.toNat_natCast]
        refine ⟨fun hlt => ?_, fun hge2 => Fin.of ?_⟩
        · have hq' : i + q < z.length := by omega
          have hwq : IntKind.wrap .i64 ((q : Int) + 1) = ((q + 1 : Nat) : Int) := by rw [w64 (by omega) (by omega)]; omega
          have hx := List.getElem?_eq_getElem hq'
          generalize z[i + q] = x at hx
          have hc := E.fileAt 1 (zs := []) rfl (i + q) x hx
          refine ⟨_, rfl, by omega, by omega, x.1.1, x.1.2, ?_, fun k39 a39 b39 h40 e40 => ?_⟩
          · have e6 : (if 6 = i then (⟨k6, 0, none⟩ : Addr) else Addr.add ⟨k6, 0, none⟩ (i * 2)) = Addr.add ⟨k6, 0, none⟩ (i * 2) := if_neg (by omega)
            rw [e6, addr_more, addr_more, show 0 + i * 2 + q * 2 = 0 + (i + q) * 2 by omega, ← addr_more]
            exact hc
          · have F1 := E.made a39 b39 e40
            refine ⟨_, stores_whole F1.last rfl (by simp) (by simp [isOne]) (by simp), ?_⟩
            have F2 := F1.putLast (.vec TY.countermandref09_File (plains [.bool x.1.1, .string x.1.2]) 2)
            refine ⟨_, cellH_vec F2.last rfl, fun hb => ?_, fun hb => Fin.of ⟨6 - i - (q + 1), by omega, q + 1, by omega, hwq, rfl, fun p y h1 h2 hy => ?_, F2.pop⟩⟩
            · have F3 : Keep B h [some (k4, afO zF), some (k6, afO z)] _ := F2.pop
              refine bad F3 ?_
              rw [hgo, if_pos (K.le_iff.2 ⟨i + q, x, by omega, hx, hb⟩)]
            · by_cases hpq : p < i + q
              · exact hoff p y h1 hpq hy
              · have : p = i + q := by omega
                subst this
                rw [hx] at hy; cases hy; exact hb
        · have hqe : q = 6 - i := by omega
          have hnl : ¬ (i : Int) ≤ last := fun hle => by
            obtain ⟨p, x, h1, h2, h3⟩ := K.le_iff.1 hle
            have := (List.getElem?_eq_some_iff.1 h2).1
            rw [hoff p x h1 (by omega) h2] at h3
            cases h3
          rw [if_neg hnl] at hgo
          unfold S_countermandref10_Read_J3
          have hw4 : IntKind.wrap .i64 (((rr.length - r2.length : Nat) : Int) + IntKind.wrap .i64 ((n : Nat) : Int)) = ((rr.length - r2.length + n : Nat) : Int) := by
            rw [w64 (n := ((n : Nat) : Int)) (by omega) (by omega), w64 (by omega) (by omega)]; omega
          rw [ba_size]
          simp only [Int.toNat_natCast]
          rw [ex1, ba_size, hw4]
          simp only [Int.toNat_natCast]
          have hdr : rr.drop (rr.length - r2.length) = r2 := by
            conv => lhs; rw [er]
            rw [show (natB n ++ r2).length - r2.length = (natB n).length by rw [List.length_append]; omega, List.drop_left]
          have ex2 : ByteArray.extract (ba rr) (rr.length - r2.length) (rr.length - r2.length + n) = ba (r2.take n) := bl_inj (by rw [bl_extract, bl_ba, bl_ba, hdr, show rr.length - r2.length + n - (rr.length - r2.length) = n by omega])
          have ex3 : ByteArray.extract (ba rr) (rr.length - r2.length + n) rr.length = ba (r2.drop n) := by
            rw [extract_ba_end, ← List.drop_drop, hdr]
          rw [ex2, ex3]
          obtain ⟨h27, st, E2⟩ := E.fileSet 1 (zs := []) rfl i (by omega) (by omega) true (ba (r2.take n)) 0
          refine ⟨by omega, by omega, by omega, by omega, by omega, h27, st, by omega, by omega, by omega, Fin.of ⟨(r2.drop n).length, stepR_lt hst, r2.drop n, _, i, rfl, rfl, ?_, K.step f1 hnl f2, by rw [← hgo]; exact hg, E2⟩⟩
          rw [List.length_drop, bl_length]; omega
  · rw [ba_size] at hz
    have : l = [] := List.length_eq_zero_iff.1 (by omega)
    subst this
    rw [readG_nil] at hg
    refine ⟨filesC z, by omega, E.cellsP 1 rfl, by omega, _, stores_whole (us := filesC zF) (E.at 0 rfl) (by rw [hzc, n6]; rfl) (by omega) (filesC_one z) (fun e => by rw [e] at hzc; simp at hzc; omega), ?_⟩
    have E2 := E.put (o' := .vec TY.a_6_countermandref09_File (plains (filesC z ++ [])) 12) 0 rfl
    rw [List.append_nil] at E2
    refine ⟨filesC z, by omega, ?_, Fin.ent E2.back (Fin.of (hS z hg.symm))⟩
    exact E2.cellsP (zs := []) 0 (by rw [List.append_nil]; rfl)
end
end Go.Proofs.Ytoajfmmomgpjcaa.H
