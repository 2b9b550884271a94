/- Logs: their loads in a row; the document's log. No condition. -/
import Derived.Test.YthloobpjkeodgaaWf
import Derived.Test.YthloobpjkeodgaaHl
namespace Go.Proofs.Ythloobpjkeodgaa.H
open Go
set_option linter.unusedVariables false
set_option maxRecDepth 100000

def rlO (kR : Nat) (area : Int) (torn : Bool) : AObj := .vec TY.countermandref04_Log (plains [.pointer (some ⟨kR, 0, none⟩), .int .i64 area, .bool torn]) 3
theorem setR_get {L : List (Option (Nat × AObj))} {i kR k j : Nat} {v : Value} {r : Option (Nat × AObj)} (h1 : j ≠ i) (h2 : j ≠ i + 1) : (setR L i kR k v r)[j]? = L[j]? := by
  unfold setR
  rw [List.getElem?_set_ne (Ne.symm h2), List.getElem?_set_ne (Ne.symm h1)]
theorem setMid {L : List (Option (Nat × AObj))} {x x' y z : Option (Nat × AObj)} : (L ++ [x] ++ [y] ++ [z]).set L.length x' = L ++ [x'] ++ [y] ++ [z] := by
  rw [List.set_append_left _ _ (by simp), List.set_append_left _ _ (by simp), setLast]
theorem take_snocS (ls : List (List UInt8)) (q : Nat) (l : List UInt8) (h : ls[q]? = some l) : (ls.take (q + 1)).flatMap strC = (ls.take q).flatMap strC ++ strC l := by
  obtain ⟨hq, rfl⟩ := List.getElem?_eq_some_iff.1 h
  rw [List.take_succ_eq_append_getElem hq, List.flatMap_append]; simp

section
variable {B : RO} {h0 h h' : Heap} {L : List (Option (Nat × AObj))} {r : Option (Nat × AObj)} {i j kD kR kl k sz : Nat} {v : Value} {cs : List Chg} {area : Int} {torn : Bool}
theorem SRow.len {r : Option (Nat × AObj)} {a : Option Addr} {m c : Nat} {ls : List (List UInt8)} (R : SRow r (.slice a m c) ls) : m = ls.length := (Row.rd (B := fun _ => none) R strC_len (by omega)).1
theorem SRow.reads {r : Option (Nat × AObj)} {a : Option Addr} {m c : Nat} {ls : List (List UInt8)} (R : SRow r (.slice a m c) ls) (hr : ∀ k o, r = some (k, o) → h k = some o) : Reads B h a 1 strC ls := (Row.rd (B := B) R strC_len (by omega)).2 h hr
theorem loads_wp {Q : Option Addr → Nat → Nat → Heap → Prop} (E : Keep B h0 L h) (A : DAt L i kD cs k v r) (hj : L[j]? = some (some (kl, walO kD area sz torn))) (ok : DOk cs) (ha : area = 0 ∨ area = 1)
    (hQ : ∀ a c r' h', SRow r' (.slice a (allL (bl (textD area cs))).length c) (allL (bl (textD area cs))) → Keep B h0 (L ++ [r']) h' → Q a (allL (bl (textD area cs))).length c h') : C_countermandlaw04_loads B (some ⟨kl, 0, none⟩) h Q := by
  refine C_countermandlaw04_loads.of ?_
  unfold S_countermandlaw04_loads
  intro k5 a5 b5 h6 e6
  have E1 := E.made a5 b5 e6
  refine walall_wp fun k1 a1 b1 => ?_
  have E2 := (E1.new (o := .vec TY.p_wal_Log [.plain (.pointer (some ⟨kl, 0, none⟩))] 1) a1 b1).gap
  have hz := ok.size area
  have hle := allL_le (bl (textD area cs))
  rw [bl_length] at hle
  let o5 : Value → AObj := fun v' => .vec TY.s_string (plains [v']) 1
  let o1 : AObj := .vec TY.p_wal_Log [.plain (.pointer (some ⟨kl, 0, none⟩))] 1
  refine ⟨(allL (bl (textD area cs))).map ba, walG k1 kl kD area sz torn cs k v, fun q h' => ∃ v' r', SRow r' v' ((allL (bl (textD area cs))).take q) ∧ Keep B h0 (L ++ [some (k5, o5 v')] ++ [some (k1, o1)] ++ [r']) h', ?_, walG_ins, ?_, Fin.of ⟨_, none, Row.nil _ _, E2⟩, ?_, ?_⟩
  · have := walall_iter (B := B) (k3 := k1) (kl := kl) (kD := kD) (area := area) (sz := sz) (torn := torn) (k := k) (v := v) ha ok
    rw [List.map_map]; exact this
  · rintro q h' ⟨v', r', R, E⟩
    exact ⟨E.pop.last, E.at j (up_app _ (up_app _ (up_app _ hj))), E.at i (up_app _ (up_app _ (up_app _ A.p)))⟩
  · rintro q h11 s9 hg ⟨v', r', R, E⟩
    rw [List.getElem?_map] at hg
    obtain ⟨l, hl, rfl⟩ := Option.map_eq_some_iff.1 hg
    have hq := (List.getElem?_eq_some_iff.1 hl).1
    obtain ⟨a15, n16, c17, rfl⟩ := Row.slice R
    have hi5 : ∀ (v' : Value) (r' : Option (Nat × AObj)), (L ++ [some (k5, o5 v')] ++ [some (k1, o1)] ++ [r'])[L.length]? = some (some (k5, o5 v')) := fun v' r' => up_app _ (up_app _ atLast)
    refine .inl ⟨a15, n16, c17, E.cell L.length (hi5 _ _) rfl, fun k19 a19 b19 h20 e20 => ?_⟩
    have hfl := flatMap_length strC_len ((allL (bl (textD area cs))).take q)
    rw [List.length_take, Nat.min_eq_left (by omega)] at hfl
    refine E.push1 (L ++ [some (k5, o5 _)] ++ [some (k1, o1)]).length atLast R TK.slc_strs TK.zero_str rfl (by omega) (by omega) TK.sl_strs rfl (by simp [isOne]) (by rw [hfl]; simp; omega) a19 b19 e20 fun a' m' c' r2 h2 R2 E3 => ?_
    rw [setLast] at E3
    obtain ⟨es, E4⟩ := E3.store L.length 0 (.slice a' m' c') (hi5 _ _) rfl
    rw [setMid] at E4
    refine ⟨a', m', c', rfl, _, es, Fin.of ⟨_, r2, ?_, E4⟩⟩
    unfold SRow
    rw [take_snocS _ _ _ hl]
    exact R2
  · rintro h11 ⟨v', r', R, E⟩
    rw [List.length_map, List.take_length] at R
    obtain ⟨a, m, c, rfl⟩ := Row.slice R
    have hm := SRow.len R
    subst hm
    exact .inl ⟨a, _, c, E.cell L.length (up_app _ (up_app _ atLast)) rfl, Fin.of (hQ a c r' h11 R E.drop1.drop1)⟩
theorem loads_nil {Q : Option Addr → Nat → Nat → Heap → Prop} (hQ : Q none 0 0 h) : C_countermandlaw04_loads B none h Q := by
  refine C_countermandlaw04_loads.of ?_
  unfold S_countermandlaw04_loads
  intro k5 a5 b5 h6 e6
  have E1 := (Keep.nil B h).made a5 b5 e6
  refine walall_wp fun k1 a1 b1 => ?_
  have E2 := E1.new (o := .vec TY.p_wal_Log [.plain (.pointer none)] 1) a1 b1
  refine ⟨[], fun h => h k1 = some (.vec TY.p_wal_Log [.plain (.pointer none)] 1), fun q h' => Keep B h [some (k5, .vec TY.s_string (plains [.slice none 0 0]) 1), some (k1, .vec TY.p_wal_Log [.plain (.pointer none)] 1)] h', walall_nil, Ins.blk, fun q h' E => E.at 1 rfl, Fin.of E2, ?_, ?_⟩
  · rintro q h11 s9 hg
    simp at hg
  · rintro h11 E
    exact .inl ⟨none, 0, 0, E.cell 0 rfl rfl, Fin.ent E.back (Fin.of hQ)⟩
theorem same04_wp {a b : Option Addr} {ca cb : Nat} {la lb : List (List UInt8)} {Q : Bool → Heap → Prop} (ra : Reads B h a 1 strC la) (rb : Reads B h b 1 strC lb) (hla : la.length ≤ 1000000000) (hQ : Q (decide (la = lb)) h) : C_countermandlaw04_same B a la.length ca b lb.length cb h Q := by
  refine C_countermandlaw04_same.of ?_
  unfold S_countermandlaw04_same
  refine ⟨fun hl => ?_, fun hl => Fin.of ?_⟩
  · have hl' : la.length = lb.length := by omega
    refine ⟨fun i' m h' => ∃ q : Nat, q ≤ la.length ∧ i' = q ∧ m = la.length - q ∧ la.take q = lb.take q ∧ h' = h, la.length, Fin.of ⟨0, by omega, rfl, by omega, rfl, rfl⟩, ?_⟩
    rintro _ _ h10 ⟨q, hq, rfl, rfl, ht, rfl⟩
    refine ⟨fun hlt => ?_, fun hge => Fin.of ?_⟩
    · have hq' : q < la.length := by omega
      have hq2 : q < lb.length := by omega
      obtain ⟨A1, e1, _, e3, _⟩ := ra q _ (List.getElem?_eq_getElem hq')
      obtain ⟨A2, f1, _, f3, _⟩ := rb q _ (List.getElem?_eq_getElem hq2)
      have e0 : Int.toNat (q : Int) = q := by omega
      refine ⟨A1, e1, by omega, hlt, _, by rw [e0]; exact e3, A2, f1, by omega, by omega, _, by rw [e0]; exact f3, fun he => Fin.of ⟨la.length - (q + 1), by omega, q + 1, by omega, ?_, rfl, ?_, rfl⟩, fun hn => Fin.of ?_⟩
      · rw [w64 (by omega) (by omega)]; omega
      · rw [List.take_succ_eq_append_getElem hq', List.take_succ_eq_append_getElem hq2, ht, ba_inj he]
      · have : ¬ la = lb := fun e => hn (by subst e; rfl)
        rw [decide_eq_false this] at hQ; exact hQ
    · have : q = la.length := by omega
      subst this
      rw [List.take_length, hl', List.take_length] at ht
      rw [decide_eq_true ht] at hQ; exact hQ
  · have : ¬ la = lb := fun e => hl (by rw [e])
    rw [decide_eq_false this] at hQ; exact hQ

/-! The document's log -/
theorem rltext_wp {Q : ByteArray → Heap → Prop} (E : Keep B h0 L h) (A : RAt L i kR k v r) (hj : L[j]? = some (some (kl, rlO kR area torn))) (R : RRow r v cs) (ok : DOk cs) (hl : cs.length ≤ 100000) (hQ : Q (textD area cs) h) : C_countermandref04_Log_Text B (some ⟨kl, 0, none⟩) h Q := by
  refine C_countermandref04_Log_Text.of ?_
  unfold S_countermandref04_Log_Text
  obtain ⟨a1, m, c, rfl⟩ := Row.slice R
  have hm := RRow.len R
  subst hm
  refine ⟨_, rfl, _, E.cell j hj rfl, _, rfl, area, E.cellA j (m := 0) hj rfl, _, rfl, _, E.cell j hj rfl, _, rfl, a1, _, c, E.cell i A.p rfl, ?_⟩
  refine rtext_wp E A R (Nat.le_refl _) ok hl ⟨E.cell j hj rfl, E.cellA j (m := 0) hj rfl, E.cell j hj rfl, E.cell i A.p rfl, Fin.of ?_⟩
  rw [List.take_length]; exact hQ
theorem rlwhole_wp {Q : Int → Heap → Prop} (E : Keep B h0 L h) (A : RAt L i kR k v r) (hj : L[j]? = some (some (kl, rlO kR area torn))) (R : RRow r v cs) (ok : DOk cs) (hl : cs.length ≤ 100000) (hQ : Q ((wholeL (bl (textD area cs)) : Nat) : Int) h) : C_countermandref04_Log_Whole B (some ⟨kl, 0, none⟩) h Q := by
  refine C_countermandref04_Log_Whole.of ?_
  unfold S_countermandref04_Log_Whole
  have hz := ok.size area
  have hle := allL_le (bl (textD area cs))
  have hwl := wholeL_le (bl (textD area cs))
  rw [bl_length] at hle hwl
  have hh : (rowL (allL (bl (textD area cs)))).length = wholeL (bl (textD area cs)) := rfl
  refine rltext_wp E A hj R ok hl (rall_wp (by omega) fun a c r1 h1 R1 E1 => rrow_wp (SRow.reads R1 fun b o e => E1.at 0 (by rw [← e]; rfl)) (by omega) (by omega) (allL_spec _).1 (Fin.ent E1.back (Fin.of ?_)))
  rw [ba_size, hh]; exact hQ
theorem rlopen_wp {Q : Option Addr → Heap → Prop} (E : Keep B h0 L h) (A : RAt L i kR k v r) (R : RRow r v cs) (ok : DOk cs) (hl : cs.length ≤ 100000) (hQ : ∀ kl h', Keep B h0 (L ++ [some (kl, rlO kR area (tornOf (bl (textD area cs))))]) h' → Q (some ⟨kl, 0, none⟩) h') : C_countermandref04_Open B (some ⟨kR, 0, none⟩) area h Q := by
  refine C_countermandref04_Open.of ?_
  unfold S_countermandref04_Open
  intro k4 a4 b4 h5 e5
  have E1 := E.made a4 b4 e5
  have hj : (L ++ [some (k4, rlO kR area false)])[L.length]? = some (some (k4, rlO kR area false)) := atLast
  refine rlwhole_wp E1 (A.app _) hj R ok hl (rltext_wp E1 (A.app _) hj R ok hl ?_)
  obtain ⟨es, E2⟩ := E1.store L.length 2 (.bool (tornOf (bl (textD area cs)))) hj rfl
  rw [setLast] at E2
  have e : decide (((wholeL (bl (textD area cs)) : Nat) : Int) < (((textD area cs).size : Nat) : Int)) = tornOf (bl (textD area cs)) := by
    unfold tornOf
    rw [decide_eq_decide, bl_length]; omega
  rw [e]
  exact ⟨_, es, Fin.of (hQ k4 _ E2)⟩
theorem rlappend_wp {s : ByteArray} {Q : Int → Heap → Prop} (E : Keep B h0 L h) (A : RAt L i kR k v r) (hj : L[j]? = some (some (kl, rlO kR area torn))) (n1 : j ≠ i) (n2 : j ≠ i + 1) (R : RRow r v cs) (ok : DOk cs) (hl : cs.length < 100000) (hs : s.size ≤ 1000000000) (ha : area = 0 ∨ area = 1)
    (hL : 1024 < s.size → Q 3 h) (hT : s.size ≤ 1024 → torn = true → Q 9 h) (hF : s.size ≤ 1024 → torn = false → 16384 < (textD area cs).size + (closeL (bl s)).length → Q 6 h)
    (hQ : s.size ≤ 1024 → torn = false → (textD area cs).size + (closeL (bl s)).length ≤ 16384 → ∀ v' r' h', RRow r' v' (cs ++ [Chg.mk area false (ba (closeL (bl s)))]) → Keep B h0 (setR L i kR k v' r') h' → Q 0 h') : C_countermandref04_Log_Append B (some ⟨kl, 0, none⟩) s h Q := by
  refine C_countermandref04_Log_Append.of ?_
  unfold S_countermandref04_Log_Append
  have hcl : s.size ≤ 1024 → (closeL (bl s)).length = s.size + 6 := fun h => by rw [closeL_len (by rw [bl_length]; omega), bl_length]
  have hbs : (ba (closeL (bl s))).size = (closeL (bl s)).length := ba_size _
  refine ⟨fun hgt => Fin.of (hL (by omega)), fun hle => ⟨_, rfl, torn, E.cellA j (m := 0) hj rfl, fun ht => Fin.of (hT (by omega) ht), fun ht => ?_⟩⟩
  have hcl := hcl (by omega)
  refine ⟨_, rfl, _, E.cell j hj rfl, _, rfl, area, E.cellA j (m := 0) hj rfl, rclose_wp (by omega) ⟨E.cell j hj rfl, E.cellA j (m := 0) hj rfl, ?_⟩⟩
  refine rappend_wp E A R ok hl (by omega) (fun hn => absurd ha hn) (fun _ hf => ⟨E.cell j hj rfl, E.cellA j (m := 0) hj rfl, Fin.of (hF (by omega) ht (by omega))⟩) (fun _ hf v' r' h' R' E' => ?_)
  have hj' : (setR L i kR k v' r')[j]? = some (some (kl, rlO kR area torn)) := by rw [setR_get n1 n2]; exact hj
  exact ⟨E'.cell j hj' rfl, E'.cellA j (m := 0) hj' rfl, Fin.of (hQ (by omega) ht (by omega) v' r' h' R' E')⟩
theorem rlclear_wp {Q : Heap → Prop} (E : Keep B h0 L h) (A : RAt L i kR k v r) (hj : L[j]? = some (some (kl, rlO kR area torn))) (n1 : j ≠ i) (n2 : j ≠ i + 1) (R : RRow r v cs) (hl : cs.length < 100000) (ha : area = 0 ∨ area = 1)
    (hQ : ∀ v' r' h', RRow r' v' (cs ++ [Chg.mk area true ByteArray.empty]) → Keep B h0 ((setR L i kR k v' r').set j (some (kl, rlO kR area false))) h' → Q h') : C_countermandref04_Log_Clear B (some ⟨kl, 0, none⟩) h Q := by
  refine C_countermandref04_Log_Clear.of ?_
  unfold S_countermandref04_Log_Clear
  refine ⟨_, rfl, _, E.cell j hj rfl, _, rfl, area, E.cellA j (m := 0) hj rfl, rreset_wp E A R hl ha fun v' r' h' R' E' => ?_⟩
  have hj' : (setR L i kR k v' r')[j]? = some (some (kl, rlO kR area torn)) := by rw [setR_get n1 n2]; exact hj
  obtain ⟨es, E2⟩ := E'.storeA j 0 2 (.bool false) hj' rfl
  exact ⟨_, rfl, _, es, Fin.of (hQ v' r' _ R' E2)⟩
end
end Go.Proofs.Ythloobpjkeodgaa.H
