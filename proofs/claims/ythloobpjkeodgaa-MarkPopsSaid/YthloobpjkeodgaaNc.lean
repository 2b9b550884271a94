/- Marks: same, the document's Copy, Clear, nil stacks: contracts. No condition. -/
import Derived.Test.YthloobpjkeodgaaNb
import Derived.Test.YthloobpjkeodgaaDc
import Derived.Test.YthloobpjkeodgaaHy
import Derived.Test.YthloobpjkeodgaaXfT
namespace Go.Proofs.Ythloobpjkeodgaa.H
open Go Go.RowKit
set_option linter.unusedVariables false
set_option maxRecDepth 100000

theorem posD_in {l : List (Int × Int)} (s : SortD l) {q : Nat} {x : Int × Int} (h : l[q]? = some x) : PosD l x.1 q :=
  ⟨by have := (List.getElem?_eq_some_iff.1 h).1; omega, fun p y hp hy => s.get hp hy h, fun p y hp hy => by
    rcases Nat.lt_or_ge q p with h1 | h1
    · have := s.get h1 h hy; omega
    · have : p = q := by omega
      subst this
      rw [h] at hy; cases hy; omega⟩
theorem atD_in {l : List (Int × Int)} (s : SortD l) {q : Nat} {x : Int × Int} (h : l[q]? = some x) : atD l x.1 = some x.2 := atD_old (posD_in s h) h rfl
theorem TK.slc_put : slcB PG TY.s_countermandref13_Put = some (TY.countermandref13_Put, 2, 16) := by kernel_rfl
theorem TK.zero_put : zeroB PG TY.countermandref13_Put = some [.int .i64 0, .int .i64 0] := by kernel_rfl
theorem TK.sl_put : slT PG TY.s_countermandref13_Put = true := by kernel_rfl
section
variable {B : RO} {h0 h h' : Heap} {L : List (Option (Nat × AObj))} {r rp : Option (Nat × AObj)} {i j q k : Nat} {a : Option Addr} {m c n : Nat} {v : Value} {ps : List (Int × Int)} {x : StI} {s : StV} {g : Reg4}
theorem cis_wp {n : Int} {Q : Bool → Heap → Prop} (hQ : Q (decide (0 ≤ n ∧ n < 3)) h) : C_cursor_is B n h Q := by
  refine C_cursor_is.of ?_
  unfold S_cursor_is
  refine ⟨fun h1 => Fin.of ?_, fun h1 => Fin.of ?_⟩
  · have : decide (0 ≤ n ∧ n < 3) = decide (n < 3) := by simp; omega
    rw [this] at hQ; exact hQ
  · rw [decide_eq_false (by omega)] at hQ; exact hQ
theorem cread0_wp {Q : Int → Heap → Prop} (g : h k = some (curO s)) (hQ : Q s.c0 h) : C_cursor_Cursor_Read B (some ⟨k, 0, none⟩) 0 h Q := by
  refine C_cursor_Cursor_Read.of ?_
  unfold S_cursor_Cursor_Read
  refine ⟨fun e => (by cases e), fun _ => cis_wp ⟨fun _ => Fin.of ?_, fun e => absurd e (by decide)⟩⟩
  unfold S_cursor_Cursor_Read_J1
  exact ⟨_, rfl, by omega, by omega, s.c0, by rw [addr_more]; exact cellH_vec g rfl, Fin.of hQ⟩
theorem cstep0_wp {Q : Bool → Heap → Prop} (E : Keep B h0 L h) (hi : L[i]? = some (some (k, curO s))) (hc : 0 ≤ s.c0) (hN : 64 ≤ s.c0 → Q false h) (hQ : s.c0 < 64 → ∀ h', Keep B h0 (L.set i (some (k, curO { s with c0 := s.c0 + 1 }))) h' → Q true h') : C_cursor_Cursor_Step B (some ⟨k, 0, none⟩) 0 h Q := by
  refine C_cursor_Cursor_Step.of ?_
  unfold S_cursor_Cursor_Step
  have c0 : cellH B h (Addr.add ⟨k, 0, none⟩ (Int.toNat 0 * 1)) = some (.int .i64 s.c0) := by rw [addr_more]; exact E.cell i hi rfl
  refine ⟨fun e => (by cases e), fun _ => cis_wp ⟨fun _ => ⟨_, rfl, by omega, by omega, s.c0, c0, fun hg => Fin.of (hN hg), fun hl => Fin.of ?_⟩, fun e => absurd e (by decide)⟩⟩
  unfold S_cursor_Cursor_Step_J1
  obtain ⟨es, E1⟩ := E.store i 0 (.int .i64 (s.c0 + 1)) hi rfl
  refine ⟨_, rfl, by omega, by omega, s.c0, c0, _, rfl, by omega, by omega, _, by rw [addr_more, w64 (by omega) (by omega)]; exact es, Fin.of (hQ (by omega) _ E1)⟩
theorem same17_wp {i11 i12 : Int} {Q : Bool → Heap → Prop} (E : Keep B h0 L h) (A : DAt_int L i x.kd x.vd x.rd) (Od : DRow_int x.rd x.vd (dOf ps)) (hc : L[j]? = some (some (x.kc, curO s))) (hl : ps.length ≤ 1000)
    (hr : ∀ h', Keep B h0 L h' → Reads B h' a 2 entC_int ps) (h0c : s.c0 = i11) (hg : g.a = i12) (hQ : ∀ h', Keep B h0 L h' → Q true h') :
    C_countermandlaw17_same B (some ⟨x.kd, 0, none⟩) (some ⟨x.ks, 0, none⟩) (some ⟨x.kc, 0, none⟩) g.a g.b g.c g.d a ps.length c i11 i12 h Q := by
  refine C_countermandlaw17_same.of ?_
  unfold S_countermandlaw17_same
  intro k14 a14 b14 h15 e15 k16 a16 b16 h17 e17 k18 a18 b18 h19 e19
  have E1 := ((E.start.nM a14 b14 e15).nM a16 b16 e17).nM a18 b18 e19
  refine .inl ⟨a, _, c, E1.cM 1 rfl (i := 0) rfl, ?_⟩
  refine ref13_numbers_wp (hr _ E1.zM) (by omega) fun a25 c27 rN h24 RN E2 => ?_
  have E3 := E1.append E2
  rw [List.append_assoc] at E3
  intro k28 a28 b28 h29 e29
  have E4 := E3.nM a28 b28 e29
  refine ⟨_, storeH_vec (E4.gM 4 rfl) rfl, ?_⟩
  have E5 := E4.pM (o' := .vec TY.s_int (plains [.slice a25 (dOf ps).length c27]) 1) 4 rfl
  intro k31 a31 b31 h32 e32
  have E6 := E5.nM a31 b31 e32
  refine ⟨_, storeH_vec (E6.gM 5 rfl) rfl, ?_⟩
  have E7 := E6.pM (o' := .vec TY.int (plains [.int .i64 0]) 1) 5 rfl
  refine ⟨_, E7.cM 0 rfl (i := 0) rfl, dall_wp fun kc ac bc => ?_⟩
  have E8 := E7.nM (o := .vec TY.p_draft_Draft_int [.plain (.pointer (some ⟨x.kd, 0, none⟩))] 1) ac bc rfl
  have hdl := dOf_len ps
  obtain ⟨hNl, rdN⟩ := Row.rd (B := B) RN intC_len (by omega)
  refine ⟨dOf ps, dG kc x.kd x.vd x.rd, fun q h' => Keep B h0 (L ++ [some (k14, .vec TY.mark_State (plains [.pointer (some ⟨x.kd, 0, none⟩), .pointer (some ⟨x.ks, 0, none⟩), .pointer (some ⟨x.kc, 0, none⟩), .int .i64 g.a, .int .i64 g.b, .int .i64 g.c, .int .i64 g.d]) 7), some (k16, .vec TY.countermandref17_State (plains [.slice a ps.length c, .int .i64 i11, .int .i64 i12]) 3), some (k18, .vec TY.bool (plains [.bool false]) 1), rN, some (k28, .vec TY.s_int (plains [.slice a25 (dOf ps).length c27]) 1), some (k31, .vec TY.int (plains [.int .i64 (q : Nat)]) 1), some (kc, .vec TY.p_draft_Draft_int [.plain (.pointer (some ⟨x.kd, 0, none⟩))] 1)]) h', dall_iter Od (by omega), dG_ins, ?_, Fin.of E8, ?_, ?_⟩
  · intro q h' E
    exact ⟨E.gM 6 rfl, E.at i (up_app _ A.p), fun k o e => E.at (i + 1) (by rw [up_app _ A.q, e])⟩
  · clear E1 E2 E3 E4 E5 E6 E7 E8
    rintro q h99 i96 i97 hgq E1
    have hq := (List.getElem?_eq_some_iff.1 hgq).1
    refine .inl ⟨a, _, c, E1.cM 1 rfl (i := 0) rfl, ref13_get_wp (hr _ E1.zM) (by omega) ?_⟩
    have hat := atD_in (dOf_sort ps) hgq
    simp only at hat
    rw [hat]
    refine ⟨_, E1.cM 5 rfl (i := 0) rfl, .inl ⟨_, _, _, E1.cM 4 rfl (i := 0) rfl, fun hge => by omega, fun _ => .inl ⟨_, _, _, E1.cM 4 rfl (i := 0) rfl, _, E1.cM 5 rfl (i := 0) rfl, ?_⟩⟩⟩
    obtain ⟨A', f1, _, f2⟩ := rdN h99 (fun k o e => E1.gM 3 (by rw [← e]; rfl)) q i96 (by simp [numsD, hgq])
    have hw : IntKind.wrap .i64 ((q : Int) + 1) = ((q + 1 : Nat) : Int) := by rw [w64 (by omega) (by omega)]; omega
    refine ⟨A', f1, by omega, by omega, i96, f2.1, fun _ => ⟨fun _ => ⟨_, E1.cM 5 rfl (i := 0) rfl, _, storeH_vec (E1.gM 5 rfl) rfl, ?_⟩, fun hn => absurd rfl hn⟩, fun hn => absurd rfl hn⟩
    rw [hw]
    exact Fin.of (E1.pM (o' := .vec TY.int (plains [.int .i64 ((q + 1 : Nat) : Int)]) 1) 5 rfl)
  · clear E1 E2 E3 E4 E5 E6 E7 E8
    intro h99 E1
    refine Fin.of ?_
    unfold S_countermandlaw17_same_J1
    refine ⟨_, E1.cM 5 rfl (i := 0) rfl, _, _, _, E1.cM 4 rfl (i := 0) rfl, fun _ => ?_, fun hn => absurd rfl hn⟩
    refine ⟨_, E1.cM 0 rfl (i := 2) rfl, _, E1.cM 1 rfl (i := 1) rfl, cread0_wp (E1.at j (up_app _ hc)) ⟨E1.cM 5 rfl (i := 0) rfl, E1.cM 4 rfl (i := 0) rfl, E1.cM 0 rfl (i := 2) rfl, E1.cM 1 rfl (i := 1) rfl, fun _ => ⟨by omega, by omega, ?_, ?_⟩, fun hn => absurd h0c hn⟩⟩
    all_goals
      subst hg
      have fin : S_countermandlaw17_same_J2 B k14 k16 k18 k28 k31 ((dOf ps).length : Nat) a25 (dOf ps).length c27 (some ⟨x.kc, 0, none⟩) i11 g.a g.a h99 Q := by
        unfold S_countermandlaw17_same_J2
        rw [beq_self_eq_true]
        refine ⟨_, storeH_vec (E1.gM 2 rfl) rfl, ?_⟩
        have E2 := E1.pM (o' := .vec TY.bool (plains [.bool true]) 1) 2 rfl
        exact ⟨_, E2.cM 2 rfl (i := 0) rfl, Fin.of (hQ _ E2.zM)⟩
    · exact ⟨_, E1.cM 0 rfl (i := 3) rfl, _, E1.cM 1 rfl (i := 2) rfl, fin⟩
    · exact ⟨_, E1.cM 1 rfl (i := 2) rfl, _, E1.cM 0 rfl (i := 3) rfl, fin⟩
theorem clear_nil {Q : Heap → Prop} (hQ : Q h) : C_mark_Stack_Clear B none h Q := by
  refine C_mark_Stack_Clear.of ?_
  unfold S_mark_Stack_Clear
  exact ⟨fun _ => Fin.of hQ, fun hn => absurd rfl hn⟩
theorem len_nil {Q : Int → Heap → Prop} (hQ : Q 0 h) : C_mark_Stack_Len B none h Q := by
  refine C_mark_Stack_Len.of ?_
  unfold S_mark_Stack_Len
  exact ⟨fun _ => Fin.of hQ, fun hn => absurd rfl hn⟩
end
end Go.Proofs.Ythloobpjkeodgaa.H
