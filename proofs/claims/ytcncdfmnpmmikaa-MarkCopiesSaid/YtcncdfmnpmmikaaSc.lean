/- Marks: MarkCopies. No condition. -/
import Derived.Test.YtcncdfmnpmmikaaSb
import Derived.Test.YtcncdfmnpmmikaaNb
import Derived.Test.YtcncdfmnpmmikaaXmT
namespace Go.Proofs.Ytcncdfmnpmmikaa.H
open Go Go.RowKit
set_option linter.unusedVariables false
set_option maxRecDepth 100000

theorem eqL_4 (a b c d : Int) : eqL [Value.int .i64 a, Value.int .i64 b, Value.int .i64 c, Value.int .i64 d] [Value.int .i64 a, Value.int .i64 b, Value.int .i64 c, Value.int .i64 d] = true := by simp [eqL, leafEq]
theorem and3 (r : Int) : 0 ≤ (IntKind.wrap .i64 ((BitVec.ofInt (IntKind.bits .i64) r &&& BitVec.ofInt (IntKind.bits .i64) 3).toNat : Int)) ∧ (IntKind.wrap .i64 ((BitVec.ofInt (IntKind.bits .i64) r &&& BitVec.ofInt (IntKind.bits .i64) 3).toNat : Int)) < (4 : Nat) := by
  have h : (BitVec.ofInt (IntKind.bits .i64) r &&& BitVec.ofInt (IntKind.bits .i64) 3).toNat ≤ 3 := by
    rw [BitVec.toNat_and]
    refine Nat.le_trans Nat.and_le_right ?_
    show (BitVec.ofInt 64 3).toNat ≤ 3
    decide
  rw [w64 (by omega) (by omega)]
  omega
section
variable {B : RO} {h0 h h' : Heap} {L : List (Option (Nat × AObj))} {r rd : Option (Nat × AObj)} {v vd : Value} {l z : FL} {d : DFL} {n : Int} {x : ShI} {f : FileS} {k i : Nat}
theorem Keep.cellA (E : Keep B h0 L h) (i : Nat) {b m j n : Nat} {t : TypeId} {fs : List Fld} {u : Value} (hi : L[i]? = some (some (b, .vec t fs n))) (hj : fs[m + j]? = some (.plain u)) : cellH B h (Addr.add ⟨b, m, none⟩ j) = some u := by
  rw [addr_more]; exact E.cell i hi hj
theorem Keep.storeA (E : Keep B h0 L h) (i m j : Nat) (u : Value) {b n : Nat} {t : TypeId} {fs : List Fld} {w : Value} (hi : L[i]? = some (some (b, .vec t fs n))) (hj : fs[m + j]? = some (.plain w)) :
    storeH h (Addr.add ⟨b, m, none⟩ j) u = some (h.set b (.vec t (fs.set (m + j) (.plain u)) n)) ∧ Keep B h0 (L.set i (some (b, .vec t (fs.set (m + j) (.plain u)) n))) (h.set b (.vec t (fs.set (m + j) (.plain u)) n)) := by
  rw [addr_more]; exact E.store i (m + j) u hi hj
theorem cis_wp {Q : Bool → Heap → Prop} (hQ : Q (decide (0 ≤ n ∧ n < 3)) h) : C_cursor_is B n h Q := by
  refine C_cursor_is.of ?_
  unfold S_cursor_is
  refine ⟨fun h1 => Fin.of ?_, fun h1 => Fin.of ?_⟩
  · have : decide (0 ≤ n ∧ n < 3) = decide (n < 3) := by simp; omega
    rw [this] at hQ; exact hQ
  · rw [decide_eq_false (by omega)] at hQ; exact hQ
theorem cstep1_wp {s : StV} {Q : Bool → Heap → Prop} (E : Keep B h0 L h) (hi : L[i]? = some (some (k, curO s))) (hc : s.c1 < 64 ∧ 0 ≤ s.c1) (hQ : ∀ h', Keep B h0 (L.set i (some (k, curO { s with c1 := s.c1 + 1 }))) h' → Q true h') : C_cursor_Cursor_Step B (some ⟨k, 0, none⟩) 1 h Q := by
  refine C_cursor_Cursor_Step.of ?_
  unfold S_cursor_Cursor_Step
  refine ⟨fun e => (by cases e), fun _ => cis_wp ⟨fun _ => ⟨_, rfl, by omega, by omega, s.c1, E.cellA i (m := 0) hi rfl, fun hg => by omega, fun _ => Fin.of ?_⟩, fun e => absurd e (by decide)⟩⟩
  unfold S_cursor_Cursor_Step_J1
  obtain ⟨es, E1⟩ := E.storeA i 0 (Int.toNat 1 * 1) (.int .i64 (s.c1 + 1)) hi rfl
  refine ⟨_, rfl, by omega, by omega, s.c1, E.cellA i (m := 0) hi rfl, _, rfl, by omega, by omega, _, by rw [w64 (by omega) (by omega)]; exact es, Fin.of (hQ _ E1)⟩
theorem cread1_wp {s : StV} {Q : Int → Heap → Prop} (E : Keep B h0 L h) (hi : L[i]? = some (some (k, curO s))) (hQ : Q s.c1 h) : C_cursor_Cursor_Read B (some ⟨k, 0, none⟩) 1 h Q := by
  refine C_cursor_Cursor_Read.of ?_
  unfold S_cursor_Cursor_Read
  refine ⟨fun e => (by cases e), fun _ => cis_wp ⟨fun _ => Fin.of ?_, fun e => absurd e (by decide)⟩⟩
  unfold S_cursor_Cursor_Read_J1
  exact ⟨_, rfl, by omega, by omega, s.c1, E.cellA i (m := 0) hi rfl, Fin.of hQ⟩
theorem screate_any {Q : Bool → Heap → Prop} (E : Keep B h0 (L ++ x.m vd rd) h) (R : FRow x.rt x.vt l) (Rd : DRow_file_File rd vd d) (s : SortD d) (hd : d.length ≤ 900)
    (hQ : ∀ b vd' rd' h', Keep B h0 (L ++ x.m vd' rd') h' → Q b h') : C_sheet_Sheet_Create B (some ⟨x.ks, 0, none⟩) (some ⟨x.kT, 0, none⟩) n h Q := by
  by_cases hn : 0 ≤ n ∧ n < 6
  · exact screate_wp E R Rd s hd hn fun v' r' h' _ E' => hQ _ v' r' h' E'
  · refine C_sheet_Sheet_Create.of ?_
    unfold S_sheet_Sheet_Create
    refine sget_wp E R Rd s (by omega) fun h5 E1 => ?_
    intro k9 a9 b9 h10 e10
    have E2 := E1.nM a9 b9 e10
    refine ⟨_, stores_whole (E2.gM 6 rfl) rfl (by simp) (by simp [isOne]) (by simp), ?_⟩
    have E3 := E2.pM (o' := fO (getS l d n).1) 6 rfl
    refine ⟨_, _, ⟨E3.cM 6 rfl (i := 0) rfl, E3.cM 6 rfl (i := 1) rfl, trivial⟩, make_wp fun h14 w => ?_⟩
    have E4 := (E3.wk w).tM 6
    refine C_sheet_Sheet_put.of ?_
    unfold S_sheet_Sheet_put
    intro k7 a7 b7 h8 e8
    have E5 := (E4.nM a7 b7 e8).tM 6
    exact ⟨fun e => (by cases e), fun _ => ⟨fun _ => Fin.of (Fin.of (hQ _ vd rd _ E5)), fun h1 => ⟨fun _ => Fin.of (Fin.of (hQ _ vd rd _ E5)), fun h2 => by omega⟩⟩⟩
theorem Copies_J1 {k10 k28 k52 kT kR : Nat} {vt : Value} {rt : Option (Nat × AObj)} {a y : StI} {i1 i2 i3 i4 i5 i6 i7 i8 : Int} {Q : Bool → Heap → Prop}
    (E : Keep B h0 ([some (k10, .vec TY.api_Regs (plains [.int .i64 i1, .int .i64 i2, .int .i64 i3, .int .i64 i4]) 4)] ++ [some (kT, tomO kR), some (kR, frO vt), rt] ++ a.e ⟨[(i5, i6)], [], 0, 1, 0⟩ ++ [some (k28, .vec TY.mark_State (plains [.pointer (some ⟨a.kd, 0, none⟩), .pointer (some ⟨a.ks, 0, none⟩), .pointer (some ⟨a.kc, 0, none⟩), .int .i64 i1, .int .i64 i2, .int .i64 i3, .int .i64 i4]) 7)] ++ y.e ⟨[(i5, i6)], [], 0, 1, 0⟩ ++ [some (k52, .vec TY.mark_State (plains [.pointer (some ⟨y.kd, 0, none⟩), .pointer (some ⟨y.ks, 0, none⟩), .pointer (some ⟨y.kc, 0, none⟩), .int .i64 i1, .int .i64 i2, .int .i64 i3, .int .i64 i4]) 7)]) h)
    (R : FRow rt vt zF) (Oa : a.Ok ⟨[(i5, i6)], [], 0, 1, 0⟩) (Oy : y.Ok ⟨[(i5, i6)], [], 0, 1, 0⟩) (hQ : Q true h0) : S_countermandlaw17_MarkCopies_J1 B i5 i6 i7 i8 k10 (some ⟨kT, 0, none⟩) k28 k52 h Q := by
  unfold S_countermandlaw17_MarkCopies_J1
  have E0 : Keep B h0 [some (k10, .vec TY.api_Regs (plains [.int .i64 i1, .int .i64 i2, .int .i64 i3, .int .i64 i4]) 4), some (kT, tomO kR), some (kR, frO vt), rt, some (a.kd, drO_int a.vd), a.rd, some (a.ks, shO a.kf), some (a.kf, drO_file_File a.vf), a.rf, some (a.kc, curO ⟨[(i5, i6)], [], 0, 1, 0⟩), some (k28, .vec TY.mark_State (plains [.pointer (some ⟨a.kd, 0, none⟩), .pointer (some ⟨a.ks, 0, none⟩), .pointer (some ⟨a.kc, 0, none⟩), .int .i64 i1, .int .i64 i2, .int .i64 i3, .int .i64 i4]) 7), some (y.kd, drO_int y.vd), y.rd, some (y.ks, shO y.kf), some (y.kf, drO_file_File y.vf), y.rf, some (y.kc, curO ⟨[(i5, i6)], [], 0, 1, 0⟩), some (k52, .vec TY.mark_State (plains [.pointer (some ⟨y.kd, 0, none⟩), .pointer (some ⟨y.ks, 0, none⟩), .pointer (some ⟨y.kc, 0, none⟩), .int .i64 i1, .int .i64 i2, .int .i64 i3, .int .i64 i4]) 7)] h := E
  clear E
  have s1 : SortD [(i5, i6)] := List.pairwise_singleton _ _
  refine ⟨_, E0.cell 17 rfl (j := 0) rfl, put_int_wp (i := 11) E0 ⟨rfl, rfl⟩ Oy.d s1 (by simp) fun v1 r1 h62 R1 E1 => ⟨_, E1.cell 17 rfl (j := 1) rfl, ?_⟩⟩
  let x : ShI := ⟨kT, kR, vt, rt, y.ks, y.kf⟩
  have E2 : Keep B h0 ([some (k10, .vec TY.api_Regs (plains [.int .i64 i1, .int .i64 i2, .int .i64 i3, .int .i64 i4]) 4), some (a.kd, drO_int a.vd), a.rd, some (a.ks, shO a.kf), some (a.kf, drO_file_File a.vf), a.rf, some (a.kc, curO ⟨[(i5, i6)], [], 0, 1, 0⟩), some (k28, .vec TY.mark_State (plains [.pointer (some ⟨a.kd, 0, none⟩), .pointer (some ⟨a.ks, 0, none⟩), .pointer (some ⟨a.kc, 0, none⟩), .int .i64 i1, .int .i64 i2, .int .i64 i3, .int .i64 i4]) 7), some (y.kc, curO ⟨[(i5, i6)], [], 0, 1, 0⟩), some (k52, .vec TY.mark_State (plains [.pointer (some ⟨y.kd, 0, none⟩), .pointer (some ⟨y.ks, 0, none⟩), .pointer (some ⟨y.kc, 0, none⟩), .int .i64 i1, .int .i64 i2, .int .i64 i3, .int .i64 i4]) 7)] ++ x.m y.vf y.rf) h62 := E1.picks [0, 4, 5, 6, 7, 8, 9, 10, 16, 17, 1, 2, 3, 13, 14, 15] (by decide)
  refine screate_any (x := x) E2 R Oy.f List.Pairwise.nil (by simp) fun b v2 r2 h65 E3 => ?_
  refine ⟨_, E3.cell 9 rfl (j := 2) rfl, cstep1_wp (i := 8) (s := ⟨[(i5, i6)], [], 0, 1, 0⟩) E3 rfl ⟨show (1 : Int) < 64 by decide, show (0 : Int) ≤ 1 by decide⟩ fun h68 E4 => ?_⟩
  obtain ⟨n1, n2⟩ := and3 i8
  generalize IntKind.wrap .i64 ((BitVec.ofInt (IntKind.bits .i64) i8 &&& BitVec.ofInt (IntKind.bits .i64) 3).toNat : Int) = q at n1 n2
  obtain ⟨q, rfl⟩ := Int.eq_ofNat_of_zero_le n1
  have hq : q < 4 := by omega
  have hst : ∃ h70, storeH h68 (Addr.add ⟨k52, 3, none⟩ (Int.toNat (q : Int) * 1)) (.int .i64 i8) = some h70 ∧ Keep B h0 ([some (k10, .vec TY.api_Regs (plains [.int .i64 i1, .int .i64 i2, .int .i64 i3, .int .i64 i4]) 4), some (a.kd, drO_int a.vd), a.rd, some (a.ks, shO a.kf), some (a.kf, drO_file_File a.vf), a.rf, some (a.kc, curO ⟨[(i5, i6)], [], 0, 1, 0⟩), some (k28, .vec TY.mark_State (plains [.pointer (some ⟨a.kd, 0, none⟩), .pointer (some ⟨a.ks, 0, none⟩), .pointer (some ⟨a.kc, 0, none⟩), .int .i64 i1, .int .i64 i2, .int .i64 i3, .int .i64 i4]) 7), some (kT, tomO kR), some (kR, frO vt), rt]) h70 := by
    have fin : ∀ {g : Int} (j : Nat), 3 + j < 7 → (plains [Value.pointer (some ⟨y.kd, 0, none⟩), .pointer (some ⟨y.ks, 0, none⟩), .pointer (some ⟨y.kc, 0, none⟩), .int .i64 i1, .int .i64 i2, .int .i64 i3, .int .i64 i4])[3 + j]? = some (.plain (.int .i64 g)) → ∃ h70, storeH h68 (Addr.add ⟨k52, 3, none⟩ j) (.int .i64 i8) = some h70 ∧ Keep B h0 _ h70 := fun {g} j _ hg => by
      obtain ⟨es, E5⟩ := E4.storeA 9 3 j (.int .i64 i8) rfl hg
      exact ⟨_, es, E5.picks [0, 1, 2, 3, 4, 5, 6, 7, 10, 11, 12] (by decide)⟩
    rw [Int.toNat_natCast, Nat.mul_one]
    match q, hq with
    | 0, _ => exact fin 0 (by omega) rfl
    | 1, _ => exact fin 1 (by omega) rfl
    | 2, _ => exact fin 2 (by omega) rfl
    | 3, _ => exact fin 3 (by omega) rfl
  obtain ⟨h70, es, E5⟩ := hst
  refine ⟨by omega, by omega, h70, es, _, E5.cell 7 rfl (j := 0) rfl, get_int_wp (i := 1) E5 ⟨rfl, rfl⟩ Oa.d s1 (by simp) ?_⟩
  have hat : (atD [(i5, i6)] i5).getD 0 = i6 := by simp [atD]
  rw [hat]
  refine ⟨_, E5.cell 7 rfl (j := 1) rfl, ?_⟩
  let w : ShI := ⟨kT, kR, vt, rt, a.ks, a.kf⟩
  have E6 : Keep B h0 ([some (k10, .vec TY.api_Regs (plains [.int .i64 i1, .int .i64 i2, .int .i64 i3, .int .i64 i4]) 4), some (a.kc, curO ⟨[(i5, i6)], [], 0, 1, 0⟩), some (k28, .vec TY.mark_State (plains [.pointer (some ⟨a.kd, 0, none⟩), .pointer (some ⟨a.ks, 0, none⟩), .pointer (some ⟨a.kc, 0, none⟩), .int .i64 i1, .int .i64 i2, .int .i64 i3, .int .i64 i4]) 7)] ++ w.m a.vf a.rf) h70 := E5.picks [0, 6, 7, 8, 9, 10, 3, 4, 5] (by decide)
  refine sget_wp (x := w) (d := ([] : DFL)) E6 R Oa.f List.Pairwise.nil (by simp) fun h76 E7 => ⟨fun hb => (by rw [getS_nil] at hb; cases hb), fun _ k80 a80 b80 h81 e81 => ?_⟩
  have E8 := E7.nM a80 b80 e81
  refine ⟨_, stores_whole (E8.gM 6 rfl) rfl (by simp) (by simp [isOne]) (by simp), fun _ => ?_, fun hn => absurd rfl hn⟩
  have E9 := E8.pM (o' := fO (getS zF ([] : DFL) i7).1) 6 rfl
  refine ⟨_, E9.cell 2 rfl (j := 2) rfl, cread1_wp (i := 1) (s := ⟨[(i5, i6)], [], 0, 1, 0⟩) E9 rfl ⟨fun _ => ?_, fun hn => absurd rfl hn⟩⟩
  refine ⟨i1, i2, i3, i4, ⟨E9.cellA 2 (m := 3) (j := 0) rfl rfl, E9.cellA 2 (m := 3) (j := 1) rfl rfl, E9.cellA 2 (m := 3) (j := 2) rfl rfl, E9.cellA 2 (m := 3) (j := 3) rfl rfl, trivial⟩, i1, i2, i3, i4, ⟨E9.cell 0 rfl (j := 0) rfl, E9.cell 0 rfl (j := 1) rfl, E9.cell 0 rfl (j := 2) rfl, E9.cell 0 rfl (j := 3) rfl, trivial⟩, Fin.ent E9.back (Fin.of ?_)⟩
  rw [eqL_4]
  exact hQ
theorem MarkCopies_wp {i1 i2 i3 i4 i5 i6 i7 i8 : Int} {Q : Bool → Heap → Prop} (hQ : Q true h) : C_countermandlaw17_MarkCopies B i1 i2 i3 i4 i5 i6 i7 i8 h Q := by
  refine C_countermandlaw17_MarkCopies.of ?_
  unfold S_countermandlaw17_MarkCopies
  intro k10 a10 b10 h11 e11
  have E0 := (Keep.nil B h).made a10 b10 e11
  refine alive17_wp ⟨fun _ => tnew_wp fun kT kR vt rt h14 R E1 => ?_, fun e => by cases e⟩
  have E2 : Keep B h [some (k10, .vec TY.api_Regs (plains [.int .i64 i1, .int .i64 i2, .int .i64 i3, .int .i64 i4]) 4), some (kT, tomO kR), some (kR, frO vt), rt] h14 := E0.append E1
  refine ⟨i1, i2, i3, i4, ⟨E2.cell 0 rfl (j := 0) rfl, E2.cell 0 rfl (j := 1) rfl, E2.cell 0 rfl (j := 2) rfl, E2.cell 0 rfl (j := 3) rfl, trivial⟩, ?_⟩
  refine fresh_wp (g := ⟨i1, i2, i3, i4⟩) fun x h20 O E3 => ?_
  have E4 := E2.append E3
  intro k28 a28 b28 h29 e29
  have E5 := E4.made a28 b28 e29
  refine ⟨_, stores_whole E5.last rfl (by simp) (by simp [isOne]) (by simp), ?_⟩
  have E6 : Keep B h [some (k10, .vec TY.api_Regs (plains [.int .i64 i1, .int .i64 i2, .int .i64 i3, .int .i64 i4]) 4), some (kT, tomO kR), some (kR, frO vt), rt, some (x.kd, drO_int x.vd), x.rd, some (x.ks, shO x.kf), some (x.kf, drO_file_File x.vf), x.rf, some (x.kc, curO StV.z), some (k28, .vec TY.mark_State (plains [.pointer (some ⟨x.kd, 0, none⟩), .pointer (some ⟨x.ks, 0, none⟩), .pointer (some ⟨x.kc, 0, none⟩), .int .i64 i1, .int .i64 i2, .int .i64 i3, .int .i64 i4]) 7)] _ := E5.putLast _
  refine ⟨_, E6.cell 10 rfl (j := 0) rfl, put_int_wp (i := 4) (l := []) E6 ⟨rfl, rfl⟩ O.d List.Pairwise.nil (by simp) fun v1 r1 h32 R1 E7 => ⟨_, E7.cell 10 rfl (j := 2) rfl, ?_⟩⟩
  refine cstep1_wp (i := 9) (s := StV.z) E7 rfl ⟨show (0 : Int) < 64 by decide, show (0 : Int) ≤ 0 by decide⟩ fun h35 E8 => ?_
  let a : StI := ⟨x.kd, v1, r1, x.ks, x.kf, x.vf, x.rf, x.kc⟩
  have E9 : Keep B h [some (k10, .vec TY.api_Regs (plains [.int .i64 i1, .int .i64 i2, .int .i64 i3, .int .i64 i4]) 4), some (kT, tomO kR), some (kR, frO vt), rt, some (a.kd, drO_int a.vd), a.rd, some (a.ks, shO a.kf), some (a.kf, drO_file_File a.vf), a.rf, some (a.kc, curO ⟨[(i5, i6)], [], 0, 1, 0⟩), some (k28, .vec TY.mark_State (plains [.pointer (some ⟨a.kd, 0, none⟩), .pointer (some ⟨a.ks, 0, none⟩), .pointer (some ⟨a.kc, 0, none⟩), .int .i64 i1, .int .i64 i2, .int .i64 i3, .int .i64 i4]) 7)] h35 := E8
  have Oa : a.Ok ⟨[(i5, i6)], [], 0, 1, 0⟩ := ⟨R1, O.f⟩
  clear E0 E1 E2 E3 E4 E5 E6 E7 E8
  refine ⟨_, _, _, _, _, _, _, ⟨E9.cell 10 rfl (j := 0) rfl, E9.cell 10 rfl (j := 1) rfl, E9.cell 10 rfl (j := 2) rfl, E9.cell 10 rfl (j := 3) rfl, E9.cell 10 rfl (j := 4) rfl, E9.cell 10 rfl (j := 5) rfl, E9.cell 10 rfl (j := 6) rfl, trivial⟩, ?_⟩
  refine state_copy_wp (x := a) (s := ⟨[(i5, i6)], [], 0, 1, 0⟩) (g := ⟨i1, i2, i3, i4⟩) (i := 4) E9 ⟨⟨rfl, rfl⟩, rfl, ⟨rfl, rfl⟩, rfl⟩ Oa (by simp) (by simp) fun y h44 Oy E10 => ?_
  intro k52 a52 b52 h53 e53
  have E11 := E10.made a52 b52 e53
  refine ⟨_, stores_whole E11.last rfl (by simp) (by simp [isOne]) (by simp), ?_⟩
  have E12 : Keep B h ([some (k10, .vec TY.api_Regs (plains [.int .i64 i1, .int .i64 i2, .int .i64 i3, .int .i64 i4]) 4)] ++ [some (kT, tomO kR), some (kR, frO vt), rt] ++ a.e ⟨[(i5, i6)], [], 0, 1, 0⟩ ++ [some (k28, .vec TY.mark_State (plains [.pointer (some ⟨a.kd, 0, none⟩), .pointer (some ⟨a.ks, 0, none⟩), .pointer (some ⟨a.kc, 0, none⟩), .int .i64 i1, .int .i64 i2, .int .i64 i3, .int .i64 i4]) 7)] ++ y.e ⟨[(i5, i6)], [], 0, 1, 0⟩ ++ [some (k52, .vec TY.mark_State (plains [.pointer (some ⟨y.kd, 0, none⟩), .pointer (some ⟨y.ks, 0, none⟩), .pointer (some ⟨y.kc, 0, none⟩), .int .i64 i1, .int .i64 i2, .int .i64 i3, .int .i64 i4]) 7)]) _ := E11.putLast _
  have s1 : SortD [(i5, i6)] := List.pairwise_singleton _ _
  refine ⟨_, E12.cell 17 rfl (j := 0) rfl, get_int_wp (i := 11) E12 ⟨rfl, rfl⟩ Oy.d s1 (by simp) ?_⟩
  have hat : (atD [(i5, i6)] i5).getD 0 = i6 := by simp [atD]
  rw [hat]
  refine ⟨fun _ => ⟨_, E12.cell 17 rfl (j := 2) rfl, cread1_wp (i := 16) (s := ⟨[(i5, i6)], [], 0, 1, 0⟩) E12 rfl ⟨fun _ => ?_, fun hn => absurd rfl hn⟩⟩, fun hn => absurd rfl hn⟩
  refine ⟨i1, i2, i3, i4, ⟨E12.cellA 17 (m := 3) (j := 0) rfl rfl, E12.cellA 17 (m := 3) (j := 1) rfl rfl, E12.cellA 17 (m := 3) (j := 2) rfl rfl, E12.cellA 17 (m := 3) (j := 3) rfl rfl, trivial⟩, i1, i2, i3, i4, ⟨E12.cell 0 rfl (j := 0) rfl, E12.cell 0 rfl (j := 1) rfl, E12.cell 0 rfl (j := 2) rfl, E12.cell 0 rfl (j := 3) rfl, trivial⟩, fun _ => Fin.of (Copies_J1 E12 R Oa Oy hQ), fun hn => absurd (eqL_4 _ _ _ _) hn⟩
end
theorem TK.regs_kd : leafB PG 5 TY.api_Regs = some [.int .i64, .int .i64, .int .i64, .int .i64] := by kernel_rfl
theorem MarkCopies_calls {H : Type} {enc : TypeId × Value → H} (W : World) {cs : Array Value} {d' : DataW H} {p' : List MemPlace} (k' : DataW.Trod enc PG W 0 (fun _ => true) true TY.api_Regs (.agg cs) d' p') (n1 : Int) (w1 : (Lit.int .i64 n1).wf = true) (n2 : Int) (w2 : (Lit.int .i64 n2).wf = true) (n3 : Int) (w3 : (Lit.int .i64 n3).wf = true) (n4 : Int) (w4 : (Lit.int .i64 n4).wf = true) :
    Calls PG FN.countermandlaw17_MarkCopies #[.agg cs, .int .i64 n1, .int .i64 n2, .int .i64 n3, .int .i64 n4] W fun e w' => e = .returned (.bool true) ∧ Below W.heap.size W w' := by
  have hk := arg_agg TK.regs_kd k'
  obtain ⟨z1, v1, e1, _, g1⟩ := hk.int
  obtain ⟨z2, v2, rfl, _, g2⟩ := g1.int
  obtain ⟨z3, v3, rfl, _, g3⟩ := g2.int
  obtain ⟨z4, v4, rfl, _, g4⟩ := g3.int
  obtain rfl := g4.nil
  obtain rfl : cs = #[.int .i64 z1, .int .i64 z2, .int .i64 z3, .int .i64 z4] := by rw [← Array.toList_inj, e1]
  refine Spec.calls (Spec.mono (MarkCopies_wp (Q := fun b _ => b = true) rfl) ?_)
  rintro v h' ⟨b, rfl, rfl⟩
  rfl
end Go.Proofs.Ytcncdfmnpmmikaa.H
