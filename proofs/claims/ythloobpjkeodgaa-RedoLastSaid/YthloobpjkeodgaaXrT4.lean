/- The functions do what they ask for. No condition. -/
import Derived.Test.YthloobpjkeodgaaXrS
namespace Go.Proofs.Ythloobpjkeodgaa.H
open Go
set_option linter.unusedVariables false
set_option maxRecDepth 100000

set_option maxHeartbeats 4000000 in
theorem C_countermandref01_Wide.of {B : RO} {i1 : Int} {h : Heap} {Q : ByteArray → Heap → Prop} (hS : S_countermandref01_Wide B i1 h Q) : C_countermandref01_Wide B i1 h Q := by
 unfold S_countermandref01_Wide at hS
 unfold C_countermandref01_Wide
 refine Spec.of_run Try.func144 (N := 22) (rs := [ResultVar.tmp 2]) rfl rfl rfl (Nat.le_of_ble_eq_true rfl) ?_
 refine Run.seq ?_
 refine Run.ops0 (idx := [0]) rfl ?_
 refine Run.go rfl rfl rfl (sem_assign ((Value.string (ByteArray.mk #[]))) rfl ?_)
 refine Run.region_end ?_
 refine Run.seq ?_
 refine Run.ops0 (idx := [0]) rfl ?_
 refine Run.go rfl rfl rfl (sem_assign ((Value.string (ByteArray.mk #[]))) rfl ?_)
 refine Run.region_end ?_
 refine Run.seqJ (fun e h6 => ∃ i4 : Int, ∃ s5 : ByteArray, Agree [(0, (Value.int .u64 (i4))), (3, (Value.string s5))] e ∧ S_countermandref01_Wide_J1 B i4 s5 h6 Q) ?_ fun j3 => ?_
 ·rintro e h6 ⟨i4, s5, hag, hS⟩
  refine Run.env hag ?_; clear hag
  refine Run.seq ?_
  refine Run.ops0 (idx := [0, 1, 2, 3, 4, 5, 6]) rfl ?_
  refine Run.go rfl rfl rfl (sem_move ((Value.string s5)) rfl ?_)
  refine Run.go rfl rfl rfl (sem_move ((Value.int .u64 (i4))) rfl ?_)
  refine Run.go rfl rfl rfl (sem_convI .u64 .u8 (i4) rfl TF.int_202 TF.int_5 ?_)
  refine Run.go rfl rfl rfl (sem_buildSliceL [(0, (Value.int .u8 (IntKind.wrap .u8 (i4))))] [(Value.int .u8 (IntKind.wrap .u8 (i4)))] TF.slc_208 TF.zero_5 rfl (by decide) (by decide) rfl rfl (fun k7 hb1 hb2 h8 hb3 => ?_))
  have hS := hS k7 hb1 hb2 h8 hb3
  refine Run.go rfl rfl rfl (sem_convW ((Value.slice (some ⟨k7, 0, none⟩) 1 1)) rfl (semH_mono (fun v h10 hv => ?_) hS))
  obtain ⟨s9, rfl, hS⟩ := hv
  obtain ⟨hi0, hS⟩ := hS
  refine Run.go rfl rfl rfl (sem_strAdd s5 s9 rfl rfl hi0 ?_)
  refine Run.go rfl rfl rfl (sem_assign ((Value.string (s5 ++ s9))) rfl ?_)
  refine Run.region_end ?_
  refine Run.ret ⟨.inr rfl, ?_⟩
  exact hS.imp fun h' hq => ⟨(s5 ++ s9), rfl, hq⟩
 refine Run.block ?_
 obtain ⟨J17, m15, h0, hS⟩ := hS
 refine Run.of_fin (h0.imp fun h' h0 => ?_)
 refine Run.loop (σ := Int × ByteArray × Nat) (fun x e h => J17 x.1 x.2.1 x.2.2 h ∧ Agree [(0, (Value.int .u64 (x.1))), (3, (Value.string x.2.1))] e) (fun x => x.2.2) ((i1), (ByteArray.mk #[]), m15) ⟨h0, ⟨rfl, rfl, trivial⟩⟩ ?_; clear h0
 rintro ⟨i11, s12, m14⟩ e h13 ⟨hJ, hag⟩ ih16
 have hS := hS i11 s12 m14 h13 hJ; clear hJ
 refine Run.env hag ?_; clear hag
 refine Run.seq ?_
 refine Run.seq ?_
 refine Run.ops0 (idx := [0, 1]) rfl ?_
 refine Run.go rfl rfl rfl (sem_move ((Value.int .u64 (i11))) rfl ?_)
 obtain ⟨hT, hF⟩ := hS
 by_cases hb18 : (i11 : Int) > (127)
 ·have hS := hT hb18; clear hT hF
  refine Run.go rfl rfl rfl (sem_binI .u64 (i11) (127) (.bool true) rfl rfl (binI_gtr_t hb18) ?_)
  refine Run.region_end ?_
  refine Run.condT rfl ?_
  refine Run.skip ?_
  refine Run.block ?_
  refine Run.seq ?_
  refine Run.ops0 (idx := [0, 1, 2, 3, 4, 5, 6, 7, 8]) rfl ?_
  refine Run.go rfl rfl rfl (sem_move ((Value.string s12)) rfl ?_)
  refine Run.go rfl rfl rfl (sem_move ((Value.int .u64 (i11))) rfl ?_)
  obtain ⟨hi0, hS⟩ := hS
  refine Run.go rfl rfl rfl (sem_binI .u64 (i11) (128) ((Value.int .u64 (Int.tmod (i11) (128)))) rfl rfl (binI_rem hi0) ?_)
  refine Run.go rfl rfl rfl (sem_binI .u64 (128) (Int.tmod (i11) (128)) ((Value.int .u64 (IntKind.wrap .u64 ((128) + (Int.tmod (i11) (128)))))) rfl rfl rfl ?_)
  refine Run.go rfl rfl rfl (sem_convI .u64 .u8 (IntKind.wrap .u64 ((128) + (Int.tmod (i11) (128)))) rfl TF.int_202 TF.int_5 ?_)
  refine Run.go rfl rfl rfl (sem_buildSliceL [(0, (Value.int .u8 (IntKind.wrap .u8 (IntKind.wrap .u64 ((128) + (Int.tmod (i11) (128)))))))] [(Value.int .u8 (IntKind.wrap .u8 (IntKind.wrap .u64 ((128) + (Int.tmod (i11) (128))))))] TF.slc_208 TF.zero_5 rfl (by decide) (by decide) rfl rfl (fun k19 hb1 hb2 h20 hb3 => ?_))
  have hS := hS k19 hb1 hb2 h20 hb3
  refine Run.go rfl rfl rfl (sem_convW ((Value.slice (some ⟨k19, 0, none⟩) 1 1)) rfl (semH_mono (fun v h22 hv => ?_) hS))
  obtain ⟨s21, rfl, hS⟩ := hv
  obtain ⟨hi0, hS⟩ := hS
  refine Run.go rfl rfl rfl (sem_strAdd s12 s21 rfl rfl hi0 ?_)
  refine Run.go rfl rfl rfl (sem_assign ((Value.string (s12 ++ s21))) rfl ?_)
  refine Run.region_end ?_
  refine Run.ops0 (idx := [0, 1, 2]) rfl ?_
  refine Run.go rfl rfl rfl (sem_move ((Value.int .u64 (i11))) rfl ?_)
  obtain ⟨hi0, hS⟩ := hS
  refine Run.go rfl rfl rfl (sem_binI .u64 (i11) (128) ((Value.int .u64 (IntKind.wrap .u64 (Int.tdiv (i11) (128))))) rfl rfl (binI_quo hi0) ?_)
  refine Run.go rfl rfl rfl (sem_assign ((Value.int .u64 (IntKind.wrap .u64 (Int.tdiv (i11) (128))))) rfl ?_)
  refine Run.region_end ?_
  refine Run.inBlock ?_
  exact Run.of_fin (hS.imp fun h' ⟨m', hm, hS⟩ => ih16 ((IntKind.wrap .u64 (Int.tdiv (i11) (128))), (s12 ++ s21), m') _ _ ⟨hS, ⟨rfl, rfl, trivial⟩⟩ hm)
 ·have hS := hF hb18; clear hT hF
  refine Run.go rfl rfl rfl (sem_binI .u64 (i11) (127) (.bool false) rfl rfl (binI_gtr_f hb18) ?_)
  refine Run.region_end ?_
  refine Run.condF rfl ?_
  refine Run.exit rfl ?_
  exact Run.of_fin (hS.imp fun h' hS => j3 _ _ ⟨(i11), s12, ⟨rfl, rfl, trivial⟩, hS⟩)
set_option maxHeartbeats 4000000 in
theorem C_draft_Draft_file_File_All_1.of {B : RO} {v1 : Value} {A2 : Addr} {h : Heap} {Q : Heap → Prop} (hS : S_draft_Draft_file_File_All_1 B v1 A2 h Q) : C_draft_Draft_file_File_All_1 B v1 A2 h Q := by
 unfold S_draft_Draft_file_File_All_1 at hS
 unfold C_draft_Draft_file_File_All_1
 refine Spec.of_run Try.func145 (N := 24) (rs := []) rfl rfl rfl (Nat.le_of_ble_eq_true rfl) ?_
 refine Run.seq ?_
 refine Run.seq ?_
 refine Run.ops0 (idx := [0, 1]) rfl ?_
 obtain ⟨p3, hl, hS⟩ := hS
 refine Run.go rfl rfl rfl (sem_load1 A2 ((Value.pointer p3)) rfl TF.agg_105 hl ?_)
 obtain ⟨hT, hF⟩ := hS
 by_cases hb4 : p3 = none
 ·have hS := hT hb4; clear hT hF
  refine Run.go rfl rfl rfl (sem_ptrNilT p3 (.inl rfl) true rfl rfl TF.ptr_105 hb4 rfl ?_)
  refine Run.region_end ?_
  refine Run.condT rfl ?_
  refine Run.ret ⟨.inr rfl, ?_⟩
  exact hS.imp fun h' hq => ⟨rfl, hq⟩
 ·have hS := hF hb4; clear hT hF
  refine Run.go rfl rfl rfl (sem_ptrNilF p3 (.inl rfl) false rfl rfl TF.ptr_105 hb4 rfl ?_)
  refine Run.region_end ?_
  refine Run.condF rfl ?_
  refine Run.skip ?_
  refine Run.seq ?_
  refine Run.ops0 (idx := [0, 1, 2, 3, 4, 5]) rfl ?_
  obtain ⟨p5, hl, hS⟩ := hS
  refine Run.go rfl rfl rfl (sem_load1 A2 ((Value.pointer p5)) rfl TF.agg_105 hl ?_)
  obtain ⟨A6, e7, hS⟩ := hS
  refine Run.go rfl rfl rfl (sem_nilCheck A6 (congrArg Value.pointer e7) ?_)
  refine Run.go rfl rfl rfl (sem_fieldAddr A6 0 rfl TF.fld_193_0 ?_)
  refine Run.ldSl hS fun a8 n9 c10 h11 hl hS => ?_
  refine Run.go rfl rfl rfl (sem_load1 A6 ((Value.slice a8 n9 c10)) rfl TF.agg_191 hl ?_)
  refine Run.go rfl rfl rfl (sem_lenSl a8 n9 c10 rfl TF.sl_191 ?_)
  refine Run.go rfl rfl rfl (sem_move ((Value.int .i64 (0))) rfl ?_)
  refine Run.region_end ?_
  refine Run.block ?_
  obtain ⟨J17, m15, h0, hS⟩ := hS
  refine Run.of_fin (h0.imp fun h' h0 => ?_)
  refine Run.loop (σ := Int × Nat) (fun x e h => J17 x.1 x.2 h ∧ Agree [(0, v1), (10, (Value.slice a8 n9 c10)), (11, (Value.int .i64 ((n9 : Nat)))), (12, (Value.int .i64 (x.1)))] e) (fun x => x.2) ((0), m15) ⟨h0, ⟨rfl, rfl, rfl, rfl, trivial⟩⟩ ?_; clear h0
  rintro ⟨i12, m14⟩ e h13 ⟨hJ, hag⟩ ih16
  have hS := hS i12 m14 h13 hJ; clear hJ
  refine Run.env hag ?_; clear hag
  refine Run.seq ?_
  refine Run.ops0 (idx := [0]) rfl ?_
  obtain ⟨hT, hF⟩ := hS
  by_cases hb18 : (i12 : Int) < ((n9 : Nat))
  ·have hS := hT hb18; clear hT hF
   refine Run.go rfl rfl rfl (sem_binI .i64 (i12) ((n9 : Nat)) (.bool true) rfl rfl (binI_lss_t hb18) ?_)
   refine Run.region_end ?_
   refine Run.seq ?_
   refine Run.condT rfl ?_
   refine Run.skip ?_
   refine Run.seq ?_
   refine Run.block ?_
   refine Run.seq ?_
   refine Run.ops0 (idx := [0, 1, 2, 3]) rfl ?_
   obtain ⟨A19, e20, hi0, hi1, hS⟩ := hS
   refine Run.go rfl rfl rfl (sem_indexAddrS A19 n9 c10 .i64 (i12) (congrArg (fun a => Value.slice a n9 c10) e20) rfl TF.slc_191 hi0 hi1 ?_)
   obtain ⟨i21, b22, s23, hl, hS⟩ := hS
   refine Run.go rfl rfl rfl (sem_loadN (Addr.add A19 (Int.toNat (i12) * 3)) [(Value.int .i64 (i21)), (Value.bool b22), (Value.string s23)] rfl TF.agg_246 TF.sz_246 hl ?_)
   refine Run.go rfl rfl rfl (sem_allocN [(Value.int .i64 (0)), (Value.bool false), (Value.string ByteArray.empty)] TF.zero_246 (fun k24 hb1 hb2 h25 hb3 => ?_))
   have hS := hS k24 hb1 hb2 h25 hb3
   obtain ⟨h26, hst, hS⟩ := hS
   refine Run.go rfl rfl rfl (sem_storeN ⟨k24, 0, none⟩ [(Value.int .i64 (i21)), (Value.bool b22), (Value.string s23)] h26 rfl rfl TF.sz_246 hst ?_)
   refine Run.region_end ?_
   refine Run.seq ?_
   refine Run.ops0 (idx := [0, 1, 2, 3, 4, 5, 6]) rfl ?_
   refine Run.go rfl rfl rfl (sem_move (v1) rfl ?_)
   refine Run.go rfl rfl rfl (sem_fieldAddr ⟨k24, 0, none⟩ 0 rfl TF.fld_246_0 ?_)
   obtain ⟨i27, hl, hS⟩ := hS
   refine Run.go rfl rfl rfl (sem_load1 ⟨k24, 0, none⟩ ((Value.int .i64 (i27))) rfl TF.agg_3 hl ?_)
   refine Run.go rfl rfl rfl (sem_fieldAddr ⟨k24, 0, none⟩ 1 rfl TF.fld_246_1 ?_)
   obtain ⟨b28, s29, hl, hS⟩ := hS
   refine Run.go rfl rfl rfl (sem_loadN ⟨k24, 1, none⟩ [(Value.bool b28), (Value.string s29)] rfl TF.agg_111 TF.sz_111 hl ?_)
   refine Run.go rfl rfl rfl (sem_callV (v1) [(Value.int .i64 (i27)), (Value.agg #[(Value.bool b28), (Value.string s29)])] rfl rfl hS (fun nx h' ha => ha.mono fun v h30 hv => ?_))
   obtain ⟨b31, rfl, hS⟩ := hv
   obtain ⟨hT, hF⟩ := hS
   cases b31
   ·have hS := hF rfl; clear hT hF
    refine Run.go rfl rfl rfl (sem_not false rfl ?_)
    refine Run.region_end ?_
    refine Run.condT rfl ?_
    refine Run.ret ⟨.inr rfl, ?_⟩
    exact hS.imp fun h' hq => ⟨rfl, hq⟩
   ·have hS := hT rfl; clear hT hF
    refine Run.go rfl rfl rfl (sem_not true rfl ?_)
    refine Run.region_end ?_
    refine Run.condF rfl ?_
    refine Run.skip ?_
    refine Run.inBlock ?_
    refine Run.ops0 (idx := [0, 1]) rfl ?_
    refine Run.go rfl rfl rfl (sem_binI .i64 (i12) (1) ((Value.int .i64 (IntKind.wrap .i64 ((i12) + (1))))) rfl rfl rfl ?_)
    refine Run.go rfl rfl rfl (sem_move ((Value.int .i64 (IntKind.wrap .i64 ((i12) + (1))))) rfl ?_)
    refine Run.region_end ?_
    exact Run.of_fin (hS.imp fun h' ⟨m', hm, hS⟩ => ih16 ((IntKind.wrap .i64 ((i12) + (1))), m') _ _ ⟨hS, ⟨rfl, rfl, rfl, rfl, trivial⟩⟩ hm)
  ·have hS := hF hb18; clear hT hF
   refine Run.go rfl rfl rfl (sem_binI .i64 (i12) ((n9 : Nat)) (.bool false) rfl rfl (binI_lss_f hb18) ?_)
   refine Run.region_end ?_
   refine Run.seq ?_
   refine Run.condF rfl ?_
   refine Run.exit rfl ?_
   refine Run.fall ⟨.inl rfl, ?_⟩
   exact hS.imp fun h' hq => ⟨rfl, hq⟩
set_option maxHeartbeats 4000000 in
theorem C_stylus_Stylus_Raw.of {B : RO} {p1 : Option Addr} {s2 : ByteArray} {h : Heap} {Q : Heap → Prop} (hS : S_stylus_Stylus_Raw B p1 s2 h Q) : C_stylus_Stylus_Raw B p1 s2 h Q := by
 unfold S_stylus_Stylus_Raw at hS
 unfold C_stylus_Stylus_Raw
 refine Spec.of_run Try.func146 (N := 13) (rs := []) rfl rfl rfl (Nat.le_of_ble_eq_true rfl) ?_
 refine Run.ops0 (idx := [0, 1, 2, 3, 4, 5, 6, 7, 8, 9]) rfl ?_
 refine Run.go rfl rfl rfl (sem_move ((Value.pointer p1)) rfl ?_)
 refine Run.go rfl rfl rfl (sem_move ((Value.pointer p1)) rfl ?_)
 obtain ⟨A3, e4, hS⟩ := hS
 refine Run.go rfl rfl rfl (sem_nilCheck A3 (congrArg Value.pointer e4) ?_)
 refine Run.go rfl rfl rfl (sem_fieldAddr A3 0 rfl TF.fld_210_0 ?_)
 refine Run.ldSl hS fun a5 n6 c7 h8 hl hS => ?_
 refine Run.go rfl rfl rfl (sem_load1 A3 ((Value.slice a5 n6 c7)) rfl TF.agg_208 hl ?_)
 refine Run.go rfl rfl rfl (sem_move ((Value.string s2)) rfl ?_)
 refine Run.go rfl rfl rfl (sem_appendL [(Value.slice a5 n6 c7), (Value.string s2)] rfl (semH_mono (fun v h9 hv => ?_) hS))
 obtain ⟨a10, n11, c12, rfl, hS⟩ := hv
 obtain ⟨A13, e14, hS⟩ := hS
 refine Run.go rfl rfl rfl (sem_nilCheck A13 (congrArg Value.pointer e14) ?_)
 refine Run.go rfl rfl rfl (sem_fieldAddr A13 0 rfl TF.fld_210_0 ?_)
 obtain ⟨h15, hst, hS⟩ := hS
 refine Run.go rfl rfl rfl (sem_store1 A13 ((Value.slice a10 n11 c12)) h15 rfl rfl rfl TF.sz_208 hst ?_)
 refine Run.region_end ?_
 refine Run.fall ⟨.inl rfl, ?_⟩
 exact hS.imp fun h' hq => ⟨rfl, hq⟩
set_option maxHeartbeats 4000000 in
theorem C_cell_New_file_File.of {B : RO} {i1 : Int} {b2 : Bool} {s3 : ByteArray} {h : Heap} {Q : Option Addr → Heap → Prop} (hS : S_cell_New_file_File B i1 b2 s3 h Q) : C_cell_New_file_File B i1 b2 s3 h Q := by
 unfold S_cell_New_file_File at hS
 unfold C_cell_New_file_File
 refine Spec.of_run Try.func147 (N := 24) (rs := [ResultVar.tmp 4]) rfl rfl rfl (Nat.le_of_ble_eq_true rfl) ?_
 refine Run.seq ?_
 refine Run.ops0 (idx := [0, 1]) rfl ?_
 refine Run.go rfl rfl rfl (sem_boxNN [(Value.bool b2), (Value.string s3)] rfl (fun k5 hb1 hb2 h6 hb3 => ?_))
 have hS := hS k5 hb1 hb2 h6 hb3
 refine Run.go rfl rfl rfl (sem_assign ((Value.pointer none)) rfl ?_)
 refine Run.region_end ?_
 refine Run.seq ?_
 refine Run.ops0 (idx := [0, 1, 2]) rfl ?_
 refine Run.go rfl rfl rfl (sem_buildSL [] [(Value.slice none 0 0)] TF.zero_260 TF.places_260 rfl rfl ?_)
 refine Run.go rfl rfl rfl (sem_boxNN [(Value.slice none 0 0)] rfl (fun k7 hb1 hb2 h8 hb3 => ?_))
 have hS := hS k7 hb1 hb2 h8 hb3
 refine Run.go rfl rfl rfl (sem_assign ((Value.pointer (some ⟨k7, 0, none⟩))) rfl ?_)
 refine Run.region_end ?_
 refine Run.seq ?_
 refine Run.seq ?_
 refine Run.ops0 (idx := [0, 1]) rfl ?_
 refine Run.go rfl rfl rfl (sem_move ((Value.int .i64 (i1))) rfl ?_)
 refine Run.go rfl rfl rfl (sem_move ((Value.int .i64 (0))) rfl ?_)
 refine Run.region_end ?_
 refine Run.block ?_
 obtain ⟨J14, m12, h0, hS⟩ := hS
 refine Run.of_fin (h0.imp fun h' h0 => ?_)
 refine Run.loop (σ := Int × Nat) (fun x e h => J14 x.1 x.2 h ∧ Agree [(3, (Value.pointer (some ⟨k5, 0, none⟩))), (5, (Value.pointer (some ⟨k7, 0, none⟩))), (8, (Value.int .i64 (i1))), (9, (Value.int .i64 (x.1)))] e) (fun x => x.2) ((0), m12) ⟨h0, ⟨rfl, rfl, rfl, rfl, trivial⟩⟩ ?_; clear h0
 rintro ⟨i9, m11⟩ e h10 ⟨hJ, hag⟩ ih13
 have hS := hS i9 m11 h10 hJ; clear hJ
 refine Run.env hag ?_; clear hag
 refine Run.seq ?_
 refine Run.ops0 (idx := [0]) rfl ?_
 obtain ⟨hT, hF⟩ := hS
 by_cases hb15 : (i9 : Int) < (i1)
 ·have hS := hT hb15; clear hT hF
  refine Run.go rfl rfl rfl (sem_binI .i64 (i9) (i1) (.bool true) rfl rfl (binI_lss_t hb15) ?_)
  refine Run.region_end ?_
  refine Run.seq ?_
  refine Run.condT rfl ?_
  refine Run.skip ?_
  refine Run.seq ?_
  refine Run.block ?_
  skip
  skip
  skip
  skip
  obtain ⟨a20, n21, c22, hl, hS⟩ := hS
  have f23 := hl
  obtain ⟨b24, s25, hl, hS⟩ := hS
  have f26 := hl
  skip
  refine Run.drawM (fun h' => cellH B h' ⟨k7, 0, none⟩ = some (Value.slice a20 n21 c22) ∧ CellsAt B h' ⟨k5, 0, none⟩ 0 [(Value.bool b24), (Value.string s25)] ∧ True) [11] ⟨[0, 0, 2, 4, 8, 0, 32, 64, 144, 511, 1023, 1535], [4095, 4095, 4093, 4091, 4087, 4095, 4063, 4031, 3951, 4094, 3583, 2815], [0, 0, 2, 6, 14, 0, 32, 96, 254, 511, 1023, 2047], 2048⟩ (.q 0 (.q 1 (.q 2 (.q 3 (.q 4 (.q 5 (.q 6 (.x 7 (.x 8 (.q 9 (.q 10 (.x 11 .nil .no))) .no) .no)))))))) TF.mixed (by kernel_rfl) ⟨f23, f26, trivial⟩ ?_
  refine RunT.quiet rfl rfl rfl (fun h' hC => sem_move ((Value.pointer (some ⟨k7, 0, none⟩))) rfl ⟨rfl, rfl⟩) ?_
  refine RunT.quiet rfl rfl rfl (fun h' hC => sem_move ((Value.pointer (some ⟨k7, 0, none⟩))) rfl ⟨rfl, rfl⟩) ?_
  refine RunT.quiet rfl rfl rfl (fun h' hC => sem_nilCheck ⟨k7, 0, none⟩ rfl ⟨rfl, rfl⟩) ?_
  refine RunT.quiet rfl rfl rfl (fun h' hC => sem_fieldAddr ⟨k7, 0, none⟩ 0 rfl TF.fld_260_0 ⟨rfl, rfl⟩) ?_
  refine RunT.quiet rfl rfl rfl (fun h' hC => sem_load1 ⟨k7, 0, none⟩ ((Value.slice a20 n21 c22)) rfl TF.agg_258 hC.1 ⟨rfl, rfl⟩) ?_
  refine RunT.quiet rfl rfl rfl (fun h' hC => sem_loadN ⟨k5, 0, none⟩ [(Value.bool b24), (Value.string s25)] rfl TF.agg_111 TF.sz_111 hC.2.1 ⟨rfl, rfl⟩) ?_
  refine RunT.quiet rfl rfl rfl (fun h' hC => sem_buildSL [(0, (Value.agg #[(Value.bool b24), (Value.string s25)]))] [(Value.bool b24), (Value.string s25), (Value.int .i64 (0))] TF.zero_257 TF.places_257 rfl rfl ⟨rfl, rfl⟩) ?_
  refine ⟨?_, trivial⟩
  refine OpH.go rfl rfl rfl (sem_buildSliceL [(0, (Value.agg #[(Value.bool b24), (Value.string s25), (Value.int .i64 (0))]))] [(Value.bool b24), (Value.string s25), (Value.int .i64 (0))] TF.slc_258 TF.zero_257 rfl (by decide) (by decide) rfl rfl (fun k28 hb1 hb2 h29 hb3 => ?_))
  have hS := hS k28 hb1 hb2 h29 hb3
  obtain ⟨g30, g31, hS⟩ := hS
  refine ⟨fun _ => ⟨g30, g31, trivial⟩, ?_⟩
  refine ⟨?_, trivial⟩
  refine OpH.go rfl rfl rfl (sem_appendL [(Value.slice a20 n21 c22), (Value.slice (some ⟨k28, 0, none⟩) 1 1)] rfl (semH_mono (fun v h32 hv => ?_) hS))
  obtain ⟨a33, n34, c35, rfl, hS⟩ := hv
  obtain ⟨g36, g37, hS⟩ := hS
  refine ⟨fun _ => ⟨g36, g37, trivial⟩, ?_⟩
  refine RunT.quiet rfl rfl rfl (fun h' hC => sem_nilCheck ⟨k7, 0, none⟩ rfl ⟨rfl, rfl⟩) ?_
  refine RunT.quiet rfl rfl rfl (fun h' hC => sem_fieldAddr ⟨k7, 0, none⟩ 0 rfl TF.fld_260_0 ⟨rfl, rfl⟩) ?_
  refine ⟨?_, trivial⟩
  obtain ⟨h38, hst, hS⟩ := hS
  refine OpH.go rfl rfl rfl (sem_store1 ⟨k7, 0, none⟩ ((Value.slice a33 n34 c35)) h38 rfl rfl rfl TF.sz_258 hst ?_)
  refine ⟨fun hz => Bool.noConfusion hz, ?_⟩
  refine Run.inBlock ?_
  refine Run.ops0 (idx := [0, 1]) rfl ?_
  refine Run.go rfl rfl rfl (sem_binI .i64 (i9) (1) ((Value.int .i64 (IntKind.wrap .i64 ((i9) + (1))))) rfl rfl rfl ?_)
  refine Run.go rfl rfl rfl (sem_move ((Value.int .i64 (IntKind.wrap .i64 ((i9) + (1))))) rfl ?_)
  refine Run.region_end ?_
  exact Run.of_fin (hS.imp fun h' ⟨m', hm, hS⟩ => ih13 ((IntKind.wrap .i64 ((i9) + (1))), m') _ _ ⟨hS, ⟨rfl, rfl, rfl, rfl, trivial⟩⟩ hm)
 ·have hS := hF hb15; clear hT hF
  refine Run.go rfl rfl rfl (sem_binI .i64 (i9) (i1) (.bool false) rfl rfl (binI_lss_f hb15) ?_)
  refine Run.region_end ?_
  refine Run.seq ?_
  refine Run.condF rfl ?_
  refine Run.exit rfl ?_
  refine Run.seq ?_
  refine Run.ops0 (idx := [0, 1]) rfl ?_
  refine Run.go rfl rfl rfl (sem_move ((Value.pointer (some ⟨k7, 0, none⟩))) rfl ?_)
  refine Run.go rfl rfl rfl (sem_assign ((Value.pointer (some ⟨k7, 0, none⟩))) rfl ?_)
  refine Run.region_end ?_
  refine Run.ret ⟨.inr rfl, ?_⟩
  exact hS.imp fun h' hq => ⟨(some ⟨k7, 0, none⟩), rfl, hq⟩
set_option maxHeartbeats 4000000 in
theorem C_cell_Row_file_File_Set.of {B : RO} {p1 : Option Addr} {i2 : Int} {b3 : Bool} {s4 : ByteArray} {i5 : Int} {h : Heap} {Q : Bool → Heap → Prop} (hS : S_cell_Row_file_File_Set B p1 i2 b3 s4 i5 h Q) : C_cell_Row_file_File_Set B p1 i2 b3 s4 i5 h Q := by
 unfold S_cell_Row_file_File_Set at hS
 unfold C_cell_Row_file_File_Set
 refine Spec.of_run Try.func148 (N := 22) (rs := [ResultVar.tmp 8]) rfl rfl rfl (Nat.le_of_ble_eq_true rfl) ?_
 refine Run.seq ?_
 refine Run.ops0 (idx := [0, 1]) rfl ?_
 refine Run.go rfl rfl rfl (sem_boxNN [(Value.bool b3), (Value.string s4)] rfl (fun k7 hb1 hb2 h8 hb3 => ?_))
 have hS := hS k7 hb1 hb2 h8 hb3
 refine Run.go rfl rfl rfl (sem_assign ((Value.bool false)) rfl ?_)
 refine Run.region_end ?_
 refine Run.seq ?_
 refine Run.seq ?_
 refine Run.ops0 (idx := [0, 1, 2, 3]) rfl ?_
 refine Run.go rfl rfl rfl (sem_move ((Value.pointer p1)) rfl ?_)
 refine Run.go rfl rfl rfl (sem_move ((Value.int .i64 (i2))) rfl ?_)
 refine Run.go rfl rfl rfl (sem_callL [(Value.pointer p1), (Value.int .i64 (i2))] (TF.goes_149) rfl rfl (Spec.mono hS fun v h9 hv => ?_))
 obtain ⟨b10, rfl, hS⟩ := hv
 obtain ⟨hT, hF⟩ := hS
 cases b10
 ·have hS := hF rfl; clear hT hF
  refine Run.go rfl rfl rfl (sem_not false rfl ?_)
  refine Run.region_end ?_
  refine Run.condT rfl ?_
  refine Run.seq ?_
  refine Run.ops0 (idx := [0]) rfl ?_
  refine Run.go rfl rfl rfl (sem_assign ((Value.bool false)) rfl ?_)
  refine Run.region_end ?_
  refine Run.ret ⟨.inr rfl, ?_⟩
  exact hS.imp fun h' hq => ⟨(false), rfl, hq⟩
 ·have hS := hT rfl; clear hT hF
  refine Run.go rfl rfl rfl (sem_not true rfl ?_)
  refine Run.region_end ?_
  refine Run.condF rfl ?_
  refine Run.skip ?_
  refine Run.seq ?_
  refine Run.drawM (fun h' => h' = h9) [9] ⟨[0, 1, 2, 4, 0, 0, 0, 96, 255, 511], [1023, 1022, 1021, 1019, 1023, 1023, 1023, 927, 999, 639], [0, 1, 3, 7, 0, 0, 0, 96, 255, 511], 512⟩ (.q 0 (.q 1 (.q 2 (.q 3 (.q 4 (.q 5 (.q 6 (.q 7 (.q 8 (.x 9 .nil .no)))))))))) TF.mixed (by kernel_rfl) rfl ?_
  refine RunT.quiet rfl rfl rfl (quiet_eq (sem_move ((Value.pointer p1)) rfl ⟨rfl, rfl⟩)) ?_
  obtain ⟨A11, e12, hS⟩ := hS
  refine RunT.quiet rfl rfl rfl (quiet_eq (sem_nilCheck A11 (congrArg Value.pointer e12) ⟨rfl, rfl⟩)) ?_
  refine RunT.quiet rfl rfl rfl (quiet_eq (sem_fieldAddr A11 0 rfl TF.fld_260_0 ⟨rfl, rfl⟩)) ?_
  obtain ⟨a13, n14, c15, hl, hS⟩ := hS
  refine RunT.quiet rfl rfl rfl (quiet_eq (sem_load1 A11 ((Value.slice a13 n14 c15)) rfl TF.agg_258 hl ⟨rfl, rfl⟩)) ?_
  refine RunT.quiet rfl rfl rfl (quiet_eq (sem_move ((Value.int .i64 (i2))) rfl ⟨rfl, rfl⟩)) ?_
  obtain ⟨b16, s17, hl, hS⟩ := hS
  refine RunT.quiet rfl rfl rfl (quiet_eq (sem_loadN ⟨k7, 0, none⟩ [(Value.bool b16), (Value.string s17)] rfl TF.agg_111 TF.sz_111 hl ⟨rfl, rfl⟩)) ?_
  refine RunT.quiet rfl rfl rfl (quiet_eq (sem_move ((Value.int .i64 (i5))) rfl ⟨rfl, rfl⟩)) ?_
  refine RunT.quiet rfl rfl rfl (quiet_eq (sem_buildSL [(0, (Value.agg #[(Value.bool b16), (Value.string s17)])), (1, (Value.int .i64 (i5)))] [(Value.bool b16), (Value.string s17), (Value.int .i64 (i5))] TF.zero_257 TF.places_257 rfl rfl ⟨rfl, rfl⟩)) ?_
  obtain ⟨A18, e19, hi0, hi1, hS⟩ := hS
  refine RunT.quiet rfl rfl rfl (quiet_eq (sem_indexAddrS A18 n14 c15 .i64 (i2) (congrArg (fun a => Value.slice a n14 c15) e19) rfl TF.slc_258 hi0 hi1 ⟨rfl, rfl⟩)) ?_
  refine ⟨?_, trivial⟩
  obtain ⟨h20, hst, hS⟩ := hS
  refine OpH.go rfl rfl rfl (sem_storeN (Addr.add A18 (Int.toNat (i2) * 3)) [(Value.bool b16), (Value.string s17), (Value.int .i64 (i5))] h20 rfl rfl TF.sz_257 hst ?_)
  refine ⟨fun hz => Bool.noConfusion hz, ?_⟩
  refine Run.seq ?_
  refine Run.ops0 (idx := [0]) rfl ?_
  refine Run.go rfl rfl rfl (sem_assign ((Value.bool true)) rfl ?_)
  refine Run.region_end ?_
  refine Run.ret ⟨.inr rfl, ?_⟩
  exact hS.imp fun h' hq => ⟨(true), rfl, hq⟩
set_option maxHeartbeats 4000000 in
theorem C_cell_Row_file_File_is.of {B : RO} {p1 : Option Addr} {i2 : Int} {h : Heap} {Q : Bool → Heap → Prop} (hS : S_cell_Row_file_File_is B p1 i2 h Q) : C_cell_Row_file_File_is B p1 i2 h Q := by
 unfold S_cell_Row_file_File_is at hS
 unfold C_cell_Row_file_File_is
 refine Spec.of_run Try.func149 (N := 20) (rs := [ResultVar.tmp 4]) rfl rfl rfl (Nat.le_of_ble_eq_true rfl) ?_
 refine Run.seq ?_
 refine Run.ops0 (idx := [0]) rfl ?_
 refine Run.go rfl rfl rfl (sem_assign ((Value.bool false)) rfl ?_)
 refine Run.region_end ?_
 refine Run.seq ?_
 refine Run.ops0 (idx := [0, 1, 2, 3, 4, 5, 6, 7, 8, 9, 10, 11, 12, 13, 14, 15]) rfl ?_
 refine Run.go rfl rfl rfl (sem_move ((Value.pointer p1)) rfl ?_)
 obtain ⟨hT, hF⟩ := hS
 by_cases hb4 : p1 = none
 ·have hS := hT hb4; clear hT hF
  refine Run.go rfl rfl rfl (sem_ptrNilT p1 (.inr rfl) false rfl rfl TF.ptr_215 hb4 rfl ?_)
  refine Run.go rfl rfl rfl (sem_move ((Value.bool false)) rfl ?_)
  refine Run.no rfl rfl rfl ?_
  refine Run.no rfl rfl rfl ?_
  refine Run.go rfl rfl rfl (sem_pick false ((Value.bool false)) rfl rfl ?_)
  refine Run.go rfl rfl rfl (sem_move ((Value.bool false)) rfl ?_)
  refine Run.no rfl rfl rfl ?_
  refine Run.no rfl rfl rfl ?_
  refine Run.no rfl rfl rfl ?_
  refine Run.no rfl rfl rfl ?_
  refine Run.no rfl rfl rfl ?_
  refine Run.no rfl rfl rfl ?_
  refine Run.no rfl rfl rfl ?_
  refine Run.go rfl rfl rfl (sem_pick false ((Value.bool false)) rfl rfl ?_)
  refine Run.go rfl rfl rfl (sem_assign ((Value.bool false)) rfl ?_)
  refine Run.region_end ?_
  refine Run.ret ⟨.inr rfl, ?_⟩
  exact hS.imp fun h' hq => ⟨(false), rfl, hq⟩
 ·have hS := hF hb4; clear hT hF
  refine Run.go rfl rfl rfl (sem_ptrNilF p1 (.inr rfl) true rfl rfl TF.ptr_215 hb4 rfl ?_)
  refine Run.go rfl rfl rfl (sem_move ((Value.bool true)) rfl ?_)
  refine Run.go rfl rfl rfl (sem_move ((Value.int .i64 (i2))) rfl ?_)
  obtain ⟨hT, hF⟩ := hS
  by_cases hb5 : (i2 : Int) ≥ (0)
  ·have hS := hT hb5; clear hT hF
   refine Run.go rfl rfl rfl (sem_binI .i64 (i2) (0) (.bool true) rfl rfl (binI_geq_t hb5) ?_)
   refine Run.go rfl rfl rfl (sem_pick true ((Value.bool true)) rfl rfl ?_)
   refine Run.go rfl rfl rfl (sem_move ((Value.bool true)) rfl ?_)
   refine Run.go rfl rfl rfl (sem_move ((Value.int .i64 (i2))) rfl ?_)
   refine Run.go rfl rfl rfl (sem_move ((Value.pointer p1)) rfl ?_)
   obtain ⟨A6, e7, hS⟩ := hS
   refine Run.go rfl rfl rfl (sem_nilCheck A6 (congrArg Value.pointer e7) ?_)
   refine Run.go rfl rfl rfl (sem_fieldAddr A6 0 rfl TF.fld_260_0 ?_)
   refine Run.ldSl hS fun a8 n9 c10 h11 hl hS => ?_
   refine Run.go rfl rfl rfl (sem_load1 A6 ((Value.slice a8 n9 c10)) rfl TF.agg_258 hl ?_)
   refine Run.go rfl rfl rfl (sem_lenSl a8 n9 c10 rfl TF.sl_258 ?_)
   refine Run.go rfl rfl rfl (sem_binI .i64 (i2) ((n9 : Nat)) ((Value.bool (decide ((i2 : Int) < ((n9 : Nat)))))) rfl rfl rfl ?_)
   refine Run.go rfl rfl rfl (sem_pick true ((Value.bool (decide ((i2 : Int) < ((n9 : Nat)))))) rfl rfl ?_)
   refine Run.go rfl rfl rfl (sem_assign ((Value.bool (decide ((i2 : Int) < ((n9 : Nat)))))) rfl ?_)
   refine Run.region_end ?_
   refine Run.ret ⟨.inr rfl, ?_⟩
   exact hS.imp fun h' hq => ⟨((decide ((i2 : Int) < ((n9 : Nat))))), rfl, hq⟩
  ·have hS := hF hb5; clear hT hF
   refine Run.go rfl rfl rfl (sem_binI .i64 (i2) (0) (.bool false) rfl rfl (binI_geq_f hb5) ?_)
   refine Run.go rfl rfl rfl (sem_pick true ((Value.bool false)) rfl rfl ?_)
   refine Run.go rfl rfl rfl (sem_move ((Value.bool false)) rfl ?_)
   refine Run.no rfl rfl rfl ?_
   refine Run.no rfl rfl rfl ?_
   refine Run.no rfl rfl rfl ?_
   refine Run.no rfl rfl rfl ?_
   refine Run.no rfl rfl rfl ?_
   refine Run.no rfl rfl rfl ?_
   refine Run.no rfl rfl rfl ?_
   refine Run.go rfl rfl rfl (sem_pick false ((Value.bool false)) rfl rfl ?_)
   refine Run.go rfl rfl rfl (sem_assign ((Value.bool false)) rfl ?_)
   refine Run.region_end ?_
   refine Run.ret ⟨.inr rfl, ?_⟩
   exact hS.imp fun h' hq => ⟨(false), rfl, hq⟩
set_option maxHeartbeats 4000000 in
theorem C_slices_BinarySearchFunc_s_draft_entry_file_File_draft_entry_file_File_int.of {B : RO} {a1 : Option Addr} {n2 : Nat} {c3 : Nat} {i4 : Int} {v5 : Value} {h : Heap} {Q : Int → Bool → Heap → Prop} (hS : S_slices_BinarySearchFunc_s_draft_entry_file_File_draft_entry_file_File_int B a1 n2 c3 i4 v5 h Q) : C_slices_BinarySearchFunc_s_draft_entry_file_File_draft_entry_file_File_int B a1 n2 c3 i4 v5 h Q := by
 unfold S_slices_BinarySearchFunc_s_draft_entry_file_File_draft_entry_file_File_int at hS
 unfold C_slices_BinarySearchFunc_s_draft_entry_file_File_draft_entry_file_File_int
 refine Spec.of_run Try.func160 (N := 49) (rs := [ResultVar.tmp 6, ResultVar.tmp 7]) rfl rfl rfl (Nat.le_of_ble_eq_true rfl) ?_
 refine Run.seq ?_
 refine Run.ops0 (idx := [0, 1]) rfl ?_
 refine Run.go rfl rfl rfl (sem_assign ((Value.int .i64 (0))) rfl ?_)
 refine Run.go rfl rfl rfl (sem_assign ((Value.bool false)) rfl ?_)
 refine Run.region_end ?_
 refine Run.seq ?_
 refine Run.ops0 (idx := [0, 1, 2]) rfl ?_
 refine Run.go rfl rfl rfl (sem_move ((Value.slice a1 n2 c3)) rfl ?_)
 refine Run.go rfl rfl rfl (sem_lenSl a1 n2 c3 rfl TF.sl_191 ?_)
 refine Run.go rfl rfl rfl (sem_assign ((Value.int .i64 ((n2 : Nat)))) rfl ?_)
 refine Run.region_end ?_
 refine Run.seq ?_
 refine Run.ops0 (idx := [0, 1, 2]) rfl ?_
 refine Run.go rfl rfl rfl (sem_move ((Value.int .i64 ((n2 : Nat)))) rfl ?_)
 refine Run.go rfl rfl rfl (sem_assign ((Value.int .i64 (0))) rfl ?_)
 refine Run.go rfl rfl rfl (sem_assign ((Value.int .i64 ((n2 : Nat)))) rfl ?_)
 refine Run.region_end ?_
 refine Run.seqJ (fun e h10 => ∃ i9 : Int, Agree [(0, (Value.slice a1 n2 c3)), (1, (Value.int .i64 (i4))), (2, v5), (8, (Value.int .i64 ((n2 : Nat)))), (9, (Value.int .i64 (i9)))] e ∧ S_slices_BinarySearchFunc_s_draft_entry_file_File_draft_entry_file_File_int_J1 B a1 n2 c3 i4 v5 i9 h10 Q) ?_ fun j8 => ?_
 ·rintro e h10 ⟨i9, hag, hS⟩
  refine Run.env hag ?_; clear hag
  refine Run.seq ?_
  refine Run.ops0 (idx := [0, 1, 2, 3, 4, 5, 6, 7, 8, 9, 10, 11, 12, 13, 14, 15]) rfl ?_
  refine Run.go rfl rfl rfl (sem_move ((Value.int .i64 (i9))) rfl ?_)
  refine Run.go rfl rfl rfl (sem_move ((Value.int .i64 (i9))) rfl ?_)
  refine Run.go rfl rfl rfl (sem_move ((Value.int .i64 ((n2 : Nat)))) rfl ?_)
  obtain ⟨hT, hF⟩ := hS
  by_cases hb11 : (i9 : Int) < ((n2 : Nat))
  ·have hS := hT hb11; clear hT hF
   refine Run.go rfl rfl rfl (sem_binI .i64 (i9) ((n2 : Nat)) (.bool true) rfl rfl (binI_lss_t hb11) ?_)
   refine Run.go rfl rfl rfl (sem_move ((Value.bool true)) rfl ?_)
   refine Run.go rfl rfl rfl (sem_move (v5) rfl ?_)
   refine Run.go rfl rfl rfl (sem_move ((Value.slice a1 n2 c3)) rfl ?_)
   refine Run.go rfl rfl rfl (sem_move ((Value.int .i64 (i9))) rfl ?_)
   obtain ⟨A12, e13, hi0, hi1, hS⟩ := hS
   refine Run.go rfl rfl rfl (sem_indexAddrS A12 n2 c3 .i64 (i9) (congrArg (fun a => Value.slice a n2 c3) e13) rfl TF.slc_191 hi0 hi1 ?_)
   obtain ⟨i14, b15, s16, hl, hS⟩ := hS
   refine Run.go rfl rfl rfl (sem_loadN (Addr.add A12 (Int.toNat (i9) * 3)) [(Value.int .i64 (i14)), (Value.bool b15), (Value.string s16)] rfl TF.agg_246 TF.sz_246 hl ?_)
   refine Run.go rfl rfl rfl (sem_move ((Value.int .i64 (i4))) rfl ?_)
   refine Run.go rfl rfl rfl (sem_callV (v5) [(Value.agg #[(Value.int .i64 (i14)), (Value.bool b15), (Value.string s16)]), (Value.int .i64 (i4))] rfl rfl hS (fun nx h' ha => ha.mono fun v h17 hv => ?_))
   obtain ⟨i18, rfl, hS⟩ := hv
   refine Run.go rfl rfl rfl (sem_binI .i64 (i18) (0) ((Value.bool ((i18 : Int) == (0)))) rfl rfl rfl ?_)
   refine Run.go rfl rfl rfl (sem_pick true ((Value.bool ((i18 : Int) == (0)))) rfl rfl ?_)
   refine Run.go rfl rfl rfl (sem_assign ((Value.int .i64 (i9))) rfl ?_)
   refine Run.go rfl rfl rfl (sem_assign ((Value.bool ((i18 : Int) == (0)))) rfl ?_)
   refine Run.region_end ?_
   refine Run.ret ⟨.inr rfl, ?_⟩
   exact hS.imp fun h' hq => ⟨(i9), (((i18 : Int) == (0))), rfl, hq⟩
  ·have hS := hF hb11; clear hT hF
   refine Run.go rfl rfl rfl (sem_binI .i64 (i9) ((n2 : Nat)) (.bool false) rfl rfl (binI_lss_f hb11) ?_)
   refine Run.go rfl rfl rfl (sem_move ((Value.bool false)) rfl ?_)
   refine Run.no rfl rfl rfl ?_
   refine Run.no rfl rfl rfl ?_
   refine Run.no rfl rfl rfl ?_
   refine Run.no rfl rfl rfl ?_
   refine Run.no rfl rfl rfl ?_
   refine Run.no rfl rfl rfl ?_
   refine Run.no rfl rfl rfl ?_
   refine Run.no rfl rfl rfl ?_
   refine Run.go rfl rfl rfl (sem_pick false ((Value.bool false)) rfl rfl ?_)
   refine Run.go rfl rfl rfl (sem_assign ((Value.int .i64 (i9))) rfl ?_)
   refine Run.go rfl rfl rfl (sem_assign ((Value.bool false)) rfl ?_)
   refine Run.region_end ?_
   refine Run.ret ⟨.inr rfl, ?_⟩
   exact hS.imp fun h' hq => ⟨(i9), (false), rfl, hq⟩
 refine Run.block ?_
 obtain ⟨J25, m23, h0, hS⟩ := hS
 refine Run.of_fin (h0.imp fun h' h0 => ?_)
 refine Run.loop (σ := Int × Int × Nat) (fun x e h => J25 x.1 x.2.1 x.2.2 h ∧ Agree [(0, (Value.slice a1 n2 c3)), (1, (Value.int .i64 (i4))), (2, v5), (8, (Value.int .i64 ((n2 : Nat)))), (9, (Value.int .i64 (x.1))), (10, (Value.int .i64 (x.2.1)))] e) (fun x => x.2.2) ((0), ((n2 : Nat)), m23) ⟨h0, ⟨rfl, rfl, rfl, rfl, rfl, rfl, trivial⟩⟩ ?_; clear h0
 rintro ⟨i19, i20, m22⟩ e h21 ⟨hJ, hag⟩ ih24
 have hS := hS i19 i20 m22 h21 hJ; clear hJ
 refine Run.env hag ?_; clear hag
 refine Run.seq ?_
 refine Run.seq ?_
 refine Run.ops0 (idx := [0, 1, 2]) rfl ?_
 refine Run.go rfl rfl rfl (sem_move ((Value.int .i64 (i19))) rfl ?_)
 refine Run.go rfl rfl rfl (sem_move ((Value.int .i64 (i20))) rfl ?_)
 obtain ⟨hT, hF⟩ := hS
 by_cases hb26 : (i19 : Int) < (i20)
 ·have hS := hT hb26; clear hT hF
  refine Run.go rfl rfl rfl (sem_binI .i64 (i19) (i20) (.bool true) rfl rfl (binI_lss_t hb26) ?_)
  refine Run.region_end ?_
  refine Run.condT rfl ?_
  refine Run.skip ?_
  refine Run.block ?_
  refine Run.seq ?_
  refine Run.ops0 (idx := [0, 1, 2, 3, 4, 5, 6]) rfl ?_
  refine Run.go rfl rfl rfl (sem_move ((Value.int .i64 (i19))) rfl ?_)
  refine Run.go rfl rfl rfl (sem_move ((Value.int .i64 (i20))) rfl ?_)
  refine Run.go rfl rfl rfl (sem_binI .i64 (i19) (i20) ((Value.int .i64 (IntKind.wrap .i64 ((i19) + (i20))))) rfl rfl rfl ?_)
  refine Run.go rfl rfl rfl (sem_convI .i64 .u64 (IntKind.wrap .i64 ((i19) + (i20))) rfl TF.int_3 TF.int_241 ?_)
  obtain ⟨hi0, hS⟩ := hS
  refine Run.go rfl rfl rfl (sem_shr .u64 .u64 (IntKind.wrap .u64 (IntKind.wrap .i64 ((i19) + (i20)))) (1) rfl rfl hi0 ?_)
  refine Run.go rfl rfl rfl (sem_convI .u64 .i64 (Int.fdiv (IntKind.wrap .u64 (IntKind.wrap .i64 ((i19) + (i20)))) (2 ^ (min (Int.toNat (1)) (IntKind.bits .u64)))) rfl TF.int_241 TF.int_3 ?_)
  refine Run.go rfl rfl rfl (sem_assign ((Value.int .i64 (IntKind.wrap .i64 (Int.fdiv (IntKind.wrap .u64 (IntKind.wrap .i64 ((i19) + (i20)))) (2 ^ (min (Int.toNat (1)) (IntKind.bits .u64))))))) rfl ?_)
  refine Run.region_end ?_
  refine Run.seq ?_
  refine Run.ops0 (idx := [0, 1, 2, 3, 4, 5, 6, 7]) rfl ?_
  refine Run.go rfl rfl rfl (sem_move (v5) rfl ?_)
  refine Run.go rfl rfl rfl (sem_move ((Value.slice a1 n2 c3)) rfl ?_)
  refine Run.go rfl rfl rfl (sem_move ((Value.int .i64 (IntKind.wrap .i64 (Int.fdiv (IntKind.wrap .u64 (IntKind.wrap .i64 ((i19) + (i20)))) (2 ^ (min (Int.toNat (1)) (IntKind.bits .u64))))))) rfl ?_)
  obtain ⟨A27, e28, hi0, hi1, hS⟩ := hS
  refine Run.go rfl rfl rfl (sem_indexAddrS A27 n2 c3 .i64 (IntKind.wrap .i64 (Int.fdiv (IntKind.wrap .u64 (IntKind.wrap .i64 ((i19) + (i20)))) (2 ^ (min (Int.toNat (1)) (IntKind.bits .u64))))) (congrArg (fun a => Value.slice a n2 c3) e28) rfl TF.slc_191 hi0 hi1 ?_)
  obtain ⟨i29, b30, s31, hl, hS⟩ := hS
  refine Run.go rfl rfl rfl (sem_loadN (Addr.add A27 (Int.toNat (IntKind.wrap .i64 (Int.fdiv (IntKind.wrap .u64 (IntKind.wrap .i64 ((i19) + (i20)))) (2 ^ (min (Int.toNat (1)) (IntKind.bits .u64))))) * 3)) [(Value.int .i64 (i29)), (Value.bool b30), (Value.string s31)] rfl TF.agg_246 TF.sz_246 hl ?_)
  refine Run.go rfl rfl rfl (sem_move ((Value.int .i64 (i4))) rfl ?_)
  refine Run.go rfl rfl rfl (sem_callV (v5) [(Value.agg #[(Value.int .i64 (i29)), (Value.bool b30), (Value.string s31)]), (Value.int .i64 (i4))] rfl rfl hS (fun nx h' ha => ha.mono fun v h32 hv => ?_))
  obtain ⟨i33, rfl, hS⟩ := hv
  obtain ⟨hT, hF⟩ := hS
  by_cases hb34 : (i33 : Int) < (0)
  ·have hS := hT hb34; clear hT hF
   refine Run.go rfl rfl rfl (sem_binI .i64 (i33) (0) (.bool true) rfl rfl (binI_lss_t hb34) ?_)
   refine Run.region_end ?_
   refine Run.condT rfl ?_
   refine Run.ops0 (idx := [0, 1, 2]) rfl ?_
   refine Run.go rfl rfl rfl (sem_move ((Value.int .i64 (IntKind.wrap .i64 (Int.fdiv (IntKind.wrap .u64 (IntKind.wrap .i64 ((i19) + (i20)))) (2 ^ (min (Int.toNat (1)) (IntKind.bits .u64))))))) rfl ?_)
   refine Run.go rfl rfl rfl (sem_binI .i64 (IntKind.wrap .i64 (Int.fdiv (IntKind.wrap .u64 (IntKind.wrap .i64 ((i19) + (i20)))) (2 ^ (min (Int.toNat (1)) (IntKind.bits .u64))))) (1) ((Value.int .i64 (IntKind.wrap .i64 ((IntKind.wrap .i64 (Int.fdiv (IntKind.wrap .u64 (IntKind.wrap .i64 ((i19) + (i20)))) (2 ^ (min (Int.toNat (1)) (IntKind.bits .u64))))) + (1))))) rfl rfl rfl ?_)
   refine Run.go rfl rfl rfl (sem_assign ((Value.int .i64 (IntKind.wrap .i64 ((IntKind.wrap .i64 (Int.fdiv (IntKind.wrap .u64 (IntKind.wrap .i64 ((i19) + (i20)))) (2 ^ (min (Int.toNat (1)) (IntKind.bits .u64))))) + (1))))) rfl ?_)
   refine Run.region_end ?_
   refine Run.inBlock ?_
   exact Run.of_fin (hS.imp fun h' ⟨m', hm, hS⟩ => ih24 ((IntKind.wrap .i64 ((IntKind.wrap .i64 (Int.fdiv (IntKind.wrap .u64 (IntKind.wrap .i64 ((i19) + (i20)))) (2 ^ (min (Int.toNat (1)) (IntKind.bits .u64))))) + (1))), (i20), m') _ _ ⟨hS, ⟨rfl, rfl, rfl, rfl, rfl, rfl, trivial⟩⟩ hm)
  ·have hS := hF hb34; clear hT hF
   refine Run.go rfl rfl rfl (sem_binI .i64 (i33) (0) (.bool false) rfl rfl (binI_lss_f hb34) ?_)
   refine Run.region_end ?_
   refine Run.condF rfl ?_
   refine Run.ops0 (idx := [0, 1]) rfl ?_
   refine Run.go rfl rfl rfl (sem_move ((Value.int .i64 (IntKind.wrap .i64 (Int.fdiv (IntKind.wrap .u64 (IntKind.wrap .i64 ((i19) + (i20)))) (2 ^ (min (Int.toNat (1)) (IntKind.bits .u64))))))) rfl ?_)
   refine Run.go rfl rfl rfl (sem_assign ((Value.int .i64 (IntKind.wrap .i64 (Int.fdiv (IntKind.wrap .u64 (IntKind.wrap .i64 ((i19) + (i20)))) (2 ^ (min (Int.toNat (1)) (IntKind.bits .u64))))))) rfl ?_)
   refine Run.region_end ?_
   refine Run.inBlock ?_
   exact Run.of_fin (hS.imp fun h' ⟨m', hm, hS⟩ => ih24 ((i19), (IntKind.wrap .i64 (Int.fdiv (IntKind.wrap .u64 (IntKind.wrap .i64 ((i19) + (i20)))) (2 ^ (min (Int.toNat (1)) (IntKind.bits .u64))))), m') _ _ ⟨hS, ⟨rfl, rfl, rfl, rfl, rfl, rfl, trivial⟩⟩ hm)
 ·have hS := hF hb26; clear hT hF
  refine Run.go rfl rfl rfl (sem_binI .i64 (i19) (i20) (.bool false) rfl rfl (binI_lss_f hb26) ?_)
  refine Run.region_end ?_
  refine Run.condF rfl ?_
  refine Run.exit rfl ?_
  exact Run.of_fin (hS.imp fun h' hS => j8 _ _ ⟨(i19), ⟨rfl, rfl, rfl, rfl, rfl, trivial⟩, hS⟩)
set_option maxHeartbeats 4000000 in
theorem C_draft_by_file_File.of {B : RO} {i1 : Int} {b2 : Bool} {s3 : ByteArray} {i4 : Int} {h : Heap} {Q : Int → Heap → Prop} (hS : S_draft_by_file_File B i1 b2 s3 i4 h Q) : C_draft_by_file_File B i1 b2 s3 i4 h Q := by
 unfold S_draft_by_file_File at hS
 unfold C_draft_by_file_File
 refine Spec.of_run Try.func161 (N := 15) (rs := [ResultVar.tmp 4]) rfl rfl rfl (Nat.le_of_ble_eq_true rfl) ?_
 refine Run.seq ?_
 refine Run.ops0 (idx := [0, 1]) rfl ?_
 refine Run.go rfl rfl rfl (sem_boxNN [(Value.int .i64 (i1)), (Value.bool b2), (Value.string s3)] rfl (fun k6 hb1 hb2 h7 hb3 => ?_))
 have hS := hS k6 hb1 hb2 h7 hb3
 refine Run.go rfl rfl rfl (sem_assign ((Value.int .i64 (0))) rfl ?_)
 refine Run.region_end ?_
 refine Run.seq ?_
 refine Run.block ?_
 refine Run.seq ?_
 refine Run.ops0 (idx := [0, 1, 2, 3, 4]) rfl ?_
 refine Run.go rfl rfl rfl (sem_fieldAddr ⟨k6, 0, none⟩ 0 rfl TF.fld_246_0 ?_)
 obtain ⟨i8, hl, hS⟩ := hS
 refine Run.go rfl rfl rfl (sem_load1 ⟨k6, 0, none⟩ ((Value.int .i64 (i8))) rfl TF.agg_3 hl ?_)
 refine Run.go rfl rfl rfl (sem_move ((Value.int .i64 (i4))) rfl ?_)
 obtain ⟨hT, hF⟩ := hS
 by_cases hb9 : (i8 : Int) < (i4)
 ·have hS := hT hb9; clear hT hF
  refine Run.go rfl rfl rfl (sem_binI .i64 (i8) (i4) (.bool true) rfl rfl (binI_lss_t hb9) ?_)
  refine Run.go rfl rfl rfl (sem_assign ((Value.bool true)) rfl ?_)
  refine Run.region_end ?_
  refine Run.condT rfl ?_
  refine Run.seq ?_
  refine Run.ops0 (idx := [0]) rfl ?_
  refine Run.go rfl rfl rfl (sem_assign ((Value.int .i64 ((-1)))) rfl ?_)
  refine Run.region_end ?_
  refine Run.ret ⟨.inr rfl, ?_⟩
  exact hS.imp fun h' hq => ⟨((-1)), rfl, hq⟩
 ·have hS := hF hb9; clear hT hF
  refine Run.go rfl rfl rfl (sem_binI .i64 (i8) (i4) (.bool false) rfl rfl (binI_lss_f hb9) ?_)
  refine Run.go rfl rfl rfl (sem_assign ((Value.bool false)) rfl ?_)
  refine Run.region_end ?_
  refine Run.condF rfl ?_
  refine Run.seq ?_
  refine Run.ops0 (idx := [0, 1, 2, 3, 4]) rfl ?_
  refine Run.go rfl rfl rfl (sem_fieldAddr ⟨k6, 0, none⟩ 0 rfl TF.fld_246_0 ?_)
  obtain ⟨i10, hl, hS⟩ := hS
  refine Run.go rfl rfl rfl (sem_load1 ⟨k6, 0, none⟩ ((Value.int .i64 (i10))) rfl TF.agg_3 hl ?_)
  refine Run.go rfl rfl rfl (sem_move ((Value.int .i64 (i4))) rfl ?_)
  obtain ⟨hT, hF⟩ := hS
  by_cases hb11 : (i10 : Int) > (i4)
  ·have hS := hT hb11; clear hT hF
   refine Run.go rfl rfl rfl (sem_binI .i64 (i10) (i4) (.bool true) rfl rfl (binI_gtr_t hb11) ?_)
   refine Run.go rfl rfl rfl (sem_assign ((Value.bool true)) rfl ?_)
   refine Run.region_end ?_
   refine Run.condT rfl ?_
   refine Run.seq ?_
   refine Run.ops0 (idx := [0]) rfl ?_
   refine Run.go rfl rfl rfl (sem_assign ((Value.int .i64 (1))) rfl ?_)
   refine Run.region_end ?_
   refine Run.ret ⟨.inr rfl, ?_⟩
   exact hS.imp fun h' hq => ⟨(1), rfl, hq⟩
  ·have hS := hF hb11; clear hT hF
   refine Run.go rfl rfl rfl (sem_binI .i64 (i10) (i4) (.bool false) rfl rfl (binI_gtr_f hb11) ?_)
   refine Run.go rfl rfl rfl (sem_assign ((Value.bool false)) rfl ?_)
   refine Run.region_end ?_
   refine Run.condF rfl ?_
   refine Run.skip ?_
   refine Run.inBlock ?_
   refine Run.seq ?_
   refine Run.ops0 (idx := [0]) rfl ?_
   refine Run.go rfl rfl rfl (sem_assign ((Value.int .i64 (0))) rfl ?_)
   refine Run.region_end ?_
   refine Run.ret ⟨.inr rfl, ?_⟩
   exact hS.imp fun h' hq => ⟨(0), rfl, hq⟩
set_option maxHeartbeats 4000000 in
theorem C_slices_rotateRight_draft_entry_file_File.of {B : RO} {a1 : Option Addr} {n2 : Nat} {c3 : Nat} {i4 : Int} {h : Heap} {Q : Heap → Prop} (hS : S_slices_rotateRight_draft_entry_file_File B a1 n2 c3 i4 h Q) : C_slices_rotateRight_draft_entry_file_File B a1 n2 c3 i4 h Q := by
 unfold S_slices_rotateRight_draft_entry_file_File at hS
 unfold C_slices_rotateRight_draft_entry_file_File
 refine Spec.of_run Try.func163 (N := 10) (rs := []) rfl rfl rfl (Nat.le_of_ble_eq_true rfl) ?_
 refine Run.ops0 (idx := [0, 1, 2, 3, 4, 5]) rfl ?_
 refine Run.go rfl rfl rfl (sem_move ((Value.slice a1 n2 c3)) rfl ?_)
 refine Run.go rfl rfl rfl (sem_move ((Value.slice a1 n2 c3)) rfl ?_)
 refine Run.go rfl rfl rfl (sem_lenSl a1 n2 c3 rfl TF.sl_191 ?_)
 refine Run.go rfl rfl rfl (sem_move ((Value.int .i64 (i4))) rfl ?_)
 refine Run.go rfl rfl rfl (sem_binI .i64 ((n2 : Nat)) (i4) ((Value.int .i64 (IntKind.wrap .i64 (((n2 : Nat)) - (i4))))) rfl rfl rfl ?_)
 refine Run.go rfl rfl rfl (sem_callL [(Value.slice a1 n2 c3), (Value.int .i64 (IntKind.wrap .i64 (((n2 : Nat)) - (i4))))] (TF.goes_167) rfl rfl (Spec.mono hS fun v h5 hv => ?_))
 obtain ⟨rfl, hS⟩ := hv
 refine Run.region_end ?_
 refine Run.fall ⟨.inl rfl, ?_⟩
 exact hS.imp fun h' hq => ⟨rfl, hq⟩
set_option maxHeartbeats 4000000 in
theorem C_slices_rotateLeft_draft_entry_file_File.of {B : RO} {a1 : Option Addr} {n2 : Nat} {c3 : Nat} {i4 : Int} {h : Heap} {Q : Heap → Prop} (hS : S_slices_rotateLeft_draft_entry_file_File B a1 n2 c3 i4 h Q) : C_slices_rotateLeft_draft_entry_file_File B a1 n2 c3 i4 h Q := by
 unfold S_slices_rotateLeft_draft_entry_file_File at hS
 unfold C_slices_rotateLeft_draft_entry_file_File
 refine Spec.of_run Try.func167 (N := 14) (rs := []) rfl rfl rfl (Nat.le_of_ble_eq_true rfl) ?_
 refine Run.seq ?_
 refine Run.ops0 (idx := [0, 1, 2, 3]) rfl ?_
 refine Run.go rfl rfl rfl (sem_move ((Value.slice a1 n2 c3)) rfl ?_)
 refine Run.go rfl rfl rfl (sem_move ((Value.int .i64 (i4))) rfl ?_)
 obtain ⟨hi0, hi1, hi2, hS⟩ := hS
 refine Run.go rfl rfl rfl (sem_sliceSlI a1 n2 c3 (0) (i4) rfl TF.slc_191 rfl ⟨_, rfl⟩ hi0 hi1 hi2 ?_)
 refine Run.go rfl rfl rfl (sem_callL [(Value.slice (if c3 = Int.toNat (0) then a1 else Option.map (·.add (Int.toNat (0) * 3)) a1) (Int.toNat (i4) - Int.toNat (0)) (c3 - Int.toNat (0)))] (TF.goes_170) rfl rfl (Spec.mono hS fun v h5 hv => ?_))
 obtain ⟨rfl, hS⟩ := hv
 refine Run.region_end ?_
 refine Run.seq ?_
 refine Run.ops0 (idx := [0, 1, 2, 3]) rfl ?_
 refine Run.go rfl rfl rfl (sem_move ((Value.slice a1 n2 c3)) rfl ?_)
 refine Run.go rfl rfl rfl (sem_move ((Value.int .i64 (i4))) rfl ?_)
 obtain ⟨hi0, hi1, hi2, hS⟩ := hS
 refine Run.go rfl rfl rfl (sem_sliceSlI a1 n2 c3 (i4) ((n2 : Nat)) rfl TF.slc_191 ⟨_, rfl⟩ rfl hi0 hi1 hi2 ?_)
 refine Run.go rfl rfl rfl (sem_callL [(Value.slice (if c3 = Int.toNat (i4) then a1 else Option.map (·.add (Int.toNat (i4) * 3)) a1) (Int.toNat ((n2 : Nat)) - Int.toNat (i4)) (c3 - Int.toNat (i4)))] (TF.goes_170) rfl rfl (Spec.mono hS fun v h6 hv => ?_))
 obtain ⟨rfl, hS⟩ := hv
 refine Run.region_end ?_
 refine Run.ops0 (idx := [0, 1]) rfl ?_
 refine Run.go rfl rfl rfl (sem_move ((Value.slice a1 n2 c3)) rfl ?_)
 refine Run.go rfl rfl rfl (sem_callL [(Value.slice a1 n2 c3)] (TF.goes_170) rfl rfl (Spec.mono hS fun v h7 hv => ?_))
 obtain ⟨rfl, hS⟩ := hv
 refine Run.region_end ?_
 refine Run.fall ⟨.inl rfl, ?_⟩
 exact hS.imp fun h' hq => ⟨rfl, hq⟩
set_option maxHeartbeats 4000000 in
theorem C_slices_Reverse_s_draft_entry_file_File_draft_entry_file_File.of {B : RO} {a1 : Option Addr} {n2 : Nat} {c3 : Nat} {h : Heap} {Q : Heap → Prop} (hS : S_slices_Reverse_s_draft_entry_file_File_draft_entry_file_File B a1 n2 c3 h Q) : C_slices_Reverse_s_draft_entry_file_File_draft_entry_file_File B a1 n2 c3 h Q := by
 unfold S_slices_Reverse_s_draft_entry_file_File_draft_entry_file_File at hS
 unfold C_slices_Reverse_s_draft_entry_file_File_draft_entry_file_File
 refine Spec.of_run Try.func170 (N := 28) (rs := []) rfl rfl rfl (Nat.le_of_ble_eq_true rfl) ?_
 refine Run.seq ?_
 refine Run.ops0 (idx := [0, 1, 2, 3, 4]) rfl ?_
 refine Run.go rfl rfl rfl (sem_move ((Value.slice a1 n2 c3)) rfl ?_)
 refine Run.go rfl rfl rfl (sem_lenSl a1 n2 c3 rfl TF.sl_191 ?_)
 refine Run.go rfl rfl rfl (sem_binI .i64 ((n2 : Nat)) (1) ((Value.int .i64 (IntKind.wrap .i64 (((n2 : Nat)) - (1))))) rfl rfl rfl ?_)
 refine Run.go rfl rfl rfl (sem_assign ((Value.int .i64 (0))) rfl ?_)
 refine Run.go rfl rfl rfl (sem_assign ((Value.int .i64 (IntKind.wrap .i64 (((n2 : Nat)) - (1))))) rfl ?_)
 refine Run.region_end ?_
 refine Run.block ?_
 obtain ⟨J10, m8, h0, hS⟩ := hS
 refine Run.of_fin (h0.imp fun h' h0 => ?_)
 refine Run.loop (σ := Int × Int × Nat) (fun x e h => J10 x.1 x.2.1 x.2.2 h ∧ Agree [(0, (Value.slice a1 n2 c3)), (2, (Value.int .i64 (x.1))), (3, (Value.int .i64 (x.2.1)))] e) (fun x => x.2.2) ((0), (IntKind.wrap .i64 (((n2 : Nat)) - (1))), m8) ⟨h0, ⟨rfl, rfl, rfl, trivial⟩⟩ ?_; clear h0
 rintro ⟨i4, i5, m7⟩ e h6 ⟨hJ, hag⟩ ih9
 have hS := hS i4 i5 m7 h6 hJ; clear hJ
 refine Run.env hag ?_; clear hag
 refine Run.seq ?_
 refine Run.seq ?_
 refine Run.ops0 (idx := [0, 1, 2]) rfl ?_
 refine Run.go rfl rfl rfl (sem_move ((Value.int .i64 (i4))) rfl ?_)
 refine Run.go rfl rfl rfl (sem_move ((Value.int .i64 (i5))) rfl ?_)
 obtain ⟨hT, hF⟩ := hS
 by_cases hb11 : (i4 : Int) < (i5)
 ·have hS := hT hb11; clear hT hF
  refine Run.go rfl rfl rfl (sem_binI .i64 (i4) (i5) (.bool true) rfl rfl (binI_lss_t hb11) ?_)
  refine Run.region_end ?_
  refine Run.condT rfl ?_
  refine Run.skip ?_
  refine Run.seq ?_
  refine Run.block ?_
  skip
  skip
  skip
  skip
  skip
  skip
  obtain ⟨A18, e19, hi0, hi1, hS⟩ := hS
  have f21 := hi0; have f22 := hi1
  obtain ⟨i23, b24, s25, hl, hS⟩ := hS
  have f26 := hl
  skip
  skip
  obtain ⟨A29, e30, hi0, hi1, hS⟩ := hS
  have f32 := hi0; have f33 := hi1
  obtain ⟨i34, b35, s36, hl, hS⟩ := hS
  have f37 := hl
  obtain ⟨A38, e39, hi0, hi1, hS⟩ := hS
  have f41 := hi0; have f42 := hi1
  refine Run.drawM (fun h' => CellsAt B h' (Addr.add A18 (Int.toNat (i5) * 3)) 0 [(Value.int .i64 (i23)), (Value.bool b24), (Value.string s25)] ∧ CellsAt B h' (Addr.add A29 (Int.toNat (i4) * 3)) 0 [(Value.int .i64 (i34)), (Value.bool b35), (Value.string s36)] ∧ True) [15] ⟨[0, 0, 0, 0, 0, 0, 48, 64, 0, 0, 768, 1024, 2291, 6387, 16383, 32767], [65535, 65535, 65535, 65535, 65535, 65535, 65487, 65471, 65535, 65535, 64767, 64511, 65532, 61311, 65523, 47103], [0, 0, 0, 0, 0, 0, 48, 112, 0, 0, 768, 1792, 4083, 8179, 16383, 32767], 32768⟩ (.q 0 (.q 1 (.q 2 (.q 3 (.q 4 (.q 5 (.q 6 (.q 7 (.q 8 (.q 9 (.q 10 (.q 11 (.q 12 (.x 13 (.q 14 (.x 15 .nil .no)) .no)))))))))))))) TF.mixed (by kernel_rfl) ⟨f26, f37, trivial⟩ ?_
  refine RunT.quiet rfl rfl rfl (fun h' hC => sem_move ((Value.slice a1 n2 c3)) rfl ⟨rfl, rfl⟩) ?_
  refine RunT.quiet rfl rfl rfl (fun h' hC => sem_move ((Value.int .i64 (i4))) rfl ⟨rfl, rfl⟩) ?_
  refine RunT.quiet rfl rfl rfl (fun h' hC => sem_move ((Value.slice a1 n2 c3)) rfl ⟨rfl, rfl⟩) ?_
  refine RunT.quiet rfl rfl rfl (fun h' hC => sem_move ((Value.int .i64 (i5))) rfl ⟨rfl, rfl⟩) ?_
  refine RunT.quiet rfl rfl rfl (fun h' hC => sem_move ((Value.slice a1 n2 c3)) rfl ⟨rfl, rfl⟩) ?_
  refine RunT.quiet rfl rfl rfl (fun h' hC => sem_move ((Value.int .i64 (i5))) rfl ⟨rfl, rfl⟩) ?_
  refine RunT.quiet rfl rfl rfl (fun h' hC => sem_indexAddrS A18 n2 c3 .i64 (i5) (congrArg (fun a => Value.slice a n2 c3) e19) rfl TF.slc_191 f21 f22 ⟨rfl, rfl⟩) ?_
  refine RunT.quiet rfl rfl rfl (fun h' hC => sem_loadN (Addr.add A18 (Int.toNat (i5) * 3)) [(Value.int .i64 (i23)), (Value.bool b24), (Value.string s25)] rfl TF.agg_246 TF.sz_246 hC.1 ⟨rfl, rfl⟩) ?_
  refine RunT.quiet rfl rfl rfl (fun h' hC => sem_move ((Value.slice a1 n2 c3)) rfl ⟨rfl, rfl⟩) ?_
  refine RunT.quiet rfl rfl rfl (fun h' hC => sem_move ((Value.int .i64 (i4))) rfl ⟨rfl, rfl⟩) ?_
  refine RunT.quiet rfl rfl rfl (fun h' hC => sem_indexAddrS A29 n2 c3 .i64 (i4) (congrArg (fun a => Value.slice a n2 c3) e30) rfl TF.slc_191 f32 f33 ⟨rfl, rfl⟩) ?_
  refine RunT.quiet rfl rfl rfl (fun h' hC => sem_loadN (Addr.add A29 (Int.toNat (i4) * 3)) [(Value.int .i64 (i34)), (Value.bool b35), (Value.string s36)] rfl TF.agg_246 TF.sz_246 hC.2.1 ⟨rfl, rfl⟩) ?_
  refine RunT.quiet rfl rfl rfl (fun h' hC => sem_indexAddrS A38 n2 c3 .i64 (i4) (congrArg (fun a => Value.slice a n2 c3) e39) rfl TF.slc_191 f41 f42 ⟨rfl, rfl⟩) ?_
  refine ⟨?_, trivial⟩
  obtain ⟨h43, hst, hS⟩ := hS
  refine OpH.go rfl rfl rfl (sem_storeN (Addr.add A38 (Int.toNat (i4) * 3)) [(Value.int .i64 (i23)), (Value.bool b24), (Value.string s25)] h43 rfl rfl TF.sz_246 hst ?_)
  obtain ⟨g44, g45, hS⟩ := hS
  refine ⟨fun _ => ⟨g44, g45, trivial⟩, ?_⟩
  obtain ⟨A46, e47, hi0, hi1, hS⟩ := hS
  refine RunT.quiet rfl rfl rfl (fun h' hC => sem_indexAddrS A46 n2 c3 .i64 (i5) (congrArg (fun a => Value.slice a n2 c3) e47) rfl TF.slc_191 hi0 hi1 ⟨rfl, rfl⟩) ?_
  refine ⟨?_, trivial⟩
  obtain ⟨h48, hst, hS⟩ := hS
  refine OpH.go rfl rfl rfl (sem_storeN (Addr.add A46 (Int.toNat (i5) * 3)) [(Value.int .i64 (i34)), (Value.bool b35), (Value.string s36)] h48 rfl rfl TF.sz_246 hst ?_)
  refine ⟨fun hz => Bool.noConfusion hz, ?_⟩
  refine Run.inBlock ?_
  refine Run.ops0 (idx := [0, 1, 2, 3, 4, 5]) rfl ?_
  refine Run.go rfl rfl rfl (sem_move ((Value.int .i64 (i4))) rfl ?_)
  refine Run.go rfl rfl rfl (sem_binI .i64 (i4) (1) ((Value.int .i64 (IntKind.wrap .i64 ((i4) + (1))))) rfl rfl rfl ?_)
  refine Run.go rfl rfl rfl (sem_move ((Value.int .i64 (i5))) rfl ?_)
  refine Run.go rfl rfl rfl (sem_binI .i64 (i5) (1) ((Value.int .i64 (IntKind.wrap .i64 ((i5) - (1))))) rfl rfl rfl ?_)
  refine Run.go rfl rfl rfl (sem_assign ((Value.int .i64 (IntKind.wrap .i64 ((i4) + (1))))) rfl ?_)
  refine Run.go rfl rfl rfl (sem_assign ((Value.int .i64 (IntKind.wrap .i64 ((i5) - (1))))) rfl ?_)
  refine Run.region_end ?_
  exact Run.of_fin (hS.imp fun h' ⟨m', hm, hS⟩ => ih9 ((IntKind.wrap .i64 ((i4) + (1))), (IntKind.wrap .i64 ((i5) - (1))), m') _ _ ⟨hS, ⟨rfl, rfl, rfl, trivial⟩⟩ hm)
 ·have hS := hF hb11; clear hT hF
  refine Run.go rfl rfl rfl (sem_binI .i64 (i4) (i5) (.bool false) rfl rfl (binI_lss_f hb11) ?_)
  refine Run.region_end ?_
  refine Run.condF rfl ?_
  refine Run.exit rfl ?_
  refine Run.fall ⟨.inl rfl, ?_⟩
  exact hS.imp fun h' hq => ⟨rfl, hq⟩
end Go.Proofs.Ythloobpjkeodgaa.H
