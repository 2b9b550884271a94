/- The functions do what they ask for. No condition. -/
import Derived.Test.YtcncdfmnpmmikaaXmS
namespace Go.Proofs.Ytcncdfmnpmmikaa.H
open Go
set_option linter.unusedVariables false
set_option maxRecDepth 100000

set_option maxHeartbeats 4000000 in
theorem C_cell_Row_file_File_Get.of {B : RO} {p1 : Option Addr} {i2 : Int} {h : Heap} {Q : Bool → ByteArray → Int → Heap → Prop} (hS : S_cell_Row_file_File_Get B p1 i2 h Q) : C_cell_Row_file_File_Get B p1 i2 h Q := by
 unfold S_cell_Row_file_File_Get at hS
 unfold C_cell_Row_file_File_Get
 refine Spec.of_run Try.func92 (N := 28) (rs := [ResultVar.cell 4 41, ResultVar.tmp 5]) rfl rfl rfl (Nat.le_of_ble_eq_true rfl) ?_
 refine Run.seq ?_
 refine Run.ops0 (idx := [0, 1]) rfl ?_
 refine Run.go rfl rfl rfl (sem_allocN [(Value.bool false), (Value.string ByteArray.empty)] TF.zero_41 (fun k6 hb1 hb2 h7 hb3 => ?_))
 have hS := hS k6 hb1 hb2 h7 hb3
 refine Run.go rfl rfl rfl (sem_assign ((Value.int .i64 (0))) rfl ?_)
 refine Run.region_end ?_
 refine Run.seq ?_
 refine Run.seq ?_
 refine Run.ops0 (idx := [0, 1, 2, 3]) rfl ?_
 refine Run.go rfl rfl rfl (sem_move ((Value.pointer p1)) rfl ?_)
 refine Run.go rfl rfl rfl (sem_move ((Value.int .i64 (i2))) rfl ?_)
 refine Run.go rfl rfl rfl (sem_callL [(Value.pointer p1), (Value.int .i64 (i2))] (TF.goes_120) rfl rfl (Spec.mono hS fun v h8 hv => ?_))
 obtain ⟨b9, rfl, hS⟩ := hv
 obtain ⟨hT, hF⟩ := hS
 cases b9
 ·have hS := hF rfl; clear hT hF
  refine Run.go rfl rfl rfl (sem_not false rfl ?_)
  refine Run.region_end ?_
  refine Run.condT rfl ?_
  refine Run.seq ?_
  refine Run.ops0 (idx := [0]) rfl ?_
  refine Run.go rfl rfl rfl (sem_allocN [(Value.bool false), (Value.string ByteArray.empty)] TF.zero_41 (fun k10 hb1 hb2 h11 hb3 => ?_))
  have hS := hS k10 hb1 hb2 h11 hb3
  refine Run.region_end ?_
  refine Run.seq ?_
  refine Run.ops0 (idx := [0, 1, 2]) rfl ?_
  obtain ⟨b12, s13, hl, hS⟩ := hS
  refine Run.go rfl rfl rfl (sem_loadN ⟨k10, 0, none⟩ [(Value.bool b12), (Value.string s13)] rfl TF.agg_41 TF.sz_41 hl ?_)
  obtain ⟨h14, hst, hS⟩ := hS
  refine Run.go rfl rfl rfl (sem_storeN ⟨k6, 0, none⟩ [(Value.bool b12), (Value.string s13)] h14 rfl rfl TF.sz_41 hst ?_)
  refine Run.go rfl rfl rfl (sem_assign ((Value.int .i64 (0))) rfl ?_)
  refine Run.region_end ?_
  obtain ⟨b15, s16, hl0, hS⟩ := hS
  refine Run.ret ⟨.inr rfl, ?_⟩
  exact ⟨⟨k6, 0, none⟩, (Value.agg #[(Value.bool b15), (Value.string s16)]), rfl, loadHN TF.agg_41 TF.sz_41 hl0, hS.imp fun h' hq => ⟨(b15), s16, (0), rfl, hq⟩⟩
 ·have hS := hT rfl; clear hT hF
  refine Run.go rfl rfl rfl (sem_not true rfl ?_)
  refine Run.region_end ?_
  refine Run.condF rfl ?_
  refine Run.skip ?_
  refine Run.seq ?_
  skip
  obtain ⟨A18, e19, hS⟩ := hS
  skip
  skip
  obtain ⟨a22, n23, c24, hl, hS⟩ := hS
  have f25 := hl
  skip
  obtain ⟨A27, e28, hi0, hi1, hS⟩ := hS
  have f30 := hi0; have f31 := hi1
  skip
  obtain ⟨b33, s34, hl, hS⟩ := hS
  have f35 := hl
  skip
  obtain ⟨A37, e38, hS⟩ := hS
  skip
  skip
  obtain ⟨a41, n42, c43, hl, hS⟩ := hS
  have f44 := hl
  skip
  obtain ⟨A46, e47, hi0, hi1, hS⟩ := hS
  have f49 := hi0; have f50 := hi1
  skip
  obtain ⟨i52, hl, hS⟩ := hS
  have f53 := hl
  refine Run.drawM (fun h' => cellH B h' A18 = some (Value.slice a22 n23 c24) ∧ CellsAt B h' (Addr.add A27 (Int.toNat (i2) * 3)) 0 [(Value.bool b33), (Value.string s34)] ∧ cellH B h' A37 = some (Value.slice a41 n42 c43) ∧ cellH B h' (Addr.add (Addr.add A46 (Int.toNat (i2) * 3)) 2) = some (Value.int .i64 (i52)) ∧ True) [] ⟨[0, 1, 2, 4, 0, 24, 32, 64, 0, 256, 512, 1024, 0, 6144, 8192, 16384, 255, 131071], [262143, 262142, 262141, 262139, 262143, 262119, 262111, 262079, 262143, 261887, 261631, 261119, 262143, 255999, 253951, 245759, 262015, 229375], [0, 0, 0, 0, 0, 0, 0, 0, 0, 0, 0, 0, 0, 0, 0, 0, 0, 0], 0⟩ (.q 0 (.q 1 (.q 2 (.q 3 (.q 4 (.q 5 (.q 6 (.q 7 (.q 8 (.q 9 (.q 10 (.q 11 (.q 12 (.q 13 (.q 14 (.q 15 (.x 16 (.q 17 .nil) .no))))))))))))))))) TF.mixed (by kernel_rfl) ⟨f25, f35, f44, f53, trivial⟩ ?_
  refine RunT.quiet rfl rfl rfl (fun h' hC => sem_move ((Value.pointer p1)) rfl ⟨rfl, rfl⟩) ?_
  refine RunT.quiet rfl rfl rfl (fun h' hC => sem_nilCheck A18 (congrArg Value.pointer e19) ⟨rfl, rfl⟩) ?_
  refine RunT.quiet rfl rfl rfl (fun h' hC => sem_fieldAddr A18 0 rfl TF.fld_168_0 ⟨rfl, rfl⟩) ?_
  refine RunT.quiet rfl rfl rfl (fun h' hC => sem_load1 A18 ((Value.slice a22 n23 c24)) rfl TF.agg_166 hC.1 ⟨rfl, rfl⟩) ?_
  refine RunT.quiet rfl rfl rfl (fun h' hC => sem_move ((Value.int .i64 (i2))) rfl ⟨rfl, rfl⟩) ?_
  refine RunT.quiet rfl rfl rfl (fun h' hC => sem_indexAddrS A27 n23 c24 .i64 (i2) (congrArg (fun a => Value.slice a n23 c24) e28) rfl TF.slc_166 f30 f31 ⟨rfl, rfl⟩) ?_
  refine RunT.quiet rfl rfl rfl (fun h' hC => sem_fieldAddr (Addr.add A27 (Int.toNat (i2) * 3)) 0 rfl TF.fld_170_0 ⟨rfl, rfl⟩) ?_
  refine RunT.quiet rfl rfl rfl (fun h' hC => sem_loadN (Addr.add A27 (Int.toNat (i2) * 3)) [(Value.bool b33), (Value.string s34)] rfl TF.agg_41 TF.sz_41 hC.2.1 ⟨rfl, rfl⟩) ?_
  refine RunT.quiet rfl rfl rfl (fun h' hC => sem_move ((Value.pointer p1)) rfl ⟨rfl, rfl⟩) ?_
  refine RunT.quiet rfl rfl rfl (fun h' hC => sem_nilCheck A37 (congrArg Value.pointer e38) ⟨rfl, rfl⟩) ?_
  refine RunT.quiet rfl rfl rfl (fun h' hC => sem_fieldAddr A37 0 rfl TF.fld_168_0 ⟨rfl, rfl⟩) ?_
  refine RunT.quiet rfl rfl rfl (fun h' hC => sem_load1 A37 ((Value.slice a41 n42 c43)) rfl TF.agg_166 hC.2.2.1 ⟨rfl, rfl⟩) ?_
  refine RunT.quiet rfl rfl rfl (fun h' hC => sem_move ((Value.int .i64 (i2))) rfl ⟨rfl, rfl⟩) ?_
  refine RunT.quiet rfl rfl rfl (fun h' hC => sem_indexAddrS A46 n42 c43 .i64 (i2) (congrArg (fun a => Value.slice a n42 c43) e47) rfl TF.slc_166 f49 f50 ⟨rfl, rfl⟩) ?_
  refine RunT.quiet rfl rfl rfl (fun h' hC => sem_fieldAddr (Addr.add A46 (Int.toNat (i2) * 3)) 2 rfl TF.fld_170_1 ⟨rfl, rfl⟩) ?_
  refine RunT.quiet rfl rfl rfl (fun h' hC => sem_load1 (Addr.add (Addr.add A46 (Int.toNat (i2) * 3)) 2) ((Value.int .i64 (i52))) rfl TF.agg_3 hC.2.2.2.1 ⟨rfl, rfl⟩) ?_
  refine ⟨?_, trivial⟩
  obtain ⟨h54, hst, hS⟩ := hS
  refine OpH.go rfl rfl rfl (sem_storeN ⟨k6, 0, none⟩ [(Value.bool b33), (Value.string s34)] h54 rfl rfl TF.sz_41 hst ?_)
  obtain ⟨g55, g56, g57, g58, hS⟩ := hS
  refine ⟨fun _ => ⟨g55, g56, g57, g58, trivial⟩, ?_⟩
  refine RunT.quiet rfl rfl rfl (fun h' hC => sem_assign ((Value.int .i64 (i52))) rfl ⟨rfl, rfl⟩) ?_
  obtain ⟨b59, s60, hl0, hS⟩ := hS
  refine Run.ret ⟨.inr rfl, ?_⟩
  exact ⟨⟨k6, 0, none⟩, (Value.agg #[(Value.bool b59), (Value.string s60)]), rfl, loadHN TF.agg_41 TF.sz_41 hl0, hS.imp fun h' hq => ⟨(b59), s60, (i52), rfl, hq⟩⟩
set_option maxHeartbeats 4000000 in
theorem C_slices_Delete_s_mark_Mark_mark_Mark.of {B : RO} {a1 : Option Addr} {n2 : Nat} {c3 : Nat} {i4 : Int} {i5 : Int} {h : Heap} {Q : Option Addr → Nat → Nat → Heap → Prop} (hS : S_slices_Delete_s_mark_Mark_mark_Mark B a1 n2 c3 i4 i5 h Q) : C_slices_Delete_s_mark_Mark_mark_Mark B a1 n2 c3 i4 i5 h Q := by
 unfold S_slices_Delete_s_mark_Mark_mark_Mark at hS
 unfold C_slices_Delete_s_mark_Mark_mark_Mark
 refine Spec.of_run Try.func98 (N := 33) (rs := [ResultVar.tmp 6]) rfl rfl rfl (Nat.le_of_ble_eq_true rfl) ?_
 refine Run.seq ?_
 refine Run.ops0 (idx := [0]) rfl ?_
 refine Run.go rfl rfl rfl (sem_assign ((Value.slice none 0 0)) rfl ?_)
 refine Run.region_end ?_
 refine Run.seq ?_
 refine Run.ops0 (idx := [0, 1, 2, 3, 4, 5]) rfl ?_
 refine Run.go rfl rfl rfl (sem_move ((Value.slice a1 n2 c3)) rfl ?_)
 refine Run.go rfl rfl rfl (sem_move ((Value.int .i64 (i4))) rfl ?_)
 refine Run.go rfl rfl rfl (sem_move ((Value.int .i64 (i5))) rfl ?_)
 refine Run.go rfl rfl rfl (sem_move ((Value.slice a1 n2 c3)) rfl ?_)
 refine Run.go rfl rfl rfl (sem_lenSl a1 n2 c3 rfl TF.sl_101 ?_)
 obtain ⟨hi0, hi1, hi2, hi3, hS⟩ := hS
 refine Run.go rfl rfl rfl (sem_slice3L a1 n2 c3 (i4) (i5) ((n2 : Nat)) .i64 .i64 .i64 rfl TF.slc_101 rfl rfl rfl hi0 hi1 hi2 hi3 ?_)
 refine Run.region_end ?_
 refine Run.seq ?_
 refine Run.seq ?_
 refine Run.ops0 (idx := [0, 1, 2]) rfl ?_
 refine Run.go rfl rfl rfl (sem_move ((Value.int .i64 (i4))) rfl ?_)
 refine Run.go rfl rfl rfl (sem_move ((Value.int .i64 (i5))) rfl ?_)
 obtain ⟨hT, hF⟩ := hS
 by_cases hb9 : (i4 : Int) = i5
 ·have hS := hT hb9; clear hT hF
  refine Run.go rfl rfl rfl (sem_binI .i64 (i4) (i5) (.bool true) rfl rfl (binI_eql_t hb9) ?_)
  refine Run.region_end ?_
  refine Run.condT rfl ?_
  refine Run.seq ?_
  refine Run.ops0 (idx := [0, 1]) rfl ?_
  refine Run.go rfl rfl rfl (sem_move ((Value.slice a1 n2 c3)) rfl ?_)
  refine Run.go rfl rfl rfl (sem_assign ((Value.slice a1 n2 c3)) rfl ?_)
  refine Run.region_end ?_
  refine Run.ret ⟨.inr rfl, ?_⟩
  exact hS.imp fun h' hq => ⟨a1, n2, c3, rfl, hq⟩
 ·have hS := hF hb9; clear hT hF
  refine Run.go rfl rfl rfl (sem_binI .i64 (i4) (i5) (.bool false) rfl rfl (binI_eql_f hb9) ?_)
  refine Run.region_end ?_
  refine Run.condF rfl ?_
  refine Run.skip ?_
  refine Run.seq ?_
  refine Run.ops0 (idx := [0, 1, 2]) rfl ?_
  refine Run.go rfl rfl rfl (sem_move ((Value.slice a1 n2 c3)) rfl ?_)
  refine Run.go rfl rfl rfl (sem_lenSl a1 n2 c3 rfl TF.sl_101 ?_)
  refine Run.go rfl rfl rfl (sem_assign ((Value.int .i64 ((n2 : Nat)))) rfl ?_)
  refine Run.region_end ?_
  refine Run.seq ?_
  skip
  skip
  obtain ⟨hi0, hi1, hi2, hS⟩ := hS
  have f13 := hi0; have f14 := hi1; have f15 := hi2
  skip
  skip
  obtain ⟨hi0, hi1, hi2, hS⟩ := hS
  have f19 := hi0; have f20 := hi1; have f21 := hi2
  refine Run.drawM (fun h' => True) [] ⟨[0, 0, 3, 0, 0, 24, 36, 127], [255, 255, 252, 255, 255, 231, 219, 182], [0, 0, 0, 0, 0, 0, 0, 0], 0⟩ (.q 0 (.q 1 (.q 2 (.q 3 (.q 4 (.q 5 (.x 6 (.q 7 .nil) .no))))))) TF.mixed (by kernel_rfl) trivial ?_
  refine RunT.quiet rfl rfl rfl (fun h' hC => sem_move ((Value.slice a1 n2 c3)) rfl ⟨rfl, rfl⟩) ?_
  refine RunT.quiet rfl rfl rfl (fun h' hC => sem_move ((Value.int .i64 (i4))) rfl ⟨rfl, rfl⟩) ?_
  refine RunT.quiet rfl rfl rfl (fun h' hC => sem_sliceSlI a1 n2 c3 (0) (i4) rfl TF.slc_101 rfl ⟨_, rfl⟩ f13 f14 f15 ⟨rfl, rfl⟩) ?_
  refine RunT.quiet rfl rfl rfl (fun h' hC => sem_move ((Value.slice a1 n2 c3)) rfl ⟨rfl, rfl⟩) ?_
  refine RunT.quiet rfl rfl rfl (fun h' hC => sem_move ((Value.int .i64 (i5))) rfl ⟨rfl, rfl⟩) ?_
  refine RunT.quiet rfl rfl rfl (fun h' hC => sem_sliceSlI a1 n2 c3 (i5) ((n2 : Nat)) rfl TF.slc_101 ⟨_, rfl⟩ rfl f19 f20 f21 ⟨rfl, rfl⟩) ?_
  refine ⟨?_, trivial⟩
  refine OpH.go rfl rfl rfl (sem_appendL [(Value.slice (if c3 = Int.toNat (0) then a1 else Option.map (·.add (Int.toNat (0) * 12)) a1) (Int.toNat (i4) - Int.toNat (0)) (c3 - Int.toNat (0))), (Value.slice (if c3 = Int.toNat (i5) then a1 else Option.map (·.add (Int.toNat (i5) * 12)) a1) (Int.toNat ((n2 : Nat)) - Int.toNat (i5)) (c3 - Int.toNat (i5)))] rfl (semH_mono (fun v h22 hv => ?_) hS))
  obtain ⟨a23, n24, c25, rfl, hS⟩ := hv
  refine ⟨fun _ => trivial, ?_⟩
  refine RunT.quiet rfl rfl rfl (fun h' hC => sem_assign ((Value.slice a23 n24 c25)) rfl ⟨rfl, rfl⟩) ?_
  refine Run.seq ?_
  refine Run.ops0 (idx := [0, 1, 2, 3, 4, 5]) rfl ?_
  refine Run.go rfl rfl rfl (sem_move ((Value.slice a23 n24 c25)) rfl ?_)
  refine Run.go rfl rfl rfl (sem_move ((Value.slice a23 n24 c25)) rfl ?_)
  refine Run.go rfl rfl rfl (sem_lenSl a23 n24 c25 rfl TF.sl_101 ?_)
  refine Run.go rfl rfl rfl (sem_move ((Value.int .i64 ((n2 : Nat)))) rfl ?_)
  obtain ⟨hi0, hi1, hi2, hS⟩ := hS
  refine Run.go rfl rfl rfl (sem_sliceSlI a23 n24 c25 ((n24 : Nat)) ((n2 : Nat)) rfl TF.slc_101 ⟨_, rfl⟩ ⟨_, rfl⟩ hi0 hi1 hi2 ?_)
  refine Run.go rfl rfl rfl (sem_clearL [(Value.slice (if c25 = Int.toNat ((n24 : Nat)) then a23 else Option.map (·.add (Int.toNat ((n24 : Nat)) * 12)) a23) (Int.toNat ((n2 : Nat)) - Int.toNat ((n24 : Nat))) (c25 - Int.toNat ((n24 : Nat))))] rfl (semH_mono (fun v h26 hv => ?_) hS))
  obtain ⟨rfl, hS⟩ := hv
  refine Run.region_end ?_
  refine Run.seq ?_
  refine Run.ops0 (idx := [0, 1]) rfl ?_
  refine Run.go rfl rfl rfl (sem_move ((Value.slice a23 n24 c25)) rfl ?_)
  refine Run.go rfl rfl rfl (sem_assign ((Value.slice a23 n24 c25)) rfl ?_)
  refine Run.region_end ?_
  refine Run.ret ⟨.inr rfl, ?_⟩
  exact hS.imp fun h' hq => ⟨a23, n24, c25, rfl, hq⟩
set_option maxHeartbeats 4000000 in
theorem C_slices_BinarySearchFunc_s_draft_entry_int_draft_entry_int_int.of {B : RO} {a1 : Option Addr} {n2 : Nat} {c3 : Nat} {i4 : Int} {v5 : Value} {h : Heap} {Q : Int → Bool → Heap → Prop} (hS : S_slices_BinarySearchFunc_s_draft_entry_int_draft_entry_int_int B a1 n2 c3 i4 v5 h Q) : C_slices_BinarySearchFunc_s_draft_entry_int_draft_entry_int_int B a1 n2 c3 i4 v5 h Q := by
 unfold S_slices_BinarySearchFunc_s_draft_entry_int_draft_entry_int_int at hS
 unfold C_slices_BinarySearchFunc_s_draft_entry_int_draft_entry_int_int
 refine Spec.of_run Try.func99 (N := 49) (rs := [ResultVar.tmp 6, ResultVar.tmp 7]) rfl rfl rfl (Nat.le_of_ble_eq_true rfl) ?_
 refine Run.seq ?_
 refine Run.ops0 (idx := [0, 1]) rfl ?_
 refine Run.go rfl rfl rfl (sem_assign ((Value.int .i64 (0))) rfl ?_)
 refine Run.go rfl rfl rfl (sem_assign ((Value.bool false)) rfl ?_)
 refine Run.region_end ?_
 refine Run.seq ?_
 refine Run.ops0 (idx := [0, 1, 2]) rfl ?_
 refine Run.go rfl rfl rfl (sem_move ((Value.slice a1 n2 c3)) rfl ?_)
 refine Run.go rfl rfl rfl (sem_lenSl a1 n2 c3 rfl TF.sl_114 ?_)
 refine Run.go rfl rfl rfl (sem_assign ((Value.int .i64 ((n2 : Nat)))) rfl ?_)
 refine Run.region_end ?_
 refine Run.seq ?_
 refine Run.ops0 (idx := [0, 1, 2]) rfl ?_
 refine Run.go rfl rfl rfl (sem_move ((Value.int .i64 ((n2 : Nat)))) rfl ?_)
 refine Run.go rfl rfl rfl (sem_assign ((Value.int .i64 (0))) rfl ?_)
 refine Run.go rfl rfl rfl (sem_assign ((Value.int .i64 ((n2 : Nat)))) rfl ?_)
 refine Run.region_end ?_
 refine Run.seqJ (fun e h10 => ∃ i9 : Int, Agree [(0, (Value.slice a1 n2 c3)), (1, (Value.int .i64 (i4))), (2, v5), (8, (Value.int .i64 ((n2 : Nat)))), (9, (Value.int .i64 (i9)))] e ∧ S_slices_BinarySearchFunc_s_draft_entry_int_draft_entry_int_int_J1 B a1 n2 c3 i4 v5 i9 h10 Q) ?_ fun j8 => ?_
 ·rintro e h10 ⟨i9, hag, hS⟩
  refine Run.env hag ?_; clear hag
  refine Run.seq ?_
  refine Run.ops0 (idx := [0, 1, 2, 3, 4, 5, 6, 7, 8, 9, 10, 11, 12, 13, 14, 15]) rfl ?_
  refine Run.go rfl rfl rfl (sem_move ((Value.int .i64 (i9))) rfl ?_)
  refine Run.go rfl rfl rfl (sem_move ((Value.int .i64 (i9))) rfl ?_)
  refine Run.go rfl rfl rfl (sem_move ((Value.int .i64 ((n2 : Nat)))) rfl ?_)
  obtain ⟨hT, hF⟩ := hS
  by_cases hb11 : (i9 : Int) < ((n2 : Nat))
  ·have hS := hT hb11; clear hT hF
   refine Run.go rfl rfl rfl (sem_binI .i64 (i9) ((n2 : Nat)) (.bool true) rfl rfl (binI_lss_t hb11) ?_)
   refine Run.go rfl rfl rfl (sem_move ((Value.bool true)) rfl ?_)
   refine Run.go rfl rfl rfl (sem_move (v5) rfl ?_)
   refine Run.go rfl rfl rfl (sem_move ((Value.slice a1 n2 c3)) rfl ?_)
   refine Run.go rfl rfl rfl (sem_move ((Value.int .i64 (i9))) rfl ?_)
   obtain ⟨A12, e13, hi0, hi1, hS⟩ := hS
   refine Run.go rfl rfl rfl (sem_indexAddrS A12 n2 c3 .i64 (i9) (congrArg (fun a => Value.slice a n2 c3) e13) rfl TF.slc_114 hi0 hi1 ?_)
   obtain ⟨i14, i15, hl, hS⟩ := hS
   refine Run.go rfl rfl rfl (sem_loadN (Addr.add A12 (Int.toNat (i9) * 2)) [(Value.int .i64 (i14)), (Value.int .i64 (i15))] rfl TF.agg_121 TF.sz_121 hl ?_)
   refine Run.go rfl rfl rfl (sem_move ((Value.int .i64 (i4))) rfl ?_)
   refine Run.go rfl rfl rfl (sem_callV (v5) [(Value.agg #[(Value.int .i64 (i14)), (Value.int .i64 (i15))]), (Value.int .i64 (i4))] rfl rfl hS (fun nx h' ha => ha.mono fun v h16 hv => ?_))
   obtain ⟨i17, rfl, hS⟩ := hv
   refine Run.go rfl rfl rfl (sem_binI .i64 (i17) (0) ((Value.bool ((i17 : Int) == (0)))) rfl rfl rfl ?_)
   refine Run.go rfl rfl rfl (sem_pick true ((Value.bool ((i17 : Int) == (0)))) rfl rfl ?_)
   refine Run.go rfl rfl rfl (sem_assign ((Value.int .i64 (i9))) rfl ?_)
   refine Run.go rfl rfl rfl (sem_assign ((Value.bool ((i17 : Int) == (0)))) rfl ?_)
   refine Run.region_end ?_
   refine Run.ret ⟨.inr rfl, ?_⟩
   exact hS.imp fun h' hq => ⟨(i9), (((i17 : Int) == (0))), rfl, hq⟩
  ·have hS := hF hb11; clear hT hF
   refine Run.go rfl rfl rfl (sem_binI .i64 (i9) ((n2 : Nat)) (.bool false) rfl rfl (binI_lss_f hb11) ?_)
   refine Run.go rfl rfl rfl (sem_move ((Value.bool false)) rfl ?_)
   refine Run.no rfl rfl rfl ?_
   refine Run.no rfl rfl rfl ?_
   refine Run.no rfl rfl rfl ?_
   refine Run.no rfl rfl rfl ?_
   refine Run.no rfl rfl rfl ?_
   refine Run.no rfl rfl rfl ?_
   refine Run.no rfl rfl rfl ?_
   refine Run.no rfl rfl rfl ?_
   refine Run.go rfl rfl rfl (sem_pick false ((Value.bool false)) rfl rfl ?_)
   refine Run.go rfl rfl rfl (sem_assign ((Value.int .i64 (i9))) rfl ?_)
   refine Run.go rfl rfl rfl (sem_assign ((Value.bool false)) rfl ?_)
   refine Run.region_end ?_
   refine Run.ret ⟨.inr rfl, ?_⟩
   exact hS.imp fun h' hq => ⟨(i9), (false), rfl, hq⟩
 refine Run.block ?_
 obtain ⟨J24, m22, h0, hS⟩ := hS
 refine Run.of_fin (h0.imp fun h' h0 => ?_)
 refine Run.loop (σ := Int × Int × Nat) (fun x e h => J24 x.1 x.2.1 x.2.2 h ∧ Agree [(0, (Value.slice a1 n2 c3)), (1, (Value.int .i64 (i4))), (2, v5), (8, (Value.int .i64 ((n2 : Nat)))), (9, (Value.int .i64 (x.1))), (10, (Value.int .i64 (x.2.1)))] e) (fun x => x.2.2) ((0), ((n2 : Nat)), m22) ⟨h0, ⟨rfl, rfl, rfl, rfl, rfl, rfl, trivial⟩⟩ ?_; clear h0
 rintro ⟨i18, i19, m21⟩ e h20 ⟨hJ, hag⟩ ih23
 have hS := hS i18 i19 m21 h20 hJ; clear hJ
 refine Run.env hag ?_; clear hag
 refine Run.seq ?_
 refine Run.seq ?_
 refine Run.ops0 (idx := [0, 1, 2]) rfl ?_
 refine Run.go rfl rfl rfl (sem_move ((Value.int .i64 (i18))) rfl ?_)
 refine Run.go rfl rfl rfl (sem_move ((Value.int .i64 (i19))) rfl ?_)
 obtain ⟨hT, hF⟩ := hS
 by_cases hb25 : (i18 : Int) < (i19)
 ·have hS := hT hb25; clear hT hF
  refine Run.go rfl rfl rfl (sem_binI .i64 (i18) (i19) (.bool true) rfl rfl (binI_lss_t hb25) ?_)
  refine Run.region_end ?_
  refine Run.condT rfl ?_
  refine Run.skip ?_
  refine Run.block ?_
  refine Run.seq ?_
  refine Run.ops0 (idx := [0, 1, 2, 3, 4, 5, 6]) rfl ?_
  refine Run.go rfl rfl rfl (sem_move ((Value.int .i64 (i18))) rfl ?_)
  refine Run.go rfl rfl rfl (sem_move ((Value.int .i64 (i19))) rfl ?_)
  refine Run.go rfl rfl rfl (sem_binI .i64 (i18) (i19) ((Value.int .i64 (IntKind.wrap .i64 ((i18) + (i19))))) rfl rfl rfl ?_)
  refine Run.go rfl rfl rfl (sem_convI .i64 .u64 (IntKind.wrap .i64 ((i18) + (i19))) rfl TF.int_3 TF.int_57 ?_)
  obtain ⟨hi0, hS⟩ := hS
  refine Run.go rfl rfl rfl (sem_shr .u64 .u64 (IntKind.wrap .u64 (IntKind.wrap .i64 ((i18) + (i19)))) (1) rfl rfl hi0 ?_)
  refine Run.go rfl rfl rfl (sem_convI .u64 .i64 (Int.fdiv (IntKind.wrap .u64 (IntKind.wrap .i64 ((i18) + (i19)))) (2 ^ (min (Int.toNat (1)) (IntKind.bits .u64)))) rfl TF.int_57 TF.int_3 ?_)
  refine Run.go rfl rfl rfl (sem_assign ((Value.int .i64 (IntKind.wrap .i64 (Int.fdiv (IntKind.wrap .u64 (IntKind.wrap .i64 ((i18) + (i19)))) (2 ^ (min (Int.toNat (1)) (IntKind.bits .u64))))))) rfl ?_)
  refine Run.region_end ?_
  refine Run.seq ?_
  refine Run.ops0 (idx := [0, 1, 2, 3, 4, 5, 6, 7]) rfl ?_
  refine Run.go rfl rfl rfl (sem_move (v5) rfl ?_)
  refine Run.go rfl rfl rfl (sem_move ((Value.slice a1 n2 c3)) rfl ?_)
  refine Run.go rfl rfl rfl (sem_move ((Value.int .i64 (IntKind.wrap .i64 (Int.fdiv (IntKind.wrap .u64 (IntKind.wrap .i64 ((i18) + (i19)))) (2 ^ (min (Int.toNat (1)) (IntKind.bits .u64))))))) rfl ?_)
  obtain ⟨A26, e27, hi0, hi1, hS⟩ := hS
  refine Run.go rfl rfl rfl (sem_indexAddrS A26 n2 c3 .i64 (IntKind.wrap .i64 (Int.fdiv (IntKind.wrap .u64 (IntKind.wrap .i64 ((i18) + (i19)))) (2 ^ (min (Int.toNat (1)) (IntKind.bits .u64))))) (congrArg (fun a => Value.slice a n2 c3) e27) rfl TF.slc_114 hi0 hi1 ?_)
  obtain ⟨i28, i29, hl, hS⟩ := hS
  refine Run.go rfl rfl rfl (sem_loadN (Addr.add A26 (Int.toNat (IntKind.wrap .i64 (Int.fdiv (IntKind.wrap .u64 (IntKind.wrap .i64 ((i18) + (i19)))) (2 ^ (min (Int.toNat (1)) (IntKind.bits .u64))))) * 2)) [(Value.int .i64 (i28)), (Value.int .i64 (i29))] rfl TF.agg_121 TF.sz_121 hl ?_)
  refine Run.go rfl rfl rfl (sem_move ((Value.int .i64 (i4))) rfl ?_)
  refine Run.go rfl rfl rfl (sem_callV (v5) [(Value.agg #[(Value.int .i64 (i28)), (Value.int .i64 (i29))]), (Value.int .i64 (i4))] rfl rfl hS (fun nx h' ha => ha.mono fun v h30 hv => ?_))
  obtain ⟨i31, rfl, hS⟩ := hv
  obtain ⟨hT, hF⟩ := hS
  by_cases hb32 : (i31 : Int) < (0)
  ·have hS := hT hb32; clear hT hF
   refine Run.go rfl rfl rfl (sem_binI .i64 (i31) (0) (.bool true) rfl rfl (binI_lss_t hb32) ?_)
   refine Run.region_end ?_
   refine Run.condT rfl ?_
   refine Run.ops0 (idx := [0, 1, 2]) rfl ?_
   refine Run.go rfl rfl rfl (sem_move ((Value.int .i64 (IntKind.wrap .i64 (Int.fdiv (IntKind.wrap .u64 (IntKind.wrap .i64 ((i18) + (i19)))) (2 ^ (min (Int.toNat (1)) (IntKind.bits .u64))))))) rfl ?_)
   refine Run.go rfl rfl rfl (sem_binI .i64 (IntKind.wrap .i64 (Int.fdiv (IntKind.wrap .u64 (IntKind.wrap .i64 ((i18) + (i19)))) (2 ^ (min (Int.toNat (1)) (IntKind.bits .u64))))) (1) ((Value.int .i64 (IntKind.wrap .i64 ((IntKind.wrap .i64 (Int.fdiv (IntKind.wrap .u64 (IntKind.wrap .i64 ((i18) + (i19)))) (2 ^ (min (Int.toNat (1)) (IntKind.bits .u64))))) + (1))))) rfl rfl rfl ?_)
   refine Run.go rfl rfl rfl (sem_assign ((Value.int .i64 (IntKind.wrap .i64 ((IntKind.wrap .i64 (Int.fdiv (IntKind.wrap .u64 (IntKind.wrap .i64 ((i18) + (i19)))) (2 ^ (min (Int.toNat (1)) (IntKind.bits .u64))))) + (1))))) rfl ?_)
   refine Run.region_end ?_
   refine Run.inBlock ?_
   exact Run.of_fin (hS.imp fun h' ⟨m', hm, hS⟩ => ih23 ((IntKind.wrap .i64 ((IntKind.wrap .i64 (Int.fdiv (IntKind.wrap .u64 (IntKind.wrap .i64 ((i18) + (i19)))) (2 ^ (min (Int.toNat (1)) (IntKind.bits .u64))))) + (1))), (i19), m') _ _ ⟨hS, ⟨rfl, rfl, rfl, rfl, rfl, rfl, trivial⟩⟩ hm)
  ·have hS := hF hb32; clear hT hF
   refine Run.go rfl rfl rfl (sem_binI .i64 (i31) (0) (.bool false) rfl rfl (binI_lss_f hb32) ?_)
   refine Run.region_end ?_
   refine Run.condF rfl ?_
   refine Run.ops0 (idx := [0, 1]) rfl ?_
   refine Run.go rfl rfl rfl (sem_move ((Value.int .i64 (IntKind.wrap .i64 (Int.fdiv (IntKind.wrap .u64 (IntKind.wrap .i64 ((i18) + (i19)))) (2 ^ (min (Int.toNat (1)) (IntKind.bits .u64))))))) rfl ?_)
   refine Run.go rfl rfl rfl (sem_assign ((Value.int .i64 (IntKind.wrap .i64 (Int.fdiv (IntKind.wrap .u64 (IntKind.wrap .i64 ((i18) + (i19)))) (2 ^ (min (Int.toNat (1)) (IntKind.bits .u64))))))) rfl ?_)
   refine Run.region_end ?_
   refine Run.inBlock ?_
   exact Run.of_fin (hS.imp fun h' ⟨m', hm, hS⟩ => ih23 ((i18), (IntKind.wrap .i64 (Int.fdiv (IntKind.wrap .u64 (IntKind.wrap .i64 ((i18) + (i19)))) (2 ^ (min (Int.toNat (1)) (IntKind.bits .u64))))), m') _ _ ⟨hS, ⟨rfl, rfl, rfl, rfl, rfl, rfl, trivial⟩⟩ hm)
 ·have hS := hF hb25; clear hT hF
  refine Run.go rfl rfl rfl (sem_binI .i64 (i18) (i19) (.bool false) rfl rfl (binI_lss_f hb25) ?_)
  refine Run.region_end ?_
  refine Run.condF rfl ?_
  refine Run.exit rfl ?_
  exact Run.of_fin (hS.imp fun h' hS => j8 _ _ ⟨(i18), ⟨rfl, rfl, rfl, rfl, rfl, trivial⟩, hS⟩)
set_option maxHeartbeats 4000000 in
theorem C_draft_by_int.of {B : RO} {i1 : Int} {i2 : Int} {i3 : Int} {h : Heap} {Q : Int → Heap → Prop} (hS : S_draft_by_int B i1 i2 i3 h Q) : C_draft_by_int B i1 i2 i3 h Q := by
 unfold S_draft_by_int at hS
 unfold C_draft_by_int
 refine Spec.of_run Try.func100 (N := 15) (rs := [ResultVar.tmp 4]) rfl rfl rfl (Nat.le_of_ble_eq_true rfl) ?_
 refine Run.seq ?_
 refine Run.ops0 (idx := [0, 1]) rfl ?_
 refine Run.go rfl rfl rfl (sem_boxNN [(Value.int .i64 (i1)), (Value.int .i64 (i2))] rfl (fun k5 hb1 hb2 h6 hb3 => ?_))
 have hS := hS k5 hb1 hb2 h6 hb3
 refine Run.go rfl rfl rfl (sem_assign ((Value.int .i64 (0))) rfl ?_)
 refine Run.region_end ?_
 refine Run.seq ?_
 refine Run.block ?_
 refine Run.seq ?_
 refine Run.ops0 (idx := [0, 1, 2, 3, 4]) rfl ?_
 refine Run.go rfl rfl rfl (sem_fieldAddr ⟨k5, 0, none⟩ 0 rfl TF.fld_121_0 ?_)
 obtain ⟨i7, hl, hS⟩ := hS
 refine Run.go rfl rfl rfl (sem_load1 ⟨k5, 0, none⟩ ((Value.int .i64 (i7))) rfl TF.agg_3 hl ?_)
 refine Run.go rfl rfl rfl (sem_move ((Value.int .i64 (i3))) rfl ?_)
 obtain ⟨hT, hF⟩ := hS
 by_cases hb8 : (i7 : Int) < (i3)
 ·have hS := hT hb8; clear hT hF
  refine Run.go rfl rfl rfl (sem_binI .i64 (i7) (i3) (.bool true) rfl rfl (binI_lss_t hb8) ?_)
  refine Run.go rfl rfl rfl (sem_assign ((Value.bool true)) rfl ?_)
  refine Run.region_end ?_
  refine Run.condT rfl ?_
  refine Run.seq ?_
  refine Run.ops0 (idx := [0]) rfl ?_
  refine Run.go rfl rfl rfl (sem_assign ((Value.int .i64 ((-1)))) rfl ?_)
  refine Run.region_end ?_
  refine Run.ret ⟨.inr rfl, ?_⟩
  exact hS.imp fun h' hq => ⟨((-1)), rfl, hq⟩
 ·have hS := hF hb8; clear hT hF
  refine Run.go rfl rfl rfl (sem_binI .i64 (i7) (i3) (.bool false) rfl rfl (binI_lss_f hb8) ?_)
  refine Run.go rfl rfl rfl (sem_assign ((Value.bool false)) rfl ?_)
  refine Run.region_end ?_
  refine Run.condF rfl ?_
  refine Run.seq ?_
  refine Run.ops0 (idx := [0, 1, 2, 3, 4]) rfl ?_
  refine Run.go rfl rfl rfl (sem_fieldAddr ⟨k5, 0, none⟩ 0 rfl TF.fld_121_0 ?_)
  obtain ⟨i9, hl, hS⟩ := hS
  refine Run.go rfl rfl rfl (sem_load1 ⟨k5, 0, none⟩ ((Value.int .i64 (i9))) rfl TF.agg_3 hl ?_)
  refine Run.go rfl rfl rfl (sem_move ((Value.int .i64 (i3))) rfl ?_)
  obtain ⟨hT, hF⟩ := hS
  by_cases hb10 : (i9 : Int) > (i3)
  ·have hS := hT hb10; clear hT hF
   refine Run.go rfl rfl rfl (sem_binI .i64 (i9) (i3) (.bool true) rfl rfl (binI_gtr_t hb10) ?_)
   refine Run.go rfl rfl rfl (sem_assign ((Value.bool true)) rfl ?_)
   refine Run.region_end ?_
   refine Run.condT rfl ?_
   refine Run.seq ?_
   refine Run.ops0 (idx := [0]) rfl ?_
   refine Run.go rfl rfl rfl (sem_assign ((Value.int .i64 (1))) rfl ?_)
   refine Run.region_end ?_
   refine Run.ret ⟨.inr rfl, ?_⟩
   exact hS.imp fun h' hq => ⟨(1), rfl, hq⟩
  ·have hS := hF hb10; clear hT hF
   refine Run.go rfl rfl rfl (sem_binI .i64 (i9) (i3) (.bool false) rfl rfl (binI_gtr_f hb10) ?_)
   refine Run.go rfl rfl rfl (sem_assign ((Value.bool false)) rfl ?_)
   refine Run.region_end ?_
   refine Run.condF rfl ?_
   refine Run.skip ?_
   refine Run.inBlock ?_
   refine Run.seq ?_
   refine Run.ops0 (idx := [0]) rfl ?_
   refine Run.go rfl rfl rfl (sem_assign ((Value.int .i64 (0))) rfl ?_)
   refine Run.region_end ?_
   refine Run.ret ⟨.inr rfl, ?_⟩
   exact hS.imp fun h' hq => ⟨(0), rfl, hq⟩
set_option maxHeartbeats 4000000 in
theorem C_slices_rotateRight_draft_entry_int.of {B : RO} {a1 : Option Addr} {n2 : Nat} {c3 : Nat} {i4 : Int} {h : Heap} {Q : Heap → Prop} (hS : S_slices_rotateRight_draft_entry_int B a1 n2 c3 i4 h Q) : C_slices_rotateRight_draft_entry_int B a1 n2 c3 i4 h Q := by
 unfold S_slices_rotateRight_draft_entry_int at hS
 unfold C_slices_rotateRight_draft_entry_int
 refine Spec.of_run Try.func102 (N := 10) (rs := []) rfl rfl rfl (Nat.le_of_ble_eq_true rfl) ?_
 refine Run.ops0 (idx := [0, 1, 2, 3, 4, 5]) rfl ?_
 refine Run.go rfl rfl rfl (sem_move ((Value.slice a1 n2 c3)) rfl ?_)
 refine Run.go rfl rfl rfl (sem_move ((Value.slice a1 n2 c3)) rfl ?_)
 refine Run.go rfl rfl rfl (sem_lenSl a1 n2 c3 rfl TF.sl_114 ?_)
 refine Run.go rfl rfl rfl (sem_move ((Value.int .i64 (i4))) rfl ?_)
 refine Run.go rfl rfl rfl (sem_binI .i64 ((n2 : Nat)) (i4) ((Value.int .i64 (IntKind.wrap .i64 (((n2 : Nat)) - (i4))))) rfl rfl rfl ?_)
 refine Run.go rfl rfl rfl (sem_callL [(Value.slice a1 n2 c3), (Value.int .i64 (IntKind.wrap .i64 (((n2 : Nat)) - (i4))))] (TF.goes_124) rfl rfl (Spec.mono hS fun v h5 hv => ?_))
 obtain ⟨rfl, hS⟩ := hv
 refine Run.region_end ?_
 refine Run.fall ⟨.inl rfl, ?_⟩
 exact hS.imp fun h' hq => ⟨rfl, hq⟩
set_option maxHeartbeats 4000000 in
theorem C_slices_Clone_s_draft_entry_int_draft_entry_int.of {B : RO} {a1 : Option Addr} {n2 : Nat} {c3 : Nat} {h : Heap} {Q : Option Addr → Nat → Nat → Heap → Prop} (hS : S_slices_Clone_s_draft_entry_int_draft_entry_int B a1 n2 c3 h Q) : C_slices_Clone_s_draft_entry_int_draft_entry_int B a1 n2 c3 h Q := by
 unfold S_slices_Clone_s_draft_entry_int_draft_entry_int at hS
 unfold C_slices_Clone_s_draft_entry_int_draft_entry_int
 refine Spec.of_run Try.func103 (N := 8) (rs := [ResultVar.tmp 2]) rfl rfl rfl (Nat.le_of_ble_eq_true rfl) ?_
 refine Run.seq ?_
 refine Run.ops0 (idx := [0]) rfl ?_
 refine Run.go rfl rfl rfl (sem_assign ((Value.slice none 0 0)) rfl ?_)
 refine Run.region_end ?_
 refine Run.seq ?_
 refine Run.seq ?_
 refine Run.ops0 (idx := [0, 1]) rfl ?_
 refine Run.go rfl rfl rfl (sem_move ((Value.slice a1 n2 c3)) rfl ?_)
 obtain ⟨hT, hF⟩ := hS
 by_cases hb7 : a1 = none
 ·have hS := hT hb7; clear hT hF
  refine Run.go rfl rfl rfl (sem_slNilT (a1) (n2) (c3) (.inl rfl) true rfl rfl TF.sl_114 hb7 rfl ?_)
  refine Run.region_end ?_
  refine Run.condT rfl ?_
  refine Run.seq ?_
  refine Run.ops0 (idx := [0]) rfl ?_
  refine Run.go rfl rfl rfl (sem_assign ((Value.slice none 0 0)) rfl ?_)
  refine Run.region_end ?_
  refine Run.ret ⟨.inr rfl, ?_⟩
  exact hS.imp fun h' hq => ⟨none, 0, 0, rfl, hq⟩
 ·have hS := hF hb7; clear hT hF
  refine Run.go rfl rfl rfl (sem_slNilF (a1) (n2) (c3) (.inl rfl) false rfl rfl TF.sl_114 hb7 rfl ?_)
  refine Run.region_end ?_
  refine Run.condF rfl ?_
  refine Run.skip ?_
  refine Run.seq ?_
  refine Run.ops0 (idx := [0, 1, 2, 3]) rfl ?_
  refine Run.go rfl rfl rfl (sem_buildSlice0N TF.slc_114 (fun k8 hb1 hb2 h9 hb3 => ?_))
  have hS := hS k8 hb1 hb2 h9 hb3
  refine Run.go rfl rfl rfl (sem_move ((Value.slice a1 n2 c3)) rfl ?_)
  refine Run.go rfl rfl rfl (sem_appendL [(Value.slice (some ⟨k8, 0, none⟩) 0 0), (Value.slice a1 n2 c3)] rfl (semH_mono (fun v h10 hv => ?_) hS))
  obtain ⟨a11, n12, c13, rfl, hS⟩ := hv
  refine Run.go rfl rfl rfl (sem_assign ((Value.slice a11 n12 c13)) rfl ?_)
  refine Run.region_end ?_
  refine Run.ret ⟨.inr rfl, ?_⟩
  exact hS.imp fun h' hq => ⟨a11, n12, c13, rfl, hq⟩
set_option maxHeartbeats 4000000 in
theorem C_draft_Draft_file_File_Put.of {B : RO} {p1 : Option Addr} {i2 : Int} {b3 : Bool} {s4 : ByteArray} {h : Heap} {Q : Bool → Heap → Prop} (hS : S_draft_Draft_file_File_Put B p1 i2 b3 s4 h Q) : C_draft_Draft_file_File_Put B p1 i2 b3 s4 h Q := by
 unfold S_draft_Draft_file_File_Put at hS
 unfold C_draft_Draft_file_File_Put
 refine Spec.of_run Try.func104 (N := 39) (rs := [ResultVar.tmp 6]) rfl rfl rfl (Nat.le_of_ble_eq_true rfl) ?_
 refine Run.seq ?_
 refine Run.ops0 (idx := [0, 1]) rfl ?_
 refine Run.go rfl rfl rfl (sem_boxNN [(Value.bool b3), (Value.string s4)] rfl (fun k6 hb1 hb2 h7 hb3 => ?_))
 have hS := hS k6 hb1 hb2 h7 hb3
 refine Run.go rfl rfl rfl (sem_assign ((Value.bool false)) rfl ?_)
 refine Run.region_end ?_
 refine Run.seq ?_
 refine Run.seq ?_
 refine Run.ops0 (idx := [0, 1]) rfl ?_
 refine Run.go rfl rfl rfl (sem_move ((Value.pointer p1)) rfl ?_)
 obtain ⟨hT, hF⟩ := hS
 by_cases hb8 : p1 = none
 ·have hS := hT hb8; clear hT hF
  refine Run.go rfl rfl rfl (sem_ptrNilT p1 (.inl rfl) true rfl rfl TF.ptr_95 hb8 rfl ?_)
  refine Run.region_end ?_
  refine Run.condT rfl ?_
  refine Run.seq ?_
  refine Run.ops0 (idx := [0]) rfl ?_
  refine Run.go rfl rfl rfl (sem_assign ((Value.bool false)) rfl ?_)
  refine Run.region_end ?_
  refine Run.ret ⟨.inr rfl, ?_⟩
  exact hS.imp fun h' hq => ⟨(false), rfl, hq⟩
 ·have hS := hF hb8; clear hT hF
  refine Run.go rfl rfl rfl (sem_ptrNilF p1 (.inl rfl) false rfl rfl TF.ptr_95 hb8 rfl ?_)
  refine Run.region_end ?_
  refine Run.condF rfl ?_
  refine Run.skip ?_
  refine Run.seq ?_
  refine Run.ops0 (idx := [0, 1, 2, 3, 4, 5, 6, 7]) rfl ?_
  refine Run.go rfl rfl rfl (sem_move ((Value.pointer p1)) rfl ?_)
  refine Run.go rfl rfl rfl (sem_move ((Value.int .i64 (i2))) rfl ?_)
  refine Run.go rfl rfl rfl (sem_callL [(Value.pointer p1), (Value.int .i64 (i2))] (TF.goes_105) rfl rfl (Spec.mono hS fun v h9 hv => ?_))
  obtain ⟨i10, b11, rfl, hS⟩ := hv
  refine Run.go rfl rfl rfl (sem_move ((Value.tuple #[(Value.int .i64 (i10)), (Value.bool b11)])) rfl ?_)
  refine Run.go rfl rfl rfl (sem_extract #[(Value.int .i64 (i10)), (Value.bool b11)] ((Value.int .i64 (i10))) rfl rfl ?_)
  obtain ⟨hT, hF⟩ := hS
  cases b11
  ·have hS := hF rfl; clear hT hF
   refine Run.go rfl rfl rfl (sem_extract #[(Value.int .i64 (i10)), (Value.bool false)] (.bool false) rfl rfl ?_)
   refine Run.go rfl rfl rfl (sem_assign ((Value.int .i64 (i10))) rfl ?_)
   refine Run.go rfl rfl rfl (sem_assign ((Value.bool false)) rfl ?_)
   refine Run.region_end ?_
   refine Run.seq ?_
   refine Run.seq ?_
   refine Run.ops0 (idx := [0]) rfl ?_
   refine Run.go rfl rfl rfl (sem_move ((Value.bool false)) rfl ?_)
   refine Run.region_end ?_
   refine Run.condF rfl ?_
   skip
   skip
   obtain ⟨A14, e15, hS⟩ := hS
   skip
   skip
   obtain ⟨a18, n19, c20, hl, hS⟩ := hS
   have f21 := hl
   skip
   skip
   obtain ⟨b24, s25, hl, hS⟩ := hS
   have f26 := hl
   skip
   refine Run.drawM (fun h' => cellH B h' A14 = some (Value.slice a18 n19 c20) ∧ CellsAt B h' ⟨k6, 0, none⟩ 0 [(Value.bool b24), (Value.string s25)] ∧ True) [13] ⟨[0, 0, 2, 4, 8, 0, 0, 0, 192, 256, 560, 2047, 4095, 6143], [16383, 16383, 16381, 16379, 16375, 16383, 16383, 16383, 16191, 16127, 15823, 16382, 14335, 11263], [0, 0, 2, 6, 14, 0, 0, 0, 192, 448, 1022, 2047, 4095, 8191], 8192⟩ (.q 0 (.q 1 (.q 2 (.q 3 (.q 4 (.q 5 (.q 6 (.q 7 (.q 8 (.x 9 (.x 10 (.q 11 (.q 12 (.x 13 .nil .no))) .no) .no)))))))))) TF.mixed (by kernel_rfl) ⟨f21, f26, trivial⟩ ?_
   refine RunT.quiet rfl rfl rfl (fun h' hC => sem_move ((Value.pointer p1)) rfl ⟨rfl, rfl⟩) ?_
   refine RunT.quiet rfl rfl rfl (fun h' hC => sem_move ((Value.pointer p1)) rfl ⟨rfl, rfl⟩) ?_
   refine RunT.quiet rfl rfl rfl (fun h' hC => sem_nilCheck A14 (congrArg Value.pointer e15) ⟨rfl, rfl⟩) ?_
   refine RunT.quiet rfl rfl rfl (fun h' hC => sem_fieldAddr A14 0 rfl TF.fld_160_0 ⟨rfl, rfl⟩) ?_
   refine RunT.quiet rfl rfl rfl (fun h' hC => sem_load1 A14 ((Value.slice a18 n19 c20)) rfl TF.agg_158 hC.1 ⟨rfl, rfl⟩) ?_
   refine RunT.quiet rfl rfl rfl (fun h' hC => sem_move ((Value.int .i64 (i10))) rfl ⟨rfl, rfl⟩) ?_
   refine RunT.quiet rfl rfl rfl (fun h' hC => sem_move ((Value.int .i64 (i2))) rfl ⟨rfl, rfl⟩) ?_
   refine RunT.quiet rfl rfl rfl (fun h' hC => sem_loadN ⟨k6, 0, none⟩ [(Value.bool b24), (Value.string s25)] rfl TF.agg_41 TF.sz_41 hC.2.1 ⟨rfl, rfl⟩) ?_
   refine RunT.quiet rfl rfl rfl (fun h' hC => sem_buildSL [(0, (Value.int .i64 (i2))), (1, (Value.agg #[(Value.bool b24), (Value.string s25)]))] [(Value.int .i64 (i2)), (Value.bool b24), (Value.string s25)] TF.zero_162 TF.places_162 rfl rfl ⟨rfl, rfl⟩) ?_
   refine ⟨?_, trivial⟩
   refine OpH.go rfl rfl rfl (sem_buildSliceL [(0, (Value.agg #[(Value.int .i64 (i2)), (Value.bool b24), (Value.string s25)]))] [(Value.int .i64 (i2)), (Value.bool b24), (Value.string s25)] TF.slc_158 TF.zero_162 rfl (by decide) (by decide) rfl rfl (fun k28 hb1 hb2 h29 hb3 => ?_))
   have hS := hS k28 hb1 hb2 h29 hb3
   obtain ⟨g30, g31, hS⟩ := hS
   refine ⟨fun _ => ⟨g30, g31, trivial⟩, ?_⟩
   refine ⟨?_, trivial⟩
   refine OpH.go rfl rfl rfl (sem_callL [(Value.slice a18 n19 c20), (Value.int .i64 (i10)), (Value.slice (some ⟨k28, 0, none⟩) 1 1)] (TF.goes_125) rfl rfl (Spec.mono hS fun v h32 hv => ?_))
   obtain ⟨a33, n34, c35, rfl, hS⟩ := hv
   obtain ⟨g36, g37, hS⟩ := hS
   refine ⟨fun _ => ⟨g36, g37, trivial⟩, ?_⟩
   obtain ⟨A38, e39, hS⟩ := hS
   refine RunT.quiet rfl rfl rfl (fun h' hC => sem_nilCheck A38 (congrArg Value.pointer e39) ⟨rfl, rfl⟩) ?_
   refine RunT.quiet rfl rfl rfl (fun h' hC => sem_fieldAddr A38 0 rfl TF.fld_160_0 ⟨rfl, rfl⟩) ?_
   refine ⟨?_, trivial⟩
   obtain ⟨h40, hst, hS⟩ := hS
   refine OpH.go rfl rfl rfl (sem_store1 A38 ((Value.slice a33 n34 c35)) h40 rfl rfl rfl TF.sz_158 hst ?_)
   refine ⟨fun hz => Bool.noConfusion hz, ?_⟩
   refine Run.seq ?_
   refine Run.ops0 (idx := [0]) rfl ?_
   refine Run.go rfl rfl rfl (sem_assign ((Value.bool true)) rfl ?_)
   refine Run.region_end ?_
   refine Run.ret ⟨.inr rfl, ?_⟩
   exact hS.imp fun h' hq => ⟨(true), rfl, hq⟩
  ·have hS := hT rfl; clear hT hF
   refine Run.go rfl rfl rfl (sem_extract #[(Value.int .i64 (i10)), (Value.bool true)] (.bool true) rfl rfl ?_)
   refine Run.go rfl rfl rfl (sem_assign ((Value.int .i64 (i10))) rfl ?_)
   refine Run.go rfl rfl rfl (sem_assign ((Value.bool true)) rfl ?_)
   refine Run.region_end ?_
   refine Run.seq ?_
   refine Run.seq ?_
   refine Run.ops0 (idx := [0]) rfl ?_
   refine Run.go rfl rfl rfl (sem_move ((Value.bool true)) rfl ?_)
   refine Run.region_end ?_
   refine Run.condT rfl ?_
   refine Run.drawM (fun h' => h' = h9) [8] ⟨[0, 1, 2, 4, 0, 0, 63, 127, 191], [511, 510, 509, 507, 511, 511, 487, 447, 351], [0, 1, 3, 7, 0, 0, 63, 127, 255], 256⟩ (.q 0 (.q 1 (.q 2 (.q 3 (.q 4 (.q 5 (.q 6 (.q 7 (.x 8 .nil .no))))))))) TF.mixed (by kernel_rfl) rfl ?_
   refine RunT.quiet rfl rfl rfl (quiet_eq (sem_move ((Value.pointer p1)) rfl ⟨rfl, rfl⟩)) ?_
   obtain ⟨A41, e42, hS⟩ := hS
   refine RunT.quiet rfl rfl rfl (quiet_eq (sem_nilCheck A41 (congrArg Value.pointer e42) ⟨rfl, rfl⟩)) ?_
   refine RunT.quiet rfl rfl rfl (quiet_eq (sem_fieldAddr A41 0 rfl TF.fld_160_0 ⟨rfl, rfl⟩)) ?_
   obtain ⟨a43, n44, c45, hl, hS⟩ := hS
   refine RunT.quiet rfl rfl rfl (quiet_eq (sem_load1 A41 ((Value.slice a43 n44 c45)) rfl TF.agg_158 hl ⟨rfl, rfl⟩)) ?_
   refine RunT.quiet rfl rfl rfl (quiet_eq (sem_move ((Value.int .i64 (i10))) rfl ⟨rfl, rfl⟩)) ?_
   obtain ⟨b46, s47, hl, hS⟩ := hS
   refine RunT.quiet rfl rfl rfl (quiet_eq (sem_loadN ⟨k6, 0, none⟩ [(Value.bool b46), (Value.string s47)] rfl TF.agg_41 TF.sz_41 hl ⟨rfl, rfl⟩)) ?_
   obtain ⟨A48, e49, hi0, hi1, hS⟩ := hS
   refine RunT.quiet rfl rfl rfl (quiet_eq (sem_indexAddrS A48 n44 c45 .i64 (i10) (congrArg (fun a => Value.slice a n44 c45) e49) rfl TF.slc_158 hi0 hi1 ⟨rfl, rfl⟩)) ?_
   refine RunT.quiet rfl rfl rfl (quiet_eq (sem_fieldAddr (Addr.add A48 (Int.toNat (i10) * 3)) 1 rfl TF.fld_162_1 ⟨rfl, rfl⟩)) ?_
   refine ⟨?_, trivial⟩
   obtain ⟨h50, hst, hS⟩ := hS
   refine OpH.go rfl rfl rfl (sem_storeN (Addr.add (Addr.add A48 (Int.toNat (i10) * 3)) 1) [(Value.bool b46), (Value.string s47)] h50 rfl rfl TF.sz_41 hst ?_)
   refine ⟨fun hz => Bool.noConfusion hz, ?_⟩
   refine Run.seq ?_
   refine Run.ops0 (idx := [0]) rfl ?_
   refine Run.go rfl rfl rfl (sem_assign ((Value.bool true)) rfl ?_)
   refine Run.region_end ?_
   refine Run.ret ⟨.inr rfl, ?_⟩
   exact hS.imp fun h' hq => ⟨(true), rfl, hq⟩
set_option maxHeartbeats 4000000 in
theorem C_draft_Draft_file_File_find.of {B : RO} {p1 : Option Addr} {i2 : Int} {h : Heap} {Q : Int → Bool → Heap → Prop} (hS : S_draft_Draft_file_File_find B p1 i2 h Q) : C_draft_Draft_file_File_find B p1 i2 h Q := by
 unfold S_draft_Draft_file_File_find at hS
 unfold C_draft_Draft_file_File_find
 refine Spec.of_run Try.func105 (N := 14) (rs := [ResultVar.tmp 4, ResultVar.tmp 5]) rfl rfl rfl (Nat.le_of_ble_eq_true rfl) ?_
 refine Run.seq ?_
 refine Run.ops0 (idx := [0, 1]) rfl ?_
 refine Run.go rfl rfl rfl (sem_assign ((Value.int .i64 (0))) rfl ?_)
 refine Run.go rfl rfl rfl (sem_assign ((Value.bool false)) rfl ?_)
 refine Run.region_end ?_
 refine Run.seq ?_
 refine Run.ops0 (idx := [0, 1, 2, 3, 4, 5, 6, 7, 8, 9]) rfl ?_
 refine Run.go rfl rfl rfl (sem_move ((Value.pointer p1)) rfl ?_)
 obtain ⟨A5, e6, hS⟩ := hS
 refine Run.go rfl rfl rfl (sem_nilCheck A5 (congrArg Value.pointer e6) ?_)
 refine Run.go rfl rfl rfl (sem_fieldAddr A5 0 rfl TF.fld_160_0 ?_)
 refine Run.ldSl hS fun a7 n8 c9 h10 hl hS => ?_
 refine Run.go rfl rfl rfl (sem_load1 A5 ((Value.slice a7 n8 c9)) rfl TF.agg_158 hl ?_)
 refine Run.go rfl rfl rfl (sem_move ((Value.int .i64 (i2))) rfl ?_)
 refine Run.go rfl rfl rfl (sem_callL [(Value.slice a7 n8 c9), (Value.int .i64 (i2)), (Value.func (.func 127) #[] #[])] (TF.goes_126) rfl rfl (Spec.mono hS fun v h11 hv => ?_))
 obtain ⟨i12, b13, rfl, hS⟩ := hv
 refine Run.go rfl rfl rfl (sem_extract #[(Value.int .i64 (i12)), (Value.bool b13)] ((Value.int .i64 (i12))) rfl rfl ?_)
 refine Run.go rfl rfl rfl (sem_extract #[(Value.int .i64 (i12)), (Value.bool b13)] ((Value.bool b13)) rfl rfl ?_)
 refine Run.go rfl rfl rfl (sem_assign ((Value.int .i64 (i12))) rfl ?_)
 refine Run.go rfl rfl rfl (sem_assign ((Value.bool b13)) rfl ?_)
 refine Run.region_end ?_
 refine Run.ret ⟨.inr rfl, ?_⟩
 exact hS.imp fun h' hq => ⟨(i12), (b13), rfl, hq⟩
set_option maxHeartbeats 4000000 in
theorem C_slices_Clone_s_draft_entry_file_File_draft_entry_file_File.of {B : RO} {a1 : Option Addr} {n2 : Nat} {c3 : Nat} {h : Heap} {Q : Option Addr → Nat → Nat → Heap → Prop} (hS : S_slices_Clone_s_draft_entry_file_File_draft_entry_file_File B a1 n2 c3 h Q) : C_slices_Clone_s_draft_entry_file_File_draft_entry_file_File B a1 n2 c3 h Q := by
 unfold S_slices_Clone_s_draft_entry_file_File_draft_entry_file_File at hS
 unfold C_slices_Clone_s_draft_entry_file_File_draft_entry_file_File
 refine Spec.of_run Try.func119 (N := 8) (rs := [ResultVar.tmp 2]) rfl rfl rfl (Nat.le_of_ble_eq_true rfl) ?_
 refine Run.seq ?_
 refine Run.ops0 (idx := [0]) rfl ?_
 refine Run.go rfl rfl rfl (sem_assign ((Value.slice none 0 0)) rfl ?_)
 refine Run.region_end ?_
 refine Run.seq ?_
 refine Run.seq ?_
 refine Run.ops0 (idx := [0, 1]) rfl ?_
 refine Run.go rfl rfl rfl (sem_move ((Value.slice a1 n2 c3)) rfl ?_)
 obtain ⟨hT, hF⟩ := hS
 by_cases hb7 : a1 = none
 ·have hS := hT hb7; clear hT hF
  refine Run.go rfl rfl rfl (sem_slNilT (a1) (n2) (c3) (.inl rfl) true rfl rfl TF.sl_158 hb7 rfl ?_)
  refine Run.region_end ?_
  refine Run.condT rfl ?_
  refine Run.seq ?_
  refine Run.ops0 (idx := [0]) rfl ?_
  refine Run.go rfl rfl rfl (sem_assign ((Value.slice none 0 0)) rfl ?_)
  refine Run.region_end ?_
  refine Run.ret ⟨.inr rfl, ?_⟩
  exact hS.imp fun h' hq => ⟨none, 0, 0, rfl, hq⟩
 ·have hS := hF hb7; clear hT hF
  refine Run.go rfl rfl rfl (sem_slNilF (a1) (n2) (c3) (.inl rfl) false rfl rfl TF.sl_158 hb7 rfl ?_)
  refine Run.region_end ?_
  refine Run.condF rfl ?_
  refine Run.skip ?_
  refine Run.seq ?_
  refine Run.ops0 (idx := [0, 1, 2, 3]) rfl ?_
  refine Run.go rfl rfl rfl (sem_buildSlice0N TF.slc_158 (fun k8 hb1 hb2 h9 hb3 => ?_))
  have hS := hS k8 hb1 hb2 h9 hb3
  refine Run.go rfl rfl rfl (sem_move ((Value.slice a1 n2 c3)) rfl ?_)
  refine Run.go rfl rfl rfl (sem_appendL [(Value.slice (some ⟨k8, 0, none⟩) 0 0), (Value.slice a1 n2 c3)] rfl (semH_mono (fun v h10 hv => ?_) hS))
  obtain ⟨a11, n12, c13, rfl, hS⟩ := hv
  refine Run.go rfl rfl rfl (sem_assign ((Value.slice a11 n12 c13)) rfl ?_)
  refine Run.region_end ?_
  refine Run.ret ⟨.inr rfl, ?_⟩
  exact hS.imp fun h' hq => ⟨a11, n12, c13, rfl, hq⟩
set_option maxHeartbeats 4000000 in
theorem C_cell_Row_file_File_is.of {B : RO} {p1 : Option Addr} {i2 : Int} {h : Heap} {Q : Bool → Heap → Prop} (hS : S_cell_Row_file_File_is B p1 i2 h Q) : C_cell_Row_file_File_is B p1 i2 h Q := by
 unfold S_cell_Row_file_File_is at hS
 unfold C_cell_Row_file_File_is
 refine Spec.of_run Try.func120 (N := 20) (rs := [ResultVar.tmp 4]) rfl rfl rfl (Nat.le_of_ble_eq_true rfl) ?_
 refine Run.seq ?_
 refine Run.ops0 (idx := [0]) rfl ?_
 refine Run.go rfl rfl rfl (sem_assign ((Value.bool false)) rfl ?_)
 refine Run.region_end ?_
 refine Run.seq ?_
 refine Run.ops0 (idx := [0, 1, 2, 3, 4, 5, 6, 7, 8, 9, 10, 11, 12, 13, 14, 15]) rfl ?_
 refine Run.go rfl rfl rfl (sem_move ((Value.pointer p1)) rfl ?_)
 obtain ⟨hT, hF⟩ := hS
 by_cases hb4 : p1 = none
 ·have hS := hT hb4; clear hT hF
  refine Run.go rfl rfl rfl (sem_ptrNilT p1 (.inr rfl) false rfl rfl TF.ptr_110 hb4 rfl ?_)
  refine Run.go rfl rfl rfl (sem_move ((Value.bool false)) rfl ?_)
  refine Run.no rfl rfl rfl ?_
  refine Run.no rfl rfl rfl ?_
  refine Run.go rfl rfl rfl (sem_pick false ((Value.bool false)) rfl rfl ?_)
  refine Run.go rfl rfl rfl (sem_move ((Value.bool false)) rfl ?_)
  refine Run.no rfl rfl rfl ?_
  refine Run.no rfl rfl rfl ?_
  refine Run.no rfl rfl rfl ?_
  refine Run.no rfl rfl rfl ?_
  refine Run.no rfl rfl rfl ?_
  refine Run.no rfl rfl rfl ?_
  refine Run.no rfl rfl rfl ?_
  refine Run.go rfl rfl rfl (sem_pick false ((Value.bool false)) rfl rfl ?_)
  refine Run.go rfl rfl rfl (sem_assign ((Value.bool false)) rfl ?_)
  refine Run.region_end ?_
  refine Run.ret ⟨.inr rfl, ?_⟩
  exact hS.imp fun h' hq => ⟨(false), rfl, hq⟩
 ·have hS := hF hb4; clear hT hF
  refine Run.go rfl rfl rfl (sem_ptrNilF p1 (.inr rfl) true rfl rfl TF.ptr_110 hb4 rfl ?_)
  refine Run.go rfl rfl rfl (sem_move ((Value.bool true)) rfl ?_)
  refine Run.go rfl rfl rfl (sem_move ((Value.int .i64 (i2))) rfl ?_)
  obtain ⟨hT, hF⟩ := hS
  by_cases hb5 : (i2 : Int) ≥ (0)
  ·have hS := hT hb5; clear hT hF
   refine Run.go rfl rfl rfl (sem_binI .i64 (i2) (0) (.bool true) rfl rfl (binI_geq_t hb5) ?_)
   refine Run.go rfl rfl rfl (sem_pick true ((Value.bool true)) rfl rfl ?_)
   refine Run.go rfl rfl rfl (sem_move ((Value.bool true)) rfl ?_)
   refine Run.go rfl rfl rfl (sem_move ((Value.int .i64 (i2))) rfl ?_)
   refine Run.go rfl rfl rfl (sem_move ((Value.pointer p1)) rfl ?_)
   obtain ⟨A6, e7, hS⟩ := hS
   refine Run.go rfl rfl rfl (sem_nilCheck A6 (congrArg Value.pointer e7) ?_)
   refine Run.go rfl rfl rfl (sem_fieldAddr A6 0 rfl TF.fld_168_0 ?_)
   refine Run.ldSl hS fun a8 n9 c10 h11 hl hS => ?_
   refine Run.go rfl rfl rfl (sem_load1 A6 ((Value.slice a8 n9 c10)) rfl TF.agg_166 hl ?_)
   refine Run.go rfl rfl rfl (sem_lenSl a8 n9 c10 rfl TF.sl_166 ?_)
   refine Run.go rfl rfl rfl (sem_binI .i64 (i2) ((n9 : Nat)) ((Value.bool (decide ((i2 : Int) < ((n9 : Nat)))))) rfl rfl rfl ?_)
   refine Run.go rfl rfl rfl (sem_pick true ((Value.bool (decide ((i2 : Int) < ((n9 : Nat)))))) rfl rfl ?_)
   refine Run.go rfl rfl rfl (sem_assign ((Value.bool (decide ((i2 : Int) < ((n9 : Nat)))))) rfl ?_)
   refine Run.region_end ?_
   refine Run.ret ⟨.inr rfl, ?_⟩
   exact hS.imp fun h' hq => ⟨((decide ((i2 : Int) < ((n9 : Nat))))), rfl, hq⟩
  ·have hS := hF hb5; clear hT hF
   refine Run.go rfl rfl rfl (sem_binI .i64 (i2) (0) (.bool false) rfl rfl (binI_geq_f hb5) ?_)
   refine Run.go rfl rfl rfl (sem_pick true ((Value.bool false)) rfl rfl ?_)
   refine Run.go rfl rfl rfl (sem_move ((Value.bool false)) rfl ?_)
   refine Run.no rfl rfl rfl ?_
   refine Run.no rfl rfl rfl ?_
   refine Run.no rfl rfl rfl ?_
   refine Run.no rfl rfl rfl ?_
   refine Run.no rfl rfl rfl ?_
   refine Run.no rfl rfl rfl ?_
   refine Run.no rfl rfl rfl ?_
   refine Run.go rfl rfl rfl (sem_pick false ((Value.bool false)) rfl rfl ?_)
   refine Run.go rfl rfl rfl (sem_assign ((Value.bool false)) rfl ?_)
   refine Run.region_end ?_
   refine Run.ret ⟨.inr rfl, ?_⟩
   exact hS.imp fun h' hq => ⟨(false), rfl, hq⟩
set_option maxHeartbeats 4000000 in
theorem C_slices_rotateLeft_draft_entry_int.of {B : RO} {a1 : Option Addr} {n2 : Nat} {c3 : Nat} {i4 : Int} {h : Heap} {Q : Heap → Prop} (hS : S_slices_rotateLeft_draft_entry_int B a1 n2 c3 i4 h Q) : C_slices_rotateLeft_draft_entry_int B a1 n2 c3 i4 h Q := by
 unfold S_slices_rotateLeft_draft_entry_int at hS
 unfold C_slices_rotateLeft_draft_entry_int
 refine Spec.of_run Try.func124 (N := 14) (rs := []) rfl rfl rfl (Nat.le_of_ble_eq_true rfl) ?_
 refine Run.seq ?_
 refine Run.ops0 (idx := [0, 1, 2, 3]) rfl ?_
 refine Run.go rfl rfl rfl (sem_move ((Value.slice a1 n2 c3)) rfl ?_)
 refine Run.go rfl rfl rfl (sem_move ((Value.int .i64 (i4))) rfl ?_)
 obtain ⟨hi0, hi1, hi2, hS⟩ := hS
 refine Run.go rfl rfl rfl (sem_sliceSlI a1 n2 c3 (0) (i4) rfl TF.slc_114 rfl ⟨_, rfl⟩ hi0 hi1 hi2 ?_)
 refine Run.go rfl rfl rfl (sem_callL [(Value.slice (if c3 = Int.toNat (0) then a1 else Option.map (·.add (Int.toNat (0) * 2)) a1) (Int.toNat (i4) - Int.toNat (0)) (c3 - Int.toNat (0)))] (TF.goes_146) rfl rfl (Spec.mono hS fun v h5 hv => ?_))
 obtain ⟨rfl, hS⟩ := hv
 refine Run.region_end ?_
 refine Run.seq ?_
 refine Run.ops0 (idx := [0, 1, 2, 3]) rfl ?_
 refine Run.go rfl rfl rfl (sem_move ((Value.slice a1 n2 c3)) rfl ?_)
 refine Run.go rfl rfl rfl (sem_move ((Value.int .i64 (i4))) rfl ?_)
 obtain ⟨hi0, hi1, hi2, hS⟩ := hS
 refine Run.go rfl rfl rfl (sem_sliceSlI a1 n2 c3 (i4) ((n2 : Nat)) rfl TF.slc_114 ⟨_, rfl⟩ rfl hi0 hi1 hi2 ?_)
 refine Run.go rfl rfl rfl (sem_callL [(Value.slice (if c3 = Int.toNat (i4) then a1 else Option.map (·.add (Int.toNat (i4) * 2)) a1) (Int.toNat ((n2 : Nat)) - Int.toNat (i4)) (c3 - Int.toNat (i4)))] (TF.goes_146) rfl rfl (Spec.mono hS fun v h6 hv => ?_))
 obtain ⟨rfl, hS⟩ := hv
 refine Run.region_end ?_
 refine Run.ops0 (idx := [0, 1]) rfl ?_
 refine Run.go rfl rfl rfl (sem_move ((Value.slice a1 n2 c3)) rfl ?_)
 refine Run.go rfl rfl rfl (sem_callL [(Value.slice a1 n2 c3)] (TF.goes_146) rfl rfl (Spec.mono hS fun v h7 hv => ?_))
 obtain ⟨rfl, hS⟩ := hv
 refine Run.region_end ?_
 refine Run.fall ⟨.inl rfl, ?_⟩
 exact hS.imp fun h' hq => ⟨rfl, hq⟩
set_option maxHeartbeats 4000000 in
theorem C_slices_Insert_s_draft_entry_file_File_draft_entry_file_File.of {B : RO} {a1 : Option Addr} {n2 : Nat} {c3 : Nat} {i4 : Int} {a5 : Option Addr} {n6 : Nat} {c7 : Nat} {h : Heap} {Q : Option Addr → Nat → Nat → Heap → Prop} (hS : S_slices_Insert_s_draft_entry_file_File_draft_entry_file_File B a1 n2 c3 i4 a5 n6 c7 h Q) : C_slices_Insert_s_draft_entry_file_File_draft_entry_file_File B a1 n2 c3 i4 a5 n6 c7 h Q := by
 unfold S_slices_Insert_s_draft_entry_file_File_draft_entry_file_File at hS
 unfold C_slices_Insert_s_draft_entry_file_File_draft_entry_file_File
 refine Spec.of_run Try.func125 (N := 95) (rs := [ResultVar.tmp 6]) rfl rfl rfl (Nat.le_of_ble_eq_true rfl) ?_
 refine Run.seq ?_
 refine Run.ops0 (idx := [0]) rfl ?_
 refine Run.go rfl rfl rfl (sem_assign ((Value.slice none 0 0)) rfl ?_)
 refine Run.region_end ?_
 refine Run.seq ?_
 refine Run.ops0 (idx := [0, 1, 2]) rfl ?_
 refine Run.go rfl rfl rfl (sem_move ((Value.slice a1 n2 c3)) rfl ?_)
 refine Run.go rfl rfl rfl (sem_move ((Value.int .i64 (i4))) rfl ?_)
 obtain ⟨hi0, hi1, hi2, hS⟩ := hS
 refine Run.go rfl rfl rfl (sem_sliceSlI a1 n2 c3 (i4) ((n2 : Nat)) rfl TF.slc_158 ⟨_, rfl⟩ rfl hi0 hi1 hi2 ?_)
 refine Run.region_end ?_
 refine Run.seq ?_
 refine Run.ops0 (idx := [0, 1, 2]) rfl ?_
 refine Run.go rfl rfl rfl (sem_move ((Value.slice a5 n6 c7)) rfl ?_)
 refine Run.go rfl rfl rfl (sem_lenSl a5 n6 c7 rfl TF.sl_158 ?_)
 refine Run.go rfl rfl rfl (sem_assign ((Value.int .i64 ((n6 : Nat)))) rfl ?_)
 refine Run.region_end ?_
 refine Run.seq ?_
 refine Run.seq ?_
 refine Run.ops0 (idx := [0, 1]) rfl ?_
 refine Run.go rfl rfl rfl (sem_move ((Value.int .i64 ((n6 : Nat)))) rfl ?_)
 obtain ⟨hT, hF⟩ := hS
 by_cases hb11 : ((n6 : Nat) : Int) = 0
 ·have hS := hT hb11; clear hT hF
  refine Run.go rfl rfl rfl (sem_binI .i64 ((n6 : Nat)) (0) (.bool true) rfl rfl (binI_eql_t hb11) ?_)
  refine Run.region_end ?_
  refine Run.condT rfl ?_
  refine Run.seq ?_
  refine Run.ops0 (idx := [0, 1]) rfl ?_
  refine Run.go rfl rfl rfl (sem_move ((Value.slice a1 n2 c3)) rfl ?_)
  refine Run.go rfl rfl rfl (sem_assign ((Value.slice a1 n2 c3)) rfl ?_)
  refine Run.region_end ?_
  refine Run.ret ⟨.inr rfl, ?_⟩
  exact hS.imp fun h' hq => ⟨a1, n2, c3, rfl, hq⟩
 ·have hS := hF hb11; clear hT hF
  refine Run.go rfl rfl rfl (sem_binI .i64 ((n6 : Nat)) (0) (.bool false) rfl rfl (binI_eql_f hb11) ?_)
  refine Run.region_end ?_
  refine Run.condF rfl ?_
  refine Run.skip ?_
  refine Run.seq ?_
  refine Run.ops0 (idx := [0, 1, 2]) rfl ?_
  refine Run.go rfl rfl rfl (sem_move ((Value.slice a1 n2 c3)) rfl ?_)
  refine Run.go rfl rfl rfl (sem_lenSl a1 n2 c3 rfl TF.sl_158 ?_)
  refine Run.go rfl rfl rfl (sem_assign ((Value.int .i64 ((n2 : Nat)))) rfl ?_)
  refine Run.region_end ?_
  refine Run.seq ?_
  refine Run.seq ?_
  refine Run.ops0 (idx := [0, 1, 2]) rfl ?_
  refine Run.go rfl rfl rfl (sem_move ((Value.int .i64 (i4))) rfl ?_)
  refine Run.go rfl rfl rfl (sem_move ((Value.int .i64 ((n2 : Nat)))) rfl ?_)
  obtain ⟨hT, hF⟩ := hS
  by_cases hb12 : (i4 : Int) = (n2 : Nat)
  ·have hS := hT hb12; clear hT hF
   refine Run.go rfl rfl rfl (sem_binI .i64 (i4) ((n2 : Nat)) (.bool true) rfl rfl (binI_eql_t hb12) ?_)
   refine Run.region_end ?_
   refine Run.condT rfl ?_
   refine Run.seq ?_
   refine Run.ops0 (idx := [0, 1, 2, 3]) rfl ?_
   refine Run.go rfl rfl rfl (sem_move ((Value.slice a1 n2 c3)) rfl ?_)
   refine Run.go rfl rfl rfl (sem_move ((Value.slice a5 n6 c7)) rfl ?_)
   refine Run.go rfl rfl rfl (sem_appendL [(Value.slice a1 n2 c3), (Value.slice a5 n6 c7)] rfl (semH_mono (fun v h13 hv => ?_) hS))
   obtain ⟨a14, n15, c16, rfl, hS⟩ := hv
   refine Run.go rfl rfl rfl (sem_assign ((Value.slice a14 n15 c16)) rfl ?_)
   refine Run.region_end ?_
   refine Run.ret ⟨.inr rfl, ?_⟩
   exact hS.imp fun h' hq => ⟨a14, n15, c16, rfl, hq⟩
  ·have hS := hF hb12; clear hT hF
   refine Run.go rfl rfl rfl (sem_binI .i64 (i4) ((n2 : Nat)) (.bool false) rfl rfl (binI_eql_f hb12) ?_)
   refine Run.region_end ?_
   refine Run.condF rfl ?_
   refine Run.skip ?_
   refine Run.seq ?_
   refine Run.seq ?_
   refine Run.ops0 (idx := [0, 1, 2, 3, 4, 5]) rfl ?_
   refine Run.go rfl rfl rfl (sem_move ((Value.int .i64 ((n2 : Nat)))) rfl ?_)
   refine Run.go rfl rfl rfl (sem_move ((Value.int .i64 ((n6 : Nat)))) rfl ?_)
   refine Run.go rfl rfl rfl (sem_binI .i64 ((n2 : Nat)) ((n6 : Nat)) ((Value.int .i64 (IntKind.wrap .i64 (((n2 : Nat)) + ((n6 : Nat)))))) rfl rfl rfl ?_)
   refine Run.go rfl rfl rfl (sem_move ((Value.slice a1 n2 c3)) rfl ?_)
   refine Run.go rfl rfl rfl (sem_capSl a1 (n2) (c3) rfl TF.sl_158 ?_)
   obtain ⟨hT, hF⟩ := hS
   by_cases hb17 : (IntKind.wrap .i64 (((n2 : Nat)) + ((n6 : Nat))) : Int) > ((c3 : Nat))
   ·have hS := hT hb17; clear hT hF
    refine Run.go rfl rfl rfl (sem_binI .i64 (IntKind.wrap .i64 (((n2 : Nat)) + ((n6 : Nat)))) ((c3 : Nat)) (.bool true) rfl rfl (binI_gtr_t hb17) ?_)
    refine Run.region_end ?_
    refine Run.condT rfl ?_
    refine Run.seq ?_
    refine Run.ops0 (idx := [0, 1, 2, 3, 4, 5, 6, 7, 8, 9]) rfl ?_
    refine Run.go rfl rfl rfl (sem_move ((Value.slice a1 n2 c3)) rfl ?_)
    refine Run.go rfl rfl rfl (sem_move ((Value.int .i64 (i4))) rfl ?_)
    obtain ⟨hi0, hi1, hi2, hS⟩ := hS
    refine Run.go rfl rfl rfl (sem_sliceSlI a1 n2 c3 (0) (i4) rfl TF.slc_158 rfl ⟨_, rfl⟩ hi0 hi1 hi2 ?_)
    refine Run.go rfl rfl rfl (sem_move ((Value.int .i64 ((n2 : Nat)))) rfl ?_)
    refine Run.go rfl rfl rfl (sem_move ((Value.int .i64 ((n6 : Nat)))) rfl ?_)
    refine Run.go rfl rfl rfl (sem_binI .i64 ((n2 : Nat)) ((n6 : Nat)) ((Value.int .i64 (IntKind.wrap .i64 (((n2 : Nat)) + ((n6 : Nat)))))) rfl rfl rfl ?_)
    refine Run.go rfl rfl rfl (sem_move ((Value.int .i64 (i4))) rfl ?_)
    refine Run.go rfl rfl rfl (sem_binI .i64 (IntKind.wrap .i64 (((n2 : Nat)) + ((n6 : Nat)))) (i4) ((Value.int .i64 (IntKind.wrap .i64 ((IntKind.wrap .i64 (((n2 : Nat)) + ((n6 : Nat)))) - (i4))))) rfl rfl rfl ?_)
    refine Run.go rfl rfl rfl (sem_appendL [(Value.slice (if c3 = Int.toNat (0) then a1 else Option.map (·.add (Int.toNat (0) * 3)) a1) (Int.toNat (i4) - Int.toNat (0)) (c3 - Int.toNat (0))), (Value.int .i64 (IntKind.wrap .i64 ((IntKind.wrap .i64 (((n2 : Nat)) + ((n6 : Nat)))) - (i4))))] rfl (semH_mono (fun v h18 hv => ?_) hS))
    obtain ⟨a19, n20, c21, rfl, hS⟩ := hv
    refine Run.go rfl rfl rfl (sem_assign ((Value.slice a19 n20 c21)) rfl ?_)
    refine Run.region_end ?_
    refine Run.seq ?_
    refine Run.ops0 (idx := [0, 1, 2, 3, 4]) rfl ?_
    refine Run.go rfl rfl rfl (sem_move ((Value.slice a19 n20 c21)) rfl ?_)
    refine Run.go rfl rfl rfl (sem_move ((Value.int .i64 (i4))) rfl ?_)
    obtain ⟨hi0, hi1, hi2, hS⟩ := hS
    refine Run.go rfl rfl rfl (sem_sliceSlI a19 n20 c21 (i4) ((n20 : Nat)) rfl TF.slc_158 ⟨_, rfl⟩ rfl hi0 hi1 hi2 ?_)
    refine Run.go rfl rfl rfl (sem_move ((Value.slice a5 n6 c7)) rfl ?_)
    refine Run.go rfl rfl rfl (sem_copyL [(Value.slice (if c21 = Int.toNat (i4) then a19 else Option.map (·.add (Int.toNat (i4) * 3)) a19) (Int.toNat ((n20 : Nat)) - Int.toNat (i4)) (c21 - Int.toNat (i4))), (Value.slice a5 n6 c7)] rfl (semH_mono (fun v h22 hv => ?_) hS))
    obtain ⟨i23, rfl, hS⟩ := hv
    refine Run.region_end ?_
    refine Run.seq ?_
    refine Run.drawM (fun h' => h' = h22) [8] ⟨[0, 0, 0, 6, 9, 0, 0, 96, 144], [511, 511, 511, 505, 502, 511, 511, 415, 367], [0, 0, 0, 6, 15, 0, 0, 96, 255], 256⟩ (.q 0 (.q 1 (.q 2 (.q 3 (.q 4 (.q 5 (.q 6 (.q 7 (.x 8 .nil .no))))))))) TF.mixed (by kernel_rfl) rfl ?_
    refine RunT.quiet rfl rfl rfl (quiet_eq (sem_move ((Value.slice a19 n20 c21)) rfl ⟨rfl, rfl⟩)) ?_
    refine RunT.quiet rfl rfl rfl (quiet_eq (sem_move ((Value.int .i64 (i4))) rfl ⟨rfl, rfl⟩)) ?_
    refine RunT.quiet rfl rfl rfl (quiet_eq (sem_move ((Value.int .i64 ((n6 : Nat)))) rfl ⟨rfl, rfl⟩)) ?_
    refine RunT.quiet rfl rfl rfl (quiet_eq (sem_binI .i64 (i4) ((n6 : Nat)) ((Value.int .i64 (IntKind.wrap .i64 ((i4) + ((n6 : Nat)))))) rfl rfl rfl ⟨rfl, rfl⟩)) ?_
    obtain ⟨hi0, hi1, hi2, hS⟩ := hS
    refine RunT.quiet rfl rfl rfl (quiet_eq (sem_sliceSlI a19 n20 c21 (IntKind.wrap .i64 ((i4) + ((n6 : Nat)))) ((n20 : Nat)) rfl TF.slc_158 ⟨_, rfl⟩ rfl hi0 hi1 hi2 ⟨rfl, rfl⟩)) ?_
    refine RunT.quiet rfl rfl rfl (quiet_eq (sem_move ((Value.slice a1 n2 c3)) rfl ⟨rfl, rfl⟩)) ?_
    refine RunT.quiet rfl rfl rfl (quiet_eq (sem_move ((Value.int .i64 (i4))) rfl ⟨rfl, rfl⟩)) ?_
    obtain ⟨hi0, hi1, hi2, hS⟩ := hS
    refine RunT.quiet rfl rfl rfl (quiet_eq (sem_sliceSlI a1 n2 c3 (i4) ((n2 : Nat)) rfl TF.slc_158 ⟨_, rfl⟩ rfl hi0 hi1 hi2 ⟨rfl, rfl⟩)) ?_
    refine ⟨?_, trivial⟩
    refine OpH.go rfl rfl rfl (sem_copyL [(Value.slice (if c21 = Int.toNat (IntKind.wrap .i64 ((i4) + ((n6 : Nat)))) then a19 else Option.map (·.add (Int.toNat (IntKind.wrap .i64 ((i4) + ((n6 : Nat)))) * 3)) a19) (Int.toNat ((n20 : Nat)) - Int.toNat (IntKind.wrap .i64 ((i4) + ((n6 : Nat))))) (c21 - Int.toNat (IntKind.wrap .i64 ((i4) + ((n6 : Nat)))))), (Value.slice (if c3 = Int.toNat (i4) then a1 else Option.map (·.add (Int.toNat (i4) * 3)) a1) (Int.toNat ((n2 : Nat)) - Int.toNat (i4)) (c3 - Int.toNat (i4)))] rfl (semH_mono (fun v h24 hv => ?_) hS))
    obtain ⟨i25, rfl, hS⟩ := hv
    refine ⟨fun hz => Bool.noConfusion hz, ?_⟩
    refine Run.seq ?_
    refine Run.ops0 (idx := [0, 1]) rfl ?_
    refine Run.go rfl rfl rfl (sem_move ((Value.slice a19 n20 c21)) rfl ?_)
    refine Run.go rfl rfl rfl (sem_assign ((Value.slice a19 n20 c21)) rfl ?_)
    refine Run.region_end ?_
    refine Run.ret ⟨.inr rfl, ?_⟩
    exact hS.imp fun h' hq => ⟨a19, n20, c21, rfl, hq⟩
   ·have hS := hF hb17; clear hT hF
    refine Run.go rfl rfl rfl (sem_binI .i64 (IntKind.wrap .i64 (((n2 : Nat)) + ((n6 : Nat)))) ((c3 : Nat)) (.bool false) rfl rfl (binI_gtr_f hb17) ?_)
    refine Run.region_end ?_
    refine Run.condF rfl ?_
    refine Run.skip ?_
    refine Run.seq ?_
    refine Run.ops0 (idx := [0, 1, 2, 3, 4, 5]) rfl ?_
    refine Run.go rfl rfl rfl (sem_move ((Value.slice a1 n2 c3)) rfl ?_)
    refine Run.go rfl rfl rfl (sem_move ((Value.int .i64 ((n2 : Nat)))) rfl ?_)
    refine Run.go rfl rfl rfl (sem_move ((Value.int .i64 ((n6 : Nat)))) rfl ?_)
    refine Run.go rfl rfl rfl (sem_binI .i64 ((n2 : Nat)) ((n6 : Nat)) ((Value.int .i64 (IntKind.wrap .i64 (((n2 : Nat)) + ((n6 : Nat)))))) rfl rfl rfl ?_)
    obtain ⟨hi0, hi1, hi2, hS⟩ := hS
    refine Run.go rfl rfl rfl (sem_sliceSlI a1 n2 c3 (0) (IntKind.wrap .i64 (((n2 : Nat)) + ((n6 : Nat)))) rfl TF.slc_158 rfl ⟨_, rfl⟩ hi0 hi1 hi2 ?_)
    refine Run.go rfl rfl rfl (sem_assign ((Value.slice (if c3 = Int.toNat (0) then a1 else Option.map (·.add (Int.toNat (0) * 3)) a1) (Int.toNat (IntKind.wrap .i64 (((n2 : Nat)) + ((n6 : Nat)))) - Int.toNat (0)) (c3 - Int.toNat (0)))) rfl ?_)
    refine Run.region_end ?_
    refine Run.seq ?_
    refine Run.seq ?_
    refine Run.ops0 (idx := [0, 1, 2, 3, 4, 5, 6, 7]) rfl ?_
    refine Run.go rfl rfl rfl (sem_move ((Value.slice a5 n6 c7)) rfl ?_)
    refine Run.go rfl rfl rfl (sem_move ((Value.slice (if c3 = Int.toNat (0) then a1 else Option.map (·.add (Int.toNat (0) * 3)) a1) (Int.toNat (IntKind.wrap .i64 (((n2 : Nat)) + ((n6 : Nat)))) - Int.toNat (0)) (c3 - Int.toNat (0)))) rfl ?_)
    refine Run.go rfl rfl rfl (sem_move ((Value.int .i64 (i4))) rfl ?_)
    refine Run.go rfl rfl rfl (sem_move ((Value.int .i64 ((n6 : Nat)))) rfl ?_)
    refine Run.go rfl rfl rfl (sem_binI .i64 (i4) ((n6 : Nat)) ((Value.int .i64 (IntKind.wrap .i64 ((i4) + ((n6 : Nat)))))) rfl rfl rfl ?_)
    obtain ⟨hi0, hi1, hi2, hS⟩ := hS
    refine Run.go rfl rfl rfl (sem_sliceSlI (if c3 = Int.toNat (0) then a1 else Option.map (·.add (Int.toNat (0) * 3)) a1) (Int.toNat (IntKind.wrap .i64 (((n2 : Nat)) + ((n6 : Nat)))) - Int.toNat (0)) (c3 - Int.toNat (0)) (IntKind.wrap .i64 ((i4) + ((n6 : Nat)))) (((Int.toNat (IntKind.wrap .i64 (((n2 : Nat)) + ((n6 : Nat)))) - Int.toNat (0)) : Nat)) rfl TF.slc_158 ⟨_, rfl⟩ rfl hi0 hi1 hi2 ?_)
    refine Run.go rfl rfl rfl (sem_callXL [(Value.slice a5 n6 c7), (Value.slice (if (c3 - Int.toNat (0)) = Int.toNat (IntKind.wrap .i64 ((i4) + ((n6 : Nat)))) then (if c3 = Int.toNat (0) then a1 else Option.map (·.add (Int.toNat (0) * 3)) a1) else Option.map (·.add (Int.toNat (IntKind.wrap .i64 ((i4) + ((n6 : Nat)))) * 3)) (if c3 = Int.toNat (0) then a1 else Option.map (·.add (Int.toNat (0) * 3)) a1)) (Int.toNat (((Int.toNat (IntKind.wrap .i64 (((n2 : Nat)) + ((n6 : Nat)))) - Int.toNat (0)) : Nat)) - Int.toNat (IntKind.wrap .i64 ((i4) + ((n6 : Nat))))) ((c3 - Int.toNat (0)) - Int.toNat (IntKind.wrap .i64 ((i4) + ((n6 : Nat))))))] (TF.goesx_147) rfl rfl (semH_mono (fun v h26 hv => ?_) hS))
    obtain ⟨b27, rfl, hS⟩ := hv
    obtain ⟨hT, hF⟩ := hS
    cases b27
    ·have hS := hF rfl; clear hT hF
     refine Run.go rfl rfl rfl (sem_not false rfl ?_)
     refine Run.region_end ?_
     refine Run.condT rfl ?_
     refine Run.seq ?_
     refine Run.drawM (fun h' => h' = h26) [8] ⟨[0, 0, 0, 6, 9, 0, 0, 96, 144], [511, 511, 511, 505, 502, 511, 511, 415, 367], [0, 0, 0, 6, 15, 0, 0, 96, 255], 256⟩ (.q 0 (.q 1 (.q 2 (.q 3 (.q 4 (.q 5 (.q 6 (.q 7 (.x 8 .nil .no))))))))) TF.mixed (by kernel_rfl) rfl ?_
     refine RunT.quiet rfl rfl rfl (quiet_eq (sem_move ((Value.slice (if c3 = Int.toNat (0) then a1 else Option.map (·.add (Int.toNat (0) * 3)) a1) (Int.toNat (IntKind.wrap .i64 (((n2 : Nat)) + ((n6 : Nat)))) - Int.toNat (0)) (c3 - Int.toNat (0)))) rfl ⟨rfl, rfl⟩)) ?_
     refine RunT.quiet rfl rfl rfl (quiet_eq (sem_move ((Value.int .i64 (i4))) rfl ⟨rfl, rfl⟩)) ?_
     refine RunT.quiet rfl rfl rfl (quiet_eq (sem_move ((Value.int .i64 ((n6 : Nat)))) rfl ⟨rfl, rfl⟩)) ?_
     refine RunT.quiet rfl rfl rfl (quiet_eq (sem_binI .i64 (i4) ((n6 : Nat)) ((Value.int .i64 (IntKind.wrap .i64 ((i4) + ((n6 : Nat)))))) rfl rfl rfl ⟨rfl, rfl⟩)) ?_
     obtain ⟨hi0, hi1, hi2, hS⟩ := hS
     refine RunT.quiet rfl rfl rfl (quiet_eq (sem_sliceSlI (if c3 = Int.toNat (0) then a1 else Option.map (·.add (Int.toNat (0) * 3)) a1) (Int.toNat (IntKind.wrap .i64 (((n2 : Nat)) + ((n6 : Nat)))) - Int.toNat (0)) (c3 - Int.toNat (0)) (IntKind.wrap .i64 ((i4) + ((n6 : Nat)))) (((Int.toNat (IntKind.wrap .i64 (((n2 : Nat)) + ((n6 : Nat)))) - Int.toNat (0)) : Nat)) rfl TF.slc_158 ⟨_, rfl⟩ rfl hi0 hi1 hi2 ⟨rfl, rfl⟩)) ?_
     refine RunT.quiet rfl rfl rfl (quiet_eq (sem_move ((Value.slice (if c3 = Int.toNat (0) then a1 else Option.map (·.add (Int.toNat (0) * 3)) a1) (Int.toNat (IntKind.wrap .i64 (((n2 : Nat)) + ((n6 : Nat)))) - Int.toNat (0)) (c3 - Int.toNat (0)))) rfl ⟨rfl, rfl⟩)) ?_
     refine RunT.quiet rfl rfl rfl (quiet_eq (sem_move ((Value.int .i64 (i4))) rfl ⟨rfl, rfl⟩)) ?_
     obtain ⟨hi0, hi1, hi2, hS⟩ := hS
     refine RunT.quiet rfl rfl rfl (quiet_eq (sem_sliceSlI (if c3 = Int.toNat (0) then a1 else Option.map (·.add (Int.toNat (0) * 3)) a1) (Int.toNat (IntKind.wrap .i64 (((n2 : Nat)) + ((n6 : Nat)))) - Int.toNat (0)) (c3 - Int.toNat (0)) (i4) (((Int.toNat (IntKind.wrap .i64 (((n2 : Nat)) + ((n6 : Nat)))) - Int.toNat (0)) : Nat)) rfl TF.slc_158 ⟨_, rfl⟩ rfl hi0 hi1 hi2 ⟨rfl, rfl⟩)) ?_
     refine ⟨?_, trivial⟩
     refine OpH.go rfl rfl rfl (sem_copyL [(Value.slice (if (c3 - Int.toNat (0)) = Int.toNat (IntKind.wrap .i64 ((i4) + ((n6 : Nat)))) then (if c3 = Int.toNat (0) then a1 else Option.map (·.add (Int.toNat (0) * 3)) a1) else Option.map (·.add (Int.toNat (IntKind.wrap .i64 ((i4) + ((n6 : Nat)))) * 3)) (if c3 = Int.toNat (0) then a1 else Option.map (·.add (Int.toNat (0) * 3)) a1)) (Int.toNat (((Int.toNat (IntKind.wrap .i64 (((n2 : Nat)) + ((n6 : Nat)))) - Int.toNat (0)) : Nat)) - Int.toNat (IntKind.wrap .i64 ((i4) + ((n6 : Nat))))) ((c3 - Int.toNat (0)) - Int.toNat (IntKind.wrap .i64 ((i4) + ((n6 : Nat)))))), (Value.slice (if (c3 - Int.toNat (0)) = Int.toNat (i4) then (if c3 = Int.toNat (0) then a1 else Option.map (·.add (Int.toNat (0) * 3)) a1) else Option.map (·.add (Int.toNat (i4) * 3)) (if c3 = Int.toNat (0) then a1 else Option.map (·.add (Int.toNat (0) * 3)) a1)) (Int.toNat (((Int.toNat (IntKind.wrap .i64 (((n2 : Nat)) + ((n6 : Nat)))) - Int.toNat (0)) : Nat)) - Int.toNat (i4)) ((c3 - Int.toNat (0)) - Int.toNat (i4)))] rfl (semH_mono (fun v h28 hv => ?_) hS))
     obtain ⟨i29, rfl, hS⟩ := hv
     refine ⟨fun hz => Bool.noConfusion hz, ?_⟩
     refine Run.seq ?_
     refine Run.ops0 (idx := [0, 1, 2, 3, 4]) rfl ?_
     refine Run.go rfl rfl rfl (sem_move ((Value.slice (if c3 = Int.toNat (0) then a1 else Option.map (·.add (Int.toNat (0) * 3)) a1) (Int.toNat (IntKind.wrap .i64 (((n2 : Nat)) + ((n6 : Nat)))) - Int.toNat (0)) (c3 - Int.toNat (0)))) rfl ?_)
     refine Run.go rfl rfl rfl (sem_move ((Value.int .i64 (i4))) rfl ?_)
     obtain ⟨hi0, hi1, hi2, hS⟩ := hS
     refine Run.go rfl rfl rfl (sem_sliceSlI (if c3 = Int.toNat (0) then a1 else Option.map (·.add (Int.toNat (0) * 3)) a1) (Int.toNat (IntKind.wrap .i64 (((n2 : Nat)) + ((n6 : Nat)))) - Int.toNat (0)) (c3 - Int.toNat (0)) (i4) (((Int.toNat (IntKind.wrap .i64 (((n2 : Nat)) + ((n6 : Nat)))) - Int.toNat (0)) : Nat)) rfl TF.slc_158 ⟨_, rfl⟩ rfl hi0 hi1 hi2 ?_)
     refine Run.go rfl rfl rfl (sem_move ((Value.slice a5 n6 c7)) rfl ?_)
     refine Run.go rfl rfl rfl (sem_copyL [(Value.slice (if (c3 - Int.toNat (0)) = Int.toNat (i4) then (if c3 = Int.toNat (0) then a1 else Option.map (·.add (Int.toNat (0) * 3)) a1) else Option.map (·.add (Int.toNat (i4) * 3)) (if c3 = Int.toNat (0) then a1 else Option.map (·.add (Int.toNat (0) * 3)) a1)) (Int.toNat (((Int.toNat (IntKind.wrap .i64 (((n2 : Nat)) + ((n6 : Nat)))) - Int.toNat (0)) : Nat)) - Int.toNat (i4)) ((c3 - Int.toNat (0)) - Int.toNat (i4))), (Value.slice a5 n6 c7)] rfl (semH_mono (fun v h30 hv => ?_) hS))
     obtain ⟨i31, rfl, hS⟩ := hv
     refine Run.region_end ?_
     refine Run.seq ?_
     refine Run.ops0 (idx := [0, 1]) rfl ?_
     refine Run.go rfl rfl rfl (sem_move ((Value.slice (if c3 = Int.toNat (0) then a1 else Option.map (·.add (Int.toNat (0) * 3)) a1) (Int.toNat (IntKind.wrap .i64 (((n2 : Nat)) + ((n6 : Nat)))) - Int.toNat (0)) (c3 - Int.toNat (0)))) rfl ?_)
     refine Run.go rfl rfl rfl (sem_assign ((Value.slice (if c3 = Int.toNat (0) then a1 else Option.map (·.add (Int.toNat (0) * 3)) a1) (Int.toNat (IntKind.wrap .i64 (((n2 : Nat)) + ((n6 : Nat)))) - Int.toNat (0)) (c3 - Int.toNat (0)))) rfl ?_)
     refine Run.region_end ?_
     refine Run.ret ⟨.inr rfl, ?_⟩
     exact hS.imp fun h' hq => ⟨(if c3 = Int.toNat (0) then a1 else Option.map (·.add (Int.toNat (0) * 3)) a1), (Int.toNat (IntKind.wrap .i64 (((n2 : Nat)) + ((n6 : Nat)))) - Int.toNat (0)), (c3 - Int.toNat (0)), rfl, hq⟩
    ·have hS := hT rfl; clear hT hF
     refine Run.go rfl rfl rfl (sem_not true rfl ?_)
     refine Run.region_end ?_
     refine Run.condF rfl ?_
     refine Run.skip ?_
     refine Run.seq ?_
     refine Run.ops0 (idx := [0, 1, 2, 3, 4]) rfl ?_
     refine Run.go rfl rfl rfl (sem_move ((Value.slice (if c3 = Int.toNat (0) then a1 else Option.map (·.add (Int.toNat (0) * 3)) a1) (Int.toNat (IntKind.wrap .i64 (((n2 : Nat)) + ((n6 : Nat)))) - Int.toNat (0)) (c3 - Int.toNat (0)))) rfl ?_)
     refine Run.go rfl rfl rfl (sem_move ((Value.int .i64 ((n2 : Nat)))) rfl ?_)
     obtain ⟨hi0, hi1, hi2, hS⟩ := hS
     refine Run.go rfl rfl rfl (sem_sliceSlI (if c3 = Int.toNat (0) then a1 else Option.map (·.add (Int.toNat (0) * 3)) a1) (Int.toNat (IntKind.wrap .i64 (((n2 : Nat)) + ((n6 : Nat)))) - Int.toNat (0)) (c3 - Int.toNat (0)) ((n2 : Nat)) (((Int.toNat (IntKind.wrap .i64 (((n2 : Nat)) + ((n6 : Nat)))) - Int.toNat (0)) : Nat)) rfl TF.slc_158 ⟨_, rfl⟩ rfl hi0 hi1 hi2 ?_)
     refine Run.go rfl rfl rfl (sem_move ((Value.slice a5 n6 c7)) rfl ?_)
     refine Run.go rfl rfl rfl (sem_copyL [(Value.slice (if (c3 - Int.toNat (0)) = Int.toNat ((n2 : Nat)) then (if c3 = Int.toNat (0) then a1 else Option.map (·.add (Int.toNat (0) * 3)) a1) else Option.map (·.add (Int.toNat ((n2 : Nat)) * 3)) (if c3 = Int.toNat (0) then a1 else Option.map (·.add (Int.toNat (0) * 3)) a1)) (Int.toNat (((Int.toNat (IntKind.wrap .i64 (((n2 : Nat)) + ((n6 : Nat)))) - Int.toNat (0)) : Nat)) - Int.toNat ((n2 : Nat))) ((c3 - Int.toNat (0)) - Int.toNat ((n2 : Nat)))), (Value.slice a5 n6 c7)] rfl (semH_mono (fun v h32 hv => ?_) hS))
     obtain ⟨i33, rfl, hS⟩ := hv
     refine Run.region_end ?_
     refine Run.seq ?_
     refine Run.ops0 (idx := [0, 1, 2, 3, 4]) rfl ?_
     refine Run.go rfl rfl rfl (sem_move ((Value.slice (if c3 = Int.toNat (0) then a1 else Option.map (·.add (Int.toNat (0) * 3)) a1) (Int.toNat (IntKind.wrap .i64 (((n2 : Nat)) + ((n6 : Nat)))) - Int.toNat (0)) (c3 - Int.toNat (0)))) rfl ?_)
     refine Run.go rfl rfl rfl (sem_move ((Value.int .i64 (i4))) rfl ?_)
     obtain ⟨hi0, hi1, hi2, hS⟩ := hS
     refine Run.go rfl rfl rfl (sem_sliceSlI (if c3 = Int.toNat (0) then a1 else Option.map (·.add (Int.toNat (0) * 3)) a1) (Int.toNat (IntKind.wrap .i64 (((n2 : Nat)) + ((n6 : Nat)))) - Int.toNat (0)) (c3 - Int.toNat (0)) (i4) (((Int.toNat (IntKind.wrap .i64 (((n2 : Nat)) + ((n6 : Nat)))) - Int.toNat (0)) : Nat)) rfl TF.slc_158 ⟨_, rfl⟩ rfl hi0 hi1 hi2 ?_)
     refine Run.go rfl rfl rfl (sem_move ((Value.int .i64 ((n6 : Nat)))) rfl ?_)
     refine Run.go rfl rfl rfl (sem_callL [(Value.slice (if (c3 - Int.toNat (0)) = Int.toNat (i4) then (if c3 = Int.toNat (0) then a1 else Option.map (·.add (Int.toNat (0) * 3)) a1) else Option.map (·.add (Int.toNat (i4) * 3)) (if c3 = Int.toNat (0) then a1 else Option.map (·.add (Int.toNat (0) * 3)) a1)) (Int.toNat (((Int.toNat (IntKind.wrap .i64 (((n2 : Nat)) + ((n6 : Nat)))) - Int.toNat (0)) : Nat)) - Int.toNat (i4)) ((c3 - Int.toNat (0)) - Int.toNat (i4))), (Value.int .i64 ((n6 : Nat)))] (TF.goes_148) rfl rfl (Spec.mono hS fun v h34 hv => ?_))
     obtain ⟨rfl, hS⟩ := hv
     refine Run.region_end ?_
     refine Run.seq ?_
     refine Run.ops0 (idx := [0, 1]) rfl ?_
     refine Run.go rfl rfl rfl (sem_move ((Value.slice (if c3 = Int.toNat (0) then a1 else Option.map (·.add (Int.toNat (0) * 3)) a1) (Int.toNat (IntKind.wrap .i64 (((n2 : Nat)) + ((n6 : Nat)))) - Int.toNat (0)) (c3 - Int.toNat (0)))) rfl ?_)
     refine Run.go rfl rfl rfl (sem_assign ((Value.slice (if c3 = Int.toNat (0) then a1 else Option.map (·.add (Int.toNat (0) * 3)) a1) (Int.toNat (IntKind.wrap .i64 (((n2 : Nat)) + ((n6 : Nat)))) - Int.toNat (0)) (c3 - Int.toNat (0)))) rfl ?_)
     refine Run.region_end ?_
     refine Run.ret ⟨.inr rfl, ?_⟩
     exact hS.imp fun h' hq => ⟨(if c3 = Int.toNat (0) then a1 else Option.map (·.add (Int.toNat (0) * 3)) a1), (Int.toNat (IntKind.wrap .i64 (((n2 : Nat)) + ((n6 : Nat)))) - Int.toNat (0)), (c3 - Int.toNat (0)), rfl, hq⟩
set_option maxHeartbeats 4000000 in
theorem C_slices_BinarySearchFunc_s_draft_entry_file_File_draft_entry_file_File_int.of {B : RO} {a1 : Option Addr} {n2 : Nat} {c3 : Nat} {i4 : Int} {v5 : Value} {h : Heap} {Q : Int → Bool → Heap → Prop} (hS : S_slices_BinarySearchFunc_s_draft_entry_file_File_draft_entry_file_File_int B a1 n2 c3 i4 v5 h Q) : C_slices_BinarySearchFunc_s_draft_entry_file_File_draft_entry_file_File_int B a1 n2 c3 i4 v5 h Q := by
 unfold S_slices_BinarySearchFunc_s_draft_entry_file_File_draft_entry_file_File_int at hS
 unfold C_slices_BinarySearchFunc_s_draft_entry_file_File_draft_entry_file_File_int
 refine Spec.of_run Try.func126 (N := 49) (rs := [ResultVar.tmp 6, ResultVar.tmp 7]) rfl rfl rfl (Nat.le_of_ble_eq_true rfl) ?_
 refine Run.seq ?_
 refine Run.ops0 (idx := [0, 1]) rfl ?_
 refine Run.go rfl rfl rfl (sem_assign ((Value.int .i64 (0))) rfl ?_)
 refine Run.go rfl rfl rfl (sem_assign ((Value.bool false)) rfl ?_)
 refine Run.region_end ?_
 refine Run.seq ?_
 refine Run.ops0 (idx := [0, 1, 2]) rfl ?_
 refine Run.go rfl rfl rfl (sem_move ((Value.slice a1 n2 c3)) rfl ?_)
 refine Run.go rfl rfl rfl (sem_lenSl a1 n2 c3 rfl TF.sl_158 ?_)
 refine Run.go rfl rfl rfl (sem_assign ((Value.int .i64 ((n2 : Nat)))) rfl ?_)
 refine Run.region_end ?_
 refine Run.seq ?_
 refine Run.ops0 (idx := [0, 1, 2]) rfl ?_
 refine Run.go rfl rfl rfl (sem_move ((Value.int .i64 ((n2 : Nat)))) rfl ?_)
 refine Run.go rfl rfl rfl (sem_assign ((Value.int .i64 (0))) rfl ?_)
 refine Run.go rfl rfl rfl (sem_assign ((Value.int .i64 ((n2 : Nat)))) rfl ?_)
 refine Run.region_end ?_
 refine Run.seqJ (fun e h10 => ∃ i9 : Int, Agree [(0, (Value.slice a1 n2 c3)), (1, (Value.int .i64 (i4))), (2, v5), (8, (Value.int .i64 ((n2 : Nat)))), (9, (Value.int .i64 (i9)))] e ∧ S_slices_BinarySearchFunc_s_draft_entry_file_File_draft_entry_file_File_int_J1 B a1 n2 c3 i4 v5 i9 h10 Q) ?_ fun j8 => ?_
 ·rintro e h10 ⟨i9, hag, hS⟩
  refine Run.env hag ?_; clear hag
  refine Run.seq ?_
  refine Run.ops0 (idx := [0, 1, 2, 3, 4, 5, 6, 7, 8, 9, 10, 11, 12, 13, 14, 15]) rfl ?_
  refine Run.go rfl rfl rfl (sem_move ((Value.int .i64 (i9))) rfl ?_)
  refine Run.go rfl rfl rfl (sem_move ((Value.int .i64 (i9))) rfl ?_)
  refine Run.go rfl rfl rfl (sem_move ((Value.int .i64 ((n2 : Nat)))) rfl ?_)
  obtain ⟨hT, hF⟩ := hS
  by_cases hb11 : (i9 : Int) < ((n2 : Nat))
  ·have hS := hT hb11; clear hT hF
   refine Run.go rfl rfl rfl (sem_binI .i64 (i9) ((n2 : Nat)) (.bool true) rfl rfl (binI_lss_t hb11) ?_)
   refine Run.go rfl rfl rfl (sem_move ((Value.bool true)) rfl ?_)
   refine Run.go rfl rfl rfl (sem_move (v5) rfl ?_)
   refine Run.go rfl rfl rfl (sem_move ((Value.slice a1 n2 c3)) rfl ?_)
   refine Run.go rfl rfl rfl (sem_move ((Value.int .i64 (i9))) rfl ?_)
   obtain ⟨A12, e13, hi0, hi1, hS⟩ := hS
   refine Run.go rfl rfl rfl (sem_indexAddrS A12 n2 c3 .i64 (i9) (congrArg (fun a => Value.slice a n2 c3) e13) rfl TF.slc_158 hi0 hi1 ?_)
   obtain ⟨i14, b15, s16, hl, hS⟩ := hS
   refine Run.go rfl rfl rfl (sem_loadN (Addr.add A12 (Int.toNat (i9) * 3)) [(Value.int .i64 (i14)), (Value.bool b15), (Value.string s16)] rfl TF.agg_162 TF.sz_162 hl ?_)
   refine Run.go rfl rfl rfl (sem_move ((Value.int .i64 (i4))) rfl ?_)
   refine Run.go rfl rfl rfl (sem_callV (v5) [(Value.agg #[(Value.int .i64 (i14)), (Value.bool b15), (Value.string s16)]), (Value.int .i64 (i4))] rfl rfl hS (fun nx h' ha => ha.mono fun v h17 hv => ?_))
   obtain ⟨i18, rfl, hS⟩ := hv
   refine Run.go rfl rfl rfl (sem_binI .i64 (i18) (0) ((Value.bool ((i18 : Int) == (0)))) rfl rfl rfl ?_)
   refine Run.go rfl rfl rfl (sem_pick true ((Value.bool ((i18 : Int) == (0)))) rfl rfl ?_)
   refine Run.go rfl rfl rfl (sem_assign ((Value.int .i64 (i9))) rfl ?_)
   refine Run.go rfl rfl rfl (sem_assign ((Value.bool ((i18 : Int) == (0)))) rfl ?_)
   refine Run.region_end ?_
   refine Run.ret ⟨.inr rfl, ?_⟩
   exact hS.imp fun h' hq => ⟨(i9), (((i18 : Int) == (0))), rfl, hq⟩
  ·have hS := hF hb11; clear hT hF
   refine Run.go rfl rfl rfl (sem_binI .i64 (i9) ((n2 : Nat)) (.bool false) rfl rfl (binI_lss_f hb11) ?_)
   refine Run.go rfl rfl rfl (sem_move ((Value.bool false)) rfl ?_)
   refine Run.no rfl rfl rfl ?_
   refine Run.no rfl rfl rfl ?_
   refine Run.no rfl rfl rfl ?_
   refine Run.no rfl rfl rfl ?_
   refine Run.no rfl rfl rfl ?_
   refine Run.no rfl rfl rfl ?_
   refine Run.no rfl rfl rfl ?_
   refine Run.no rfl rfl rfl ?_
   refine Run.go rfl rfl rfl (sem_pick false ((Value.bool false)) rfl rfl ?_)
   refine Run.go rfl rfl rfl (sem_assign ((Value.int .i64 (i9))) rfl ?_)
   refine Run.go rfl rfl rfl (sem_assign ((Value.bool false)) rfl ?_)
   refine Run.region_end ?_
   refine Run.ret ⟨.inr rfl, ?_⟩
   exact hS.imp fun h' hq => ⟨(i9), (false), rfl, hq⟩
 refine Run.block ?_
 obtain ⟨J25, m23, h0, hS⟩ := hS
 refine Run.of_fin (h0.imp fun h' h0 => ?_)
 refine Run.loop (σ := Int × Int × Nat) (fun x e h => J25 x.1 x.2.1 x.2.2 h ∧ Agree [(0, (Value.slice a1 n2 c3)), (1, (Value.int .i64 (i4))), (2, v5), (8, (Value.int .i64 ((n2 : Nat)))), (9, (Value.int .i64 (x.1))), (10, (Value.int .i64 (x.2.1)))] e) (fun x => x.2.2) ((0), ((n2 : Nat)), m23) ⟨h0, ⟨rfl, rfl, rfl, rfl, rfl, rfl, trivial⟩⟩ ?_; clear h0
 rintro ⟨i19, i20, m22⟩ e h21 ⟨hJ, hag⟩ ih24
 have hS := hS i19 i20 m22 h21 hJ; clear hJ
 refine Run.env hag ?_; clear hag
 refine Run.seq ?_
 refine Run.seq ?_
 refine Run.ops0 (idx := [0, 1, 2]) rfl ?_
 refine Run.go rfl rfl rfl (sem_move ((Value.int .i64 (i19))) rfl ?_)
 refine Run.go rfl rfl rfl (sem_move ((Value.int .i64 (i20))) rfl ?_)
 obtain ⟨hT, hF⟩ := hS
 by_cases hb26 : (i19 : Int) < (i20)
 ·have hS := hT hb26; clear hT hF
  refine Run.go rfl rfl rfl (sem_binI .i64 (i19) (i20) (.bool true) rfl rfl (binI_lss_t hb26) ?_)
  refine Run.region_end ?_
  refine Run.condT rfl ?_
  refine Run.skip ?_
  refine Run.block ?_
  refine Run.seq ?_
  refine Run.ops0 (idx := [0, 1, 2, 3, 4, 5, 6]) rfl ?_
  refine Run.go rfl rfl rfl (sem_move ((Value.int .i64 (i19))) rfl ?_)
  refine Run.go rfl rfl rfl (sem_move ((Value.int .i64 (i20))) rfl ?_)
  refine Run.go rfl rfl rfl (sem_binI .i64 (i19) (i20) ((Value.int .i64 (IntKind.wrap .i64 ((i19) + (i20))))) rfl rfl rfl ?_)
  refine Run.go rfl rfl rfl (sem_convI .i64 .u64 (IntKind.wrap .i64 ((i19) + (i20))) rfl TF.int_3 TF.int_57 ?_)
  obtain ⟨hi0, hS⟩ := hS
  refine Run.go rfl rfl rfl (sem_shr .u64 .u64 (IntKind.wrap .u64 (IntKind.wrap .i64 ((i19) + (i20)))) (1) rfl rfl hi0 ?_)
  refine Run.go rfl rfl rfl (sem_convI .u64 .i64 (Int.fdiv (IntKind.wrap .u64 (IntKind.wrap .i64 ((i19) + (i20)))) (2 ^ (min (Int.toNat (1)) (IntKind.bits .u64)))) rfl TF.int_57 TF.int_3 ?_)
  refine Run.go rfl rfl rfl (sem_assign ((Value.int .i64 (IntKind.wrap .i64 (Int.fdiv (IntKind.wrap .u64 (IntKind.wrap .i64 ((i19) + (i20)))) (2 ^ (min (Int.toNat (1)) (IntKind.bits .u64))))))) rfl ?_)
  refine Run.region_end ?_
  refine Run.seq ?_
  refine Run.ops0 (idx := [0, 1, 2, 3, 4, 5, 6, 7]) rfl ?_
  refine Run.go rfl rfl rfl (sem_move (v5) rfl ?_)
  refine Run.go rfl rfl rfl (sem_move ((Value.slice a1 n2 c3)) rfl ?_)
  refine Run.go rfl rfl rfl (sem_move ((Value.int .i64 (IntKind.wrap .i64 (Int.fdiv (IntKind.wrap .u64 (IntKind.wrap .i64 ((i19) + (i20)))) (2 ^ (min (Int.toNat (1)) (IntKind.bits .u64))))))) rfl ?_)
  obtain ⟨A27, e28, hi0, hi1, hS⟩ := hS
  refine Run.go rfl rfl rfl (sem_indexAddrS A27 n2 c3 .i64 (IntKind.wrap .i64 (Int.fdiv (IntKind.wrap .u64 (IntKind.wrap .i64 ((i19) + (i20)))) (2 ^ (min (Int.toNat (1)) (IntKind.bits .u64))))) (congrArg (fun a => Value.slice a n2 c3) e28) rfl TF.slc_158 hi0 hi1 ?_)
  obtain ⟨i29, b30, s31, hl, hS⟩ := hS
  refine Run.go rfl rfl rfl (sem_loadN (Addr.add A27 (Int.toNat (IntKind.wrap .i64 (Int.fdiv (IntKind.wrap .u64 (IntKind.wrap .i64 ((i19) + (i20)))) (2 ^ (min (Int.toNat (1)) (IntKind.bits .u64))))) * 3)) [(Value.int .i64 (i29)), (Value.bool b30), (Value.string s31)] rfl TF.agg_162 TF.sz_162 hl ?_)
  refine Run.go rfl rfl rfl (sem_move ((Value.int .i64 (i4))) rfl ?_)
  refine Run.go rfl rfl rfl (sem_callV (v5) [(Value.agg #[(Value.int .i64 (i29)), (Value.bool b30), (Value.string s31)]), (Value.int .i64 (i4))] rfl rfl hS (fun nx h' ha => ha.mono fun v h32 hv => ?_))
  obtain ⟨i33, rfl, hS⟩ := hv
  obtain ⟨hT, hF⟩ := hS
  by_cases hb34 : (i33 : Int) < (0)
  ·have hS := hT hb34; clear hT hF
   refine Run.go rfl rfl rfl (sem_binI .i64 (i33) (0) (.bool true) rfl rfl (binI_lss_t hb34) ?_)
   refine Run.region_end ?_
   refine Run.condT rfl ?_
   refine Run.ops0 (idx := [0, 1, 2]) rfl ?_
   refine Run.go rfl rfl rfl (sem_move ((Value.int .i64 (IntKind.wrap .i64 (Int.fdiv (IntKind.wrap .u64 (IntKind.wrap .i64 ((i19) + (i20)))) (2 ^ (min (Int.toNat (1)) (IntKind.bits .u64))))))) rfl ?_)
   refine Run.go rfl rfl rfl (sem_binI .i64 (IntKind.wrap .i64 (Int.fdiv (IntKind.wrap .u64 (IntKind.wrap .i64 ((i19) + (i20)))) (2 ^ (min (Int.toNat (1)) (IntKind.bits .u64))))) (1) ((Value.int .i64 (IntKind.wrap .i64 ((IntKind.wrap .i64 (Int.fdiv (IntKind.wrap .u64 (IntKind.wrap .i64 ((i19) + (i20)))) (2 ^ (min (Int.toNat (1)) (IntKind.bits .u64))))) + (1))))) rfl rfl rfl ?_)
   refine Run.go rfl rfl rfl (sem_assign ((Value.int .i64 (IntKind.wrap .i64 ((IntKind.wrap .i64 (Int.fdiv (IntKind.wrap .u64 (IntKind.wrap .i64 ((i19) + (i20)))) (2 ^ (min (Int.toNat (1)) (IntKind.bits .u64))))) + (1))))) rfl ?_)
   refine Run.region_end ?_
   refine Run.inBlock ?_
   exact Run.of_fin (hS.imp fun h' ⟨m', hm, hS⟩ => ih24 ((IntKind.wrap .i64 ((IntKind.wrap .i64 (Int.fdiv (IntKind.wrap .u64 (IntKind.wrap .i64 ((i19) + (i20)))) (2 ^ (min (Int.toNat (1)) (IntKind.bits .u64))))) + (1))), (i20), m') _ _ ⟨hS, ⟨rfl, rfl, rfl, rfl, rfl, rfl, trivial⟩⟩ hm)
  ·have hS := hF hb34; clear hT hF
   refine Run.go rfl rfl rfl (sem_binI .i64 (i33) (0) (.bool false) rfl rfl (binI_lss_f hb34) ?_)
   refine Run.region_end ?_
   refine Run.condF rfl ?_
   refine Run.ops0 (idx := [0, 1]) rfl ?_
   refine Run.go rfl rfl rfl (sem_move ((Value.int .i64 (IntKind.wrap .i64 (Int.fdiv (IntKind.wrap .u64 (IntKind.wrap .i64 ((i19) + (i20)))) (2 ^ (min (Int.toNat (1)) (IntKind.bits .u64))))))) rfl ?_)
   refine Run.go rfl rfl rfl (sem_assign ((Value.int .i64 (IntKind.wrap .i64 (Int.fdiv (IntKind.wrap .u64 (IntKind.wrap .i64 ((i19) + (i20)))) (2 ^ (min (Int.toNat (1)) (IntKind.bits .u64))))))) rfl ?_)
   refine Run.region_end ?_
   refine Run.inBlock ?_
   exact Run.of_fin (hS.imp fun h' ⟨m', hm, hS⟩ => ih24 ((i19), (IntKind.wrap .i64 (Int.fdiv (IntKind.wrap .u64 (IntKind.wrap .i64 ((i19) + (i20)))) (2 ^ (min (Int.toNat (1)) (IntKind.bits .u64))))), m') _ _ ⟨hS, ⟨rfl, rfl, rfl, rfl, rfl, rfl, trivial⟩⟩ hm)
 ·have hS := hF hb26; clear hT hF
  refine Run.go rfl rfl rfl (sem_binI .i64 (i19) (i20) (.bool false) rfl rfl (binI_lss_f hb26) ?_)
  refine Run.region_end ?_
  refine Run.condF rfl ?_
  refine Run.exit rfl ?_
  exact Run.of_fin (hS.imp fun h' hS => j8 _ _ ⟨(i19), ⟨rfl, rfl, rfl, rfl, rfl, trivial⟩, hS⟩)
set_option maxHeartbeats 4000000 in
theorem C_draft_by_file_File.of {B : RO} {i1 : Int} {b2 : Bool} {s3 : ByteArray} {i4 : Int} {h : Heap} {Q : Int → Heap → Prop} (hS : S_draft_by_file_File B i1 b2 s3 i4 h Q) : C_draft_by_file_File B i1 b2 s3 i4 h Q := by
 unfold S_draft_by_file_File at hS
 unfold C_draft_by_file_File
 refine Spec.of_run Try.func127 (N := 15) (rs := [ResultVar.tmp 4]) rfl rfl rfl (Nat.le_of_ble_eq_true rfl) ?_
 refine Run.seq ?_
 refine Run.ops0 (idx := [0, 1]) rfl ?_
 refine Run.go rfl rfl rfl (sem_boxNN [(Value.int .i64 (i1)), (Value.bool b2), (Value.string s3)] rfl (fun k6 hb1 hb2 h7 hb3 => ?_))
 have hS := hS k6 hb1 hb2 h7 hb3
 refine Run.go rfl rfl rfl (sem_assign ((Value.int .i64 (0))) rfl ?_)
 refine Run.region_end ?_
 refine Run.seq ?_
 refine Run.block ?_
 refine Run.seq ?_
 refine Run.ops0 (idx := [0, 1, 2, 3, 4]) rfl ?_
 refine Run.go rfl rfl rfl (sem_fieldAddr ⟨k6, 0, none⟩ 0 rfl TF.fld_162_0 ?_)
 obtain ⟨i8, hl, hS⟩ := hS
 refine Run.go rfl rfl rfl (sem_load1 ⟨k6, 0, none⟩ ((Value.int .i64 (i8))) rfl TF.agg_3 hl ?_)
 refine Run.go rfl rfl rfl (sem_move ((Value.int .i64 (i4))) rfl ?_)
 obtain ⟨hT, hF⟩ := hS
 by_cases hb9 : (i8 : Int) < (i4)
 ·have hS := hT hb9; clear hT hF
  refine Run.go rfl rfl rfl (sem_binI .i64 (i8) (i4) (.bool true) rfl rfl (binI_lss_t hb9) ?_)
  refine Run.go rfl rfl rfl (sem_assign ((Value.bool true)) rfl ?_)
  refine Run.region_end ?_
  refine Run.condT rfl ?_
  refine Run.seq ?_
  refine Run.ops0 (idx := [0]) rfl ?_
  refine Run.go rfl rfl rfl (sem_assign ((Value.int .i64 ((-1)))) rfl ?_)
  refine Run.region_end ?_
  refine Run.ret ⟨.inr rfl, ?_⟩
  exact hS.imp fun h' hq => ⟨((-1)), rfl, hq⟩
 ·have hS := hF hb9; clear hT hF
  refine Run.go rfl rfl rfl (sem_binI .i64 (i8) (i4) (.bool false) rfl rfl (binI_lss_f hb9) ?_)
  refine Run.go rfl rfl rfl (sem_assign ((Value.bool false)) rfl ?_)
  refine Run.region_end ?_
  refine Run.condF rfl ?_
  refine Run.seq ?_
  refine Run.ops0 (idx := [0, 1, 2, 3, 4]) rfl ?_
  refine Run.go rfl rfl rfl (sem_fieldAddr ⟨k6, 0, none⟩ 0 rfl TF.fld_162_0 ?_)
  obtain ⟨i10, hl, hS⟩ := hS
  refine Run.go rfl rfl rfl (sem_load1 ⟨k6, 0, none⟩ ((Value.int .i64 (i10))) rfl TF.agg_3 hl ?_)
  refine Run.go rfl rfl rfl (sem_move ((Value.int .i64 (i4))) rfl ?_)
  obtain ⟨hT, hF⟩ := hS
  by_cases hb11 : (i10 : Int) > (i4)
  ·have hS := hT hb11; clear hT hF
   refine Run.go rfl rfl rfl (sem_binI .i64 (i10) (i4) (.bool true) rfl rfl (binI_gtr_t hb11) ?_)
   refine Run.go rfl rfl rfl (sem_assign ((Value.bool true)) rfl ?_)
   refine Run.region_end ?_
   refine Run.condT rfl ?_
   refine Run.seq ?_
   refine Run.ops0 (idx := [0]) rfl ?_
   refine Run.go rfl rfl rfl (sem_assign ((Value.int .i64 (1))) rfl ?_)
   refine Run.region_end ?_
   refine Run.ret ⟨.inr rfl, ?_⟩
   exact hS.imp fun h' hq => ⟨(1), rfl, hq⟩
  ·have hS := hF hb11; clear hT hF
   refine Run.go rfl rfl rfl (sem_binI .i64 (i10) (i4) (.bool false) rfl rfl (binI_gtr_f hb11) ?_)
   refine Run.go rfl rfl rfl (sem_assign ((Value.bool false)) rfl ?_)
   refine Run.region_end ?_
   refine Run.condF rfl ?_
   refine Run.skip ?_
   refine Run.inBlock ?_
   refine Run.seq ?_
   refine Run.ops0 (idx := [0]) rfl ?_
   refine Run.go rfl rfl rfl (sem_assign ((Value.int .i64 (0))) rfl ?_)
   refine Run.region_end ?_
   refine Run.ret ⟨.inr rfl, ?_⟩
   exact hS.imp fun h' hq => ⟨(0), rfl, hq⟩
set_option maxHeartbeats 4000000 in
theorem C_slices_Reverse_s_draft_entry_int_draft_entry_int.of {B : RO} {a1 : Option Addr} {n2 : Nat} {c3 : Nat} {h : Heap} {Q : Heap → Prop} (hS : S_slices_Reverse_s_draft_entry_int_draft_entry_int B a1 n2 c3 h Q) : C_slices_Reverse_s_draft_entry_int_draft_entry_int B a1 n2 c3 h Q := by
 unfold S_slices_Reverse_s_draft_entry_int_draft_entry_int at hS
 unfold C_slices_Reverse_s_draft_entry_int_draft_entry_int
 refine Spec.of_run Try.func146 (N := 28) (rs := []) rfl rfl rfl (Nat.le_of_ble_eq_true rfl) ?_
 refine Run.seq ?_
 refine Run.ops0 (idx := [0, 1, 2, 3, 4]) rfl ?_
 refine Run.go rfl rfl rfl (sem_move ((Value.slice a1 n2 c3)) rfl ?_)
 refine Run.go rfl rfl rfl (sem_lenSl a1 n2 c3 rfl TF.sl_114 ?_)
 refine Run.go rfl rfl rfl (sem_binI .i64 ((n2 : Nat)) (1) ((Value.int .i64 (IntKind.wrap .i64 (((n2 : Nat)) - (1))))) rfl rfl rfl ?_)
 refine Run.go rfl rfl rfl (sem_assign ((Value.int .i64 (0))) rfl ?_)
 refine Run.go rfl rfl rfl (sem_assign ((Value.int .i64 (IntKind.wrap .i64 (((n2 : Nat)) - (1))))) rfl ?_)
 refine Run.region_end ?_
 refine Run.block ?_
 obtain ⟨J10, m8, h0, hS⟩ := hS
 refine Run.of_fin (h0.imp fun h' h0 => ?_)
 refine Run.loop (σ := Int × Int × Nat) (fun x e h => J10 x.1 x.2.1 x.2.2 h ∧ Agree [(0, (Value.slice a1 n2 c3)), (2, (Value.int .i64 (x.1))), (3, (Value.int .i64 (x.2.1)))] e) (fun x => x.2.2) ((0), (IntKind.wrap .i64 (((n2 : Nat)) - (1))), m8) ⟨h0, ⟨rfl, rfl, rfl, trivial⟩⟩ ?_; clear h0
 rintro ⟨i4, i5, m7⟩ e h6 ⟨hJ, hag⟩ ih9
 have hS := hS i4 i5 m7 h6 hJ; clear hJ
 refine Run.env hag ?_; clear hag
 refine Run.seq ?_
 refine Run.seq ?_
 refine Run.ops0 (idx := [0, 1, 2]) rfl ?_
 refine Run.go rfl rfl rfl (sem_move ((Value.int .i64 (i4))) rfl ?_)
 refine Run.go rfl rfl rfl (sem_move ((Value.int .i64 (i5))) rfl ?_)
 obtain ⟨hT, hF⟩ := hS
 by_cases hb11 : (i4 : Int) < (i5)
 ·have hS := hT hb11; clear hT hF
  refine Run.go rfl rfl rfl (sem_binI .i64 (i4) (i5) (.bool true) rfl rfl (binI_lss_t hb11) ?_)
  refine Run.region_end ?_
  refine Run.condT rfl ?_
  refine Run.skip ?_
  refine Run.seq ?_
  refine Run.block ?_
  skip
  skip
  skip
  skip
  skip
  skip
  obtain ⟨A18, e19, hi0, hi1, hS⟩ := hS
  have f21 := hi0; have f22 := hi1
  obtain ⟨i23, i24, hl, hS⟩ := hS
  have f25 := hl
  skip
  skip
  obtain ⟨A28, e29, hi0, hi1, hS⟩ := hS
  have f31 := hi0; have f32 := hi1
  obtain ⟨i33, i34, hl, hS⟩ := hS
  have f35 := hl
  obtain ⟨A36, e37, hi0, hi1, hS⟩ := hS
  have f39 := hi0; have f40 := hi1
  refine Run.drawM (fun h' => CellsAt B h' (Addr.add A18 (Int.toNat (i5) * 2)) 0 [(Value.int .i64 (i23)), (Value.int .i64 (i24))] ∧ CellsAt B h' (Addr.add A28 (Int.toNat (i4) * 2)) 0 [(Value.int .i64 (i33)), (Value.int .i64 (i34))] ∧ True) [15] ⟨[0, 0, 0, 0, 0, 0, 48, 64, 0, 0, 768, 1024, 2291, 6387, 16383, 32767], [65535, 65535, 65535, 65535, 65535, 65535, 65487, 65471, 65535, 65535, 64767, 64511, 65532, 61311, 65523, 47103], [0, 0, 0, 0, 0, 0, 48, 112, 0, 0, 768, 1792, 4083, 8179, 16383, 32767], 32768⟩ (.q 0 (.q 1 (.q 2 (.q 3 (.q 4 (.q 5 (.q 6 (.q 7 (.q 8 (.q 9 (.q 10 (.q 11 (.q 12 (.x 13 (.q 14 (.x 15 .nil .no)) .no)))))))))))))) TF.mixed (by kernel_rfl) ⟨f25, f35, trivial⟩ ?_
  refine RunT.quiet rfl rfl rfl (fun h' hC => sem_move ((Value.slice a1 n2 c3)) rfl ⟨rfl, rfl⟩) ?_
  refine RunT.quiet rfl rfl rfl (fun h' hC => sem_move ((Value.int .i64 (i4))) rfl ⟨rfl, rfl⟩) ?_
  refine RunT.quiet rfl rfl rfl (fun h' hC => sem_move ((Value.slice a1 n2 c3)) rfl ⟨rfl, rfl⟩) ?_
  refine RunT.quiet rfl rfl rfl (fun h' hC => sem_move ((Value.int .i64 (i5))) rfl ⟨rfl, rfl⟩) ?_
  refine RunT.quiet rfl rfl rfl (fun h' hC => sem_move ((Value.slice a1 n2 c3)) rfl ⟨rfl, rfl⟩) ?_
  refine RunT.quiet rfl rfl rfl (fun h' hC => sem_move ((Value.int .i64 (i5))) rfl ⟨rfl, rfl⟩) ?_
  refine RunT.quiet rfl rfl rfl (fun h' hC => sem_indexAddrS A18 n2 c3 .i64 (i5) (congrArg (fun a => Value.slice a n2 c3) e19) rfl TF.slc_114 f21 f22 ⟨rfl, rfl⟩) ?_
  refine RunT.quiet rfl rfl rfl (fun h' hC => sem_loadN (Addr.add A18 (Int.toNat (i5) * 2)) [(Value.int .i64 (i23)), (Value.int .i64 (i24))] rfl TF.agg_121 TF.sz_121 hC.1 ⟨rfl, rfl⟩) ?_
  refine RunT.quiet rfl rfl rfl (fun h' hC => sem_move ((Value.slice a1 n2 c3)) rfl ⟨rfl, rfl⟩) ?_
  refine RunT.quiet rfl rfl rfl (fun h' hC => sem_move ((Value.int .i64 (i4))) rfl ⟨rfl, rfl⟩) ?_
  refine RunT.quiet rfl rfl rfl (fun h' hC => sem_indexAddrS A28 n2 c3 .i64 (i4) (congrArg (fun a => Value.slice a n2 c3) e29) rfl TF.slc_114 f31 f32 ⟨rfl, rfl⟩) ?_
  refine RunT.quiet rfl rfl rfl (fun h' hC => sem_loadN (Addr.add A28 (Int.toNat (i4) * 2)) [(Value.int .i64 (i33)), (Value.int .i64 (i34))] rfl TF.agg_121 TF.sz_121 hC.2.1 ⟨rfl, rfl⟩) ?_
  refine RunT.quiet rfl rfl rfl (fun h' hC => sem_indexAddrS A36 n2 c3 .i64 (i4) (congrArg (fun a => Value.slice a n2 c3) e37) rfl TF.slc_114 f39 f40 ⟨rfl, rfl⟩) ?_
  refine ⟨?_, trivial⟩
  obtain ⟨h41, hst, hS⟩ := hS
  refine OpH.go rfl rfl rfl (sem_storeN (Addr.add A36 (Int.toNat (i4) * 2)) [(Value.int .i64 (i23)), (Value.int .i64 (i24))] h41 rfl rfl TF.sz_121 hst ?_)
  obtain ⟨g42, g43, hS⟩ := hS
  refine ⟨fun _ => ⟨g42, g43, trivial⟩, ?_⟩
  obtain ⟨A44, e45, hi0, hi1, hS⟩ := hS
  refine RunT.quiet rfl rfl rfl (fun h' hC => sem_indexAddrS A44 n2 c3 .i64 (i5) (congrArg (fun a => Value.slice a n2 c3) e45) rfl TF.slc_114 hi0 hi1 ⟨rfl, rfl⟩) ?_
  refine ⟨?_, trivial⟩
  obtain ⟨h46, hst, hS⟩ := hS
  refine OpH.go rfl rfl rfl (sem_storeN (Addr.add A44 (Int.toNat (i5) * 2)) [(Value.int .i64 (i33)), (Value.int .i64 (i34))] h46 rfl rfl TF.sz_121 hst ?_)
  refine ⟨fun hz => Bool.noConfusion hz, ?_⟩
  refine Run.inBlock ?_
  refine Run.ops0 (idx := [0, 1, 2, 3, 4, 5]) rfl ?_
  refine Run.go rfl rfl rfl (sem_move ((Value.int .i64 (i4))) rfl ?_)
  refine Run.go rfl rfl rfl (sem_binI .i64 (i4) (1) ((Value.int .i64 (IntKind.wrap .i64 ((i4) + (1))))) rfl rfl rfl ?_)
  refine Run.go rfl rfl rfl (sem_move ((Value.int .i64 (i5))) rfl ?_)
  refine Run.go rfl rfl rfl (sem_binI .i64 (i5) (1) ((Value.int .i64 (IntKind.wrap .i64 ((i5) - (1))))) rfl rfl rfl ?_)
  refine Run.go rfl rfl rfl (sem_assign ((Value.int .i64 (IntKind.wrap .i64 ((i4) + (1))))) rfl ?_)
  refine Run.go rfl rfl rfl (sem_assign ((Value.int .i64 (IntKind.wrap .i64 ((i5) - (1))))) rfl ?_)
  refine Run.region_end ?_
  exact Run.of_fin (hS.imp fun h' ⟨m', hm, hS⟩ => ih9 ((IntKind.wrap .i64 ((i4) + (1))), (IntKind.wrap .i64 ((i5) - (1))), m') _ _ ⟨hS, ⟨rfl, rfl, rfl, trivial⟩⟩ hm)
 ·have hS := hF hb11; clear hT hF
  refine Run.go rfl rfl rfl (sem_binI .i64 (i4) (i5) (.bool false) rfl rfl (binI_lss_f hb11) ?_)
  refine Run.region_end ?_
  refine Run.condF rfl ?_
  refine Run.exit rfl ?_
  refine Run.fall ⟨.inl rfl, ?_⟩
  exact hS.imp fun h' hq => ⟨rfl, hq⟩
set_option maxHeartbeats 4000000 in
theorem C_slices_rotateRight_draft_entry_file_File.of {B : RO} {a1 : Option Addr} {n2 : Nat} {c3 : Nat} {i4 : Int} {h : Heap} {Q : Heap → Prop} (hS : S_slices_rotateRight_draft_entry_file_File B a1 n2 c3 i4 h Q) : C_slices_rotateRight_draft_entry_file_File B a1 n2 c3 i4 h Q := by
 unfold S_slices_rotateRight_draft_entry_file_File at hS
 unfold C_slices_rotateRight_draft_entry_file_File
 refine Spec.of_run Try.func148 (N := 10) (rs := []) rfl rfl rfl (Nat.le_of_ble_eq_true rfl) ?_
 refine Run.ops0 (idx := [0, 1, 2, 3, 4, 5]) rfl ?_
 refine Run.go rfl rfl rfl (sem_move ((Value.slice a1 n2 c3)) rfl ?_)
 refine Run.go rfl rfl rfl (sem_move ((Value.slice a1 n2 c3)) rfl ?_)
 refine Run.go rfl rfl rfl (sem_lenSl a1 n2 c3 rfl TF.sl_158 ?_)
 refine Run.go rfl rfl rfl (sem_move ((Value.int .i64 (i4))) rfl ?_)
 refine Run.go rfl rfl rfl (sem_binI .i64 ((n2 : Nat)) (i4) ((Value.int .i64 (IntKind.wrap .i64 (((n2 : Nat)) - (i4))))) rfl rfl rfl ?_)
 refine Run.go rfl rfl rfl (sem_callL [(Value.slice a1 n2 c3), (Value.int .i64 (IntKind.wrap .i64 (((n2 : Nat)) - (i4))))] (TF.goes_158) rfl rfl (Spec.mono hS fun v h5 hv => ?_))
 obtain ⟨rfl, hS⟩ := hv
 refine Run.region_end ?_
 refine Run.fall ⟨.inl rfl, ?_⟩
 exact hS.imp fun h' hq => ⟨rfl, hq⟩
set_option maxHeartbeats 4000000 in
theorem C_slices_rotateLeft_draft_entry_file_File.of {B : RO} {a1 : Option Addr} {n2 : Nat} {c3 : Nat} {i4 : Int} {h : Heap} {Q : Heap → Prop} (hS : S_slices_rotateLeft_draft_entry_file_File B a1 n2 c3 i4 h Q) : C_slices_rotateLeft_draft_entry_file_File B a1 n2 c3 i4 h Q := by
 unfold S_slices_rotateLeft_draft_entry_file_File at hS
 unfold C_slices_rotateLeft_draft_entry_file_File
 refine Spec.of_run Try.func158 (N := 14) (rs := []) rfl rfl rfl (Nat.le_of_ble_eq_true rfl) ?_
 refine Run.seq ?_
 refine Run.ops0 (idx := [0, 1, 2, 3]) rfl ?_
 refine Run.go rfl rfl rfl (sem_move ((Value.slice a1 n2 c3)) rfl ?_)
 refine Run.go rfl rfl rfl (sem_move ((Value.int .i64 (i4))) rfl ?_)
 obtain ⟨hi0, hi1, hi2, hS⟩ := hS
 refine Run.go rfl rfl rfl (sem_sliceSlI a1 n2 c3 (0) (i4) rfl TF.slc_158 rfl ⟨_, rfl⟩ hi0 hi1 hi2 ?_)
 refine Run.go rfl rfl rfl (sem_callL [(Value.slice (if c3 = Int.toNat (0) then a1 else Option.map (·.add (Int.toNat (0) * 3)) a1) (Int.toNat (i4) - Int.toNat (0)) (c3 - Int.toNat (0)))] (TF.goes_161) rfl rfl (Spec.mono hS fun v h5 hv => ?_))
 obtain ⟨rfl, hS⟩ := hv
 refine Run.region_end ?_
 refine Run.seq ?_
 refine Run.ops0 (idx := [0, 1, 2, 3]) rfl ?_
 refine Run.go rfl rfl rfl (sem_move ((Value.slice a1 n2 c3)) rfl ?_)
 refine Run.go rfl rfl rfl (sem_move ((Value.int .i64 (i4))) rfl ?_)
 obtain ⟨hi0, hi1, hi2, hS⟩ := hS
 refine Run.go rfl rfl rfl (sem_sliceSlI a1 n2 c3 (i4) ((n2 : Nat)) rfl TF.slc_158 ⟨_, rfl⟩ rfl hi0 hi1 hi2 ?_)
 refine Run.go rfl rfl rfl (sem_callL [(Value.slice (if c3 = Int.toNat (i4) then a1 else Option.map (·.add (Int.toNat (i4) * 3)) a1) (Int.toNat ((n2 : Nat)) - Int.toNat (i4)) (c3 - Int.toNat (i4)))] (TF.goes_161) rfl rfl (Spec.mono hS fun v h6 hv => ?_))
 obtain ⟨rfl, hS⟩ := hv
 refine Run.region_end ?_
 refine Run.ops0 (idx := [0, 1]) rfl ?_
 refine Run.go rfl rfl rfl (sem_move ((Value.slice a1 n2 c3)) rfl ?_)
 refine Run.go rfl rfl rfl (sem_callL [(Value.slice a1 n2 c3)] (TF.goes_161) rfl rfl (Spec.mono hS fun v h7 hv => ?_))
 obtain ⟨rfl, hS⟩ := hv
 refine Run.region_end ?_
 refine Run.fall ⟨.inl rfl, ?_⟩
 exact hS.imp fun h' hq => ⟨rfl, hq⟩
set_option maxHeartbeats 4000000 in
theorem C_slices_Reverse_s_draft_entry_file_File_draft_entry_file_File.of {B : RO} {a1 : Option Addr} {n2 : Nat} {c3 : Nat} {h : Heap} {Q : Heap → Prop} (hS : S_slices_Reverse_s_draft_entry_file_File_draft_entry_file_File B a1 n2 c3 h Q) : C_slices_Reverse_s_draft_entry_file_File_draft_entry_file_File B a1 n2 c3 h Q := by
 unfold S_slices_Reverse_s_draft_entry_file_File_draft_entry_file_File at hS
 unfold C_slices_Reverse_s_draft_entry_file_File_draft_entry_file_File
 refine Spec.of_run Try.func161 (N := 28) (rs := []) rfl rfl rfl (Nat.le_of_ble_eq_true rfl) ?_
 refine Run.seq ?_
 refine Run.ops0 (idx := [0, 1, 2, 3, 4]) rfl ?_
 refine Run.go rfl rfl rfl (sem_move ((Value.slice a1 n2 c3)) rfl ?_)
 refine Run.go rfl rfl rfl (sem_lenSl a1 n2 c3 rfl TF.sl_158 ?_)
 refine Run.go rfl rfl rfl (sem_binI .i64 ((n2 : Nat)) (1) ((Value.int .i64 (IntKind.wrap .i64 (((n2 : Nat)) - (1))))) rfl rfl rfl ?_)
 refine Run.go rfl rfl rfl (sem_assign ((Value.int .i64 (0))) rfl ?_)
 refine Run.go rfl rfl rfl (sem_assign ((Value.int .i64 (IntKind.wrap .i64 (((n2 : Nat)) - (1))))) rfl ?_)
 refine Run.region_end ?_
 refine Run.block ?_
 obtain ⟨J10, m8, h0, hS⟩ := hS
 refine Run.of_fin (h0.imp fun h' h0 => ?_)
 refine Run.loop (σ := Int × Int × Nat) (fun x e h => J10 x.1 x.2.1 x.2.2 h ∧ Agree [(0, (Value.slice a1 n2 c3)), (2, (Value.int .i64 (x.1))), (3, (Value.int .i64 (x.2.1)))] e) (fun x => x.2.2) ((0), (IntKind.wrap .i64 (((n2 : Nat)) - (1))), m8) ⟨h0, ⟨rfl, rfl, rfl, trivial⟩⟩ ?_; clear h0
 rintro ⟨i4, i5, m7⟩ e h6 ⟨hJ, hag⟩ ih9
 have hS := hS i4 i5 m7 h6 hJ; clear hJ
 refine Run.env hag ?_; clear hag
 refine Run.seq ?_
 refine Run.seq ?_
 refine Run.ops0 (idx := [0, 1, 2]) rfl ?_
 refine Run.go rfl rfl rfl (sem_move ((Value.int .i64 (i4))) rfl ?_)
 refine Run.go rfl rfl rfl (sem_move ((Value.int .i64 (i5))) rfl ?_)
 obtain ⟨hT, hF⟩ := hS
 by_cases hb11 : (i4 : Int) < (i5)
 ·have hS := hT hb11; clear hT hF
  refine Run.go rfl rfl rfl (sem_binI .i64 (i4) (i5) (.bool true) rfl rfl (binI_lss_t hb11) ?_)
  refine Run.region_end ?_
  refine Run.condT rfl ?_
  refine Run.skip ?_
  refine Run.seq ?_
  refine Run.block ?_
  skip
  skip
  skip
  skip
  skip
  skip
  obtain ⟨A18, e19, hi0, hi1, hS⟩ := hS
  have f21 := hi0; have f22 := hi1
  obtain ⟨i23, b24, s25, hl, hS⟩ := hS
  have f26 := hl
  skip
  skip
  obtain ⟨A29, e30, hi0, hi1, hS⟩ := hS
  have f32 := hi0; have f33 := hi1
  obtain ⟨i34, b35, s36, hl, hS⟩ := hS
  have f37 := hl
  obtain ⟨A38, e39, hi0, hi1, hS⟩ := hS
  have f41 := hi0; have f42 := hi1
  refine Run.drawM (fun h' => CellsAt B h' (Addr.add A18 (Int.toNat (i5) * 3)) 0 [(Value.int .i64 (i23)), (Value.bool b24), (Value.string s25)] ∧ CellsAt B h' (Addr.add A29 (Int.toNat (i4) * 3)) 0 [(Value.int .i64 (i34)), (Value.bool b35), (Value.string s36)] ∧ True) [15] ⟨[0, 0, 0, 0, 0, 0, 48, 64, 0, 0, 768, 1024, 2291, 6387, 16383, 32767], [65535, 65535, 65535, 65535, 65535, 65535, 65487, 65471, 65535, 65535, 64767, 64511, 65532, 61311, 65523, 47103], [0, 0, 0, 0, 0, 0, 48, 112, 0, 0, 768, 1792, 4083, 8179, 16383, 32767], 32768⟩ (.q 0 (.q 1 (.q 2 (.q 3 (.q 4 (.q 5 (.q 6 (.q 7 (.q 8 (.q 9 (.q 10 (.q 11 (.q 12 (.x 13 (.q 14 (.x 15 .nil .no)) .no)))))))))))))) TF.mixed (by kernel_rfl) ⟨f26, f37, trivial⟩ ?_
  refine RunT.quiet rfl rfl rfl (fun h' hC => sem_move ((Value.slice a1 n2 c3)) rfl ⟨rfl, rfl⟩) ?_
  refine RunT.quiet rfl rfl rfl (fun h' hC => sem_move ((Value.int .i64 (i4))) rfl ⟨rfl, rfl⟩) ?_
  refine RunT.quiet rfl rfl rfl (fun h' hC => sem_move ((Value.slice a1 n2 c3)) rfl ⟨rfl, rfl⟩) ?_
  refine RunT.quiet rfl rfl rfl (fun h' hC => sem_move ((Value.int .i64 (i5))) rfl ⟨rfl, rfl⟩) ?_
  refine RunT.quiet rfl rfl rfl (fun h' hC => sem_move ((Value.slice a1 n2 c3)) rfl ⟨rfl, rfl⟩) ?_
  refine RunT.quiet rfl rfl rfl (fun h' hC => sem_move ((Value.int .i64 (i5))) rfl ⟨rfl, rfl⟩) ?_
  refine RunT.quiet rfl rfl rfl (fun h' hC => sem_indexAddrS A18 n2 c3 .i64 (i5) (congrArg (fun a => Value.slice a n2 c3) e19) rfl TF.slc_158 f21 f22 ⟨rfl, rfl⟩) ?_
  refine RunT.quiet rfl rfl rfl (fun h' hC => sem_loadN (Addr.add A18 (Int.toNat (i5) * 3)) [(Value.int .i64 (i23)), (Value.bool b24), (Value.string s25)] rfl TF.agg_162 TF.sz_162 hC.1 ⟨rfl, rfl⟩) ?_
  refine RunT.quiet rfl rfl rfl (fun h' hC => sem_move ((Value.slice a1 n2 c3)) rfl ⟨rfl, rfl⟩) ?_
  refine RunT.quiet rfl rfl rfl (fun h' hC => sem_move ((Value.int .i64 (i4))) rfl ⟨rfl, rfl⟩) ?_
  refine RunT.quiet rfl rfl rfl (fun h' hC => sem_indexAddrS A29 n2 c3 .i64 (i4) (congrArg (fun a => Value.slice a n2 c3) e30) rfl TF.slc_158 f32 f33 ⟨rfl, rfl⟩) ?_
  refine RunT.quiet rfl rfl rfl (fun h' hC => sem_loadN (Addr.add A29 (Int.toNat (i4) * 3)) [(Value.int .i64 (i34)), (Value.bool b35), (Value.string s36)] rfl TF.agg_162 TF.sz_162 hC.2.1 ⟨rfl, rfl⟩) ?_
  refine RunT.quiet rfl rfl rfl (fun h' hC => sem_indexAddrS A38 n2 c3 .i64 (i4) (congrArg (fun a => Value.slice a n2 c3) e39) rfl TF.slc_158 f41 f42 ⟨rfl, rfl⟩) ?_
  refine ⟨?_, trivial⟩
  obtain ⟨h43, hst, hS⟩ := hS
  refine OpH.go rfl rfl rfl (sem_storeN (Addr.add A38 (Int.toNat (i4) * 3)) [(Value.int .i64 (i23)), (Value.bool b24), (Value.string s25)] h43 rfl rfl TF.sz_162 hst ?_)
  obtain ⟨g44, g45, hS⟩ := hS
  refine ⟨fun _ => ⟨g44, g45, trivial⟩, ?_⟩
  obtain ⟨A46, e47, hi0, hi1, hS⟩ := hS
  refine RunT.quiet rfl rfl rfl (fun h' hC => sem_indexAddrS A46 n2 c3 .i64 (i5) (congrArg (fun a => Value.slice a n2 c3) e47) rfl TF.slc_158 hi0 hi1 ⟨rfl, rfl⟩) ?_
  refine ⟨?_, trivial⟩
  obtain ⟨h48, hst, hS⟩ := hS
  refine OpH.go rfl rfl rfl (sem_storeN (Addr.add A46 (Int.toNat (i5) * 3)) [(Value.int .i64 (i34)), (Value.bool b35), (Value.string s36)] h48 rfl rfl TF.sz_162 hst ?_)
  refine ⟨fun hz => Bool.noConfusion hz, ?_⟩
  refine Run.inBlock ?_
  refine Run.ops0 (idx := [0, 1, 2, 3, 4, 5]) rfl ?_
  refine Run.go rfl rfl rfl (sem_move ((Value.int .i64 (i4))) rfl ?_)
  refine Run.go rfl rfl rfl (sem_binI .i64 (i4) (1) ((Value.int .i64 (IntKind.wrap .i64 ((i4) + (1))))) rfl rfl rfl ?_)
  refine Run.go rfl rfl rfl (sem_move ((Value.int .i64 (i5))) rfl ?_)
  refine Run.go rfl rfl rfl (sem_binI .i64 (i5) (1) ((Value.int .i64 (IntKind.wrap .i64 ((i5) - (1))))) rfl rfl rfl ?_)
  refine Run.go rfl rfl rfl (sem_assign ((Value.int .i64 (IntKind.wrap .i64 ((i4) + (1))))) rfl ?_)
  refine Run.go rfl rfl rfl (sem_assign ((Value.int .i64 (IntKind.wrap .i64 ((i5) - (1))))) rfl ?_)
  refine Run.region_end ?_
  exact Run.of_fin (hS.imp fun h' ⟨m', hm, hS⟩ => ih9 ((IntKind.wrap .i64 ((i4) + (1))), (IntKind.wrap .i64 ((i5) - (1))), m') _ _ ⟨hS, ⟨rfl, rfl, rfl, trivial⟩⟩ hm)
 ·have hS := hF hb11; clear hT hF
  refine Run.go rfl rfl rfl (sem_binI .i64 (i4) (i5) (.bool false) rfl rfl (binI_lss_f hb11) ?_)
  refine Run.region_end ?_
  refine Run.condF rfl ?_
  refine Run.exit rfl ?_
  refine Run.fall ⟨.inl rfl, ?_⟩
  exact hS.imp fun h' hq => ⟨rfl, hq⟩
end Go.Proofs.Ytcncdfmnpmmikaa.H
