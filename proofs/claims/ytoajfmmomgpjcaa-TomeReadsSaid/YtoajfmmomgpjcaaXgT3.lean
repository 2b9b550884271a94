/- The functions do what they ask for. No condition. -/
import Derived.Test.YtoajfmmomgpjcaaXgS
namespace Go.Proofs.Ytoajfmmomgpjcaa.H
open Go
set_option linter.unusedVariables false
set_option maxRecDepth 100000

set_option maxHeartbeats 4000000 in
theorem C_file_Good.of {B : RO} {b1 : Bool} {s2 : ByteArray} {h : Heap} {Q : Bool → Heap → Prop} (hS : S_file_Good B b1 s2 h Q) : C_file_Good B b1 s2 h Q := by
  unfold S_file_Good at hS
  unfold C_file_Good
  refine Spec.of_run Try.func79 (N := 16) (rs := [ResultVar.tmp 2]) rfl rfl rfl (Nat.le_of_ble_eq_true rfl) ?_
  refine Run.seq ?_
  refine Run.ops0 (idx := [0, 1]) rfl ?_
  refine Run.go rfl rfl rfl (sem_boxNN [(Value.bool b1), (Value.string s2)] rfl (fun k4 hb1 hb2 h5 hb3 => ?_))
  have hS := hS k4 hb1 hb2 h5 hb3
  refine Run.go rfl rfl rfl (sem_assign ((Value.bool false)) rfl ?_)
  refine Run.region_end ?_
  refine Run.seq ?_
  refine Run.ops0 (idx := [0, 1, 2, 3, 4, 5, 6, 7, 8, 9, 10, 11, 12, 13]) rfl ?_
  refine Run.go rfl rfl rfl (sem_fieldAddr ⟨k4, 0, none⟩ 1 rfl TF.fld_54_1 ?_)
  obtain ⟨s6, hl, hS⟩ := hS
  refine Run.go rfl rfl rfl (sem_load1 ⟨k4, 1, none⟩ ((Value.string s6)) rfl TF.agg_9 hl ?_)
  refine Run.go rfl rfl rfl (sem_lenStr s6 rfl TF.isStr_9 ?_)
  obtain ⟨hT, hF⟩ := hS
  by_cases hb7 : ((ByteArray.size s6 : Nat) : Int) ≤ (32)
  · have hS := hT hb7; clear hT hF
    refine Run.go rfl rfl rfl (sem_binI .i64 ((ByteArray.size s6 : Nat)) (32) (.bool true) rfl rfl (binI_leq_t hb7) ?_)
    refine Run.go rfl rfl rfl (sem_move ((Value.bool true)) rfl ?_)
    refine Run.go rfl rfl rfl (sem_fieldAddr ⟨k4, 0, none⟩ 0 rfl TF.fld_54_0 ?_)
    obtain ⟨b8, hl, hS⟩ := hS
    obtain ⟨hT, hF⟩ := hS
    cases b8
    · have hS := hF rfl; clear hT hF
      refine Run.go rfl rfl rfl (sem_load1 ⟨k4, 0, none⟩ (.bool false) rfl TF.agg_4 hl ?_)
      refine Run.go rfl rfl rfl (sem_move ((Value.bool false)) rfl ?_)
      refine Run.go rfl rfl rfl (sem_fieldAddr ⟨k4, 0, none⟩ 1 rfl TF.fld_54_1 ?_)
      obtain ⟨s9, hl, hS⟩ := hS
      refine Run.go rfl rfl rfl (sem_load1 ⟨k4, 1, none⟩ ((Value.string s9)) rfl TF.agg_9 hl ?_)
      refine Run.go rfl rfl rfl (sem_strEq s9 (ByteArray.mk #[]) rfl rfl ?_)
      refine Run.go rfl rfl rfl (sem_pick false ((Value.bool (decide (s9 = (ByteArray.mk #[]))))) rfl rfl ?_)
      refine Run.go rfl rfl rfl (sem_pick true ((Value.bool (decide (s9 = (ByteArray.mk #[]))))) rfl rfl ?_)
      refine Run.go rfl rfl rfl (sem_assign ((Value.bool (decide (s9 = (ByteArray.mk #[]))))) rfl ?_)
      refine Run.region_end ?_
      refine Run.ret ⟨.inr rfl, ?_⟩
      exact hS.imp fun h' hq => ⟨((decide (s9 = (ByteArray.mk #[])))), rfl, hq⟩
    · have hS := hT rfl; clear hT hF
      refine Run.go rfl rfl rfl (sem_load1 ⟨k4, 0, none⟩ (.bool true) rfl TF.agg_4 hl ?_)
      refine Run.go rfl rfl rfl (sem_move ((Value.bool true)) rfl ?_)
      refine Run.no rfl rfl rfl ?_
      refine Run.no rfl rfl rfl ?_
      refine Run.no rfl rfl rfl ?_
      refine Run.go rfl rfl rfl (sem_pick true ((Value.bool true)) rfl rfl ?_)
      refine Run.go rfl rfl rfl (sem_pick true ((Value.bool true)) rfl rfl ?_)
      refine Run.go rfl rfl rfl (sem_assign ((Value.bool true)) rfl ?_)
      refine Run.region_end ?_
      refine Run.ret ⟨.inr rfl, ?_⟩
      exact hS.imp fun h' hq => ⟨(true), rfl, hq⟩
  · have hS := hF hb7; clear hT hF
    refine Run.go rfl rfl rfl (sem_binI .i64 ((ByteArray.size s6 : Nat)) (32) (.bool false) rfl rfl (binI_leq_f hb7) ?_)
    refine Run.go rfl rfl rfl (sem_move ((Value.bool false)) rfl ?_)
    refine Run.no rfl rfl rfl ?_
    refine Run.no rfl rfl rfl ?_
    refine Run.no rfl rfl rfl ?_
    refine Run.no rfl rfl rfl ?_
    refine Run.no rfl rfl rfl ?_
    refine Run.no rfl rfl rfl ?_
    refine Run.no rfl rfl rfl ?_
    refine Run.go rfl rfl rfl (sem_pick false ((Value.bool false)) rfl rfl ?_)
    refine Run.go rfl rfl rfl (sem_assign ((Value.bool false)) rfl ?_)
    refine Run.region_end ?_
    refine Run.ret ⟨.inr rfl, ?_⟩
    exact hS.imp fun h' hq => ⟨(false), rfl, hq⟩
set_option maxHeartbeats 4000000 in
theorem C_cell_Row_file_File_Set.of {B : RO} {p1 : Option Addr} {i2 : Int} {b3 : Bool} {s4 : ByteArray} {i5 : Int} {h : Heap} {Q : Bool → Heap → Prop} (hS : S_cell_Row_file_File_Set B p1 i2 b3 s4 i5 h Q) : C_cell_Row_file_File_Set B p1 i2 b3 s4 i5 h Q := by
  unfold S_cell_Row_file_File_Set at hS
  unfold C_cell_Row_file_File_Set
  refine Spec.of_run Try.func80 (N := 22) (rs := [ResultVar.tmp 8]) rfl rfl rfl (Nat.le_of_ble_eq_true rfl) ?_
  refine Run.seq ?_
  refine Run.ops0 (idx := [0, 1]) rfl ?_
  refine Run.go rfl rfl rfl (sem_boxNN [(Value.bool b3), (Value.string s4)] rfl (fun k7 hb1 hb2 h8 hb3 => ?_))
  have hS := hS k7 hb1 hb2 h8 hb3
  refine Run.go rfl rfl rfl (sem_assign ((Value.bool false)) rfl ?_)
  refine Run.region_end ?_
  refine Run.seq ?_
  refine Run.seq ?_
  refine Run.ops0 (idx := [0, 1, 2, 3]) rfl ?_
  refine Run.go rfl rfl rfl (sem_move ((Value.pointer p1)) rfl ?_)
  refine Run.go rfl rfl rfl (sem_move ((Value.int .i64 (i2))) rfl ?_)
  refine Run.go rfl rfl rfl (sem_callL [(Value.pointer p1), (Value.int .i64 (i2))] (TF.goes_97) rfl rfl (Spec.mono hS fun v h9 hv => ?_))
  obtain ⟨b10, rfl, hS⟩ := hv
  obtain ⟨hT, hF⟩ := hS
  cases b10
  · have hS := hF rfl; clear hT hF
    refine Run.go rfl rfl rfl (sem_not false rfl ?_)
    refine Run.region_end ?_
    refine Run.condT rfl ?_
    refine Run.seq ?_
    refine Run.ops0 (idx := [0]) rfl ?_
    refine Run.go rfl rfl rfl (sem_assign ((Value.bool false)) rfl ?_)
    refine Run.region_end ?_
    refine Run.ret ⟨.inr rfl, ?_⟩
    exact hS.imp fun h' hq => ⟨(false), rfl, hq⟩
  · have hS := hT rfl; clear hT hF
    refine Run.go rfl rfl rfl (sem_not true rfl ?_)
    refine Run.region_end ?_
    refine Run.condF rfl ?_
    refine Run.skip ?_
    refine Run.seq ?_
    refine Run.draw (fun h' => h' = h9) [9] [.q 0, .q 1, .q 2, .q 3, .q 4, .q 5, .q 6, .q 7, .q 8, .x 9] TF.mixed (by kernel_rfl) rfl ?_
    refine RunO.quiet rfl rfl rfl (quiet_eq (sem_move ((Value.pointer p1)) rfl ⟨rfl, rfl⟩)) ?_
    obtain ⟨A11, e12, hS⟩ := hS
    refine RunO.quiet rfl rfl rfl (quiet_eq (sem_nilCheck A11 (congrArg Value.pointer e12) ⟨rfl, rfl⟩)) ?_
    refine RunO.quiet rfl rfl rfl (quiet_eq (sem_fieldAddr A11 0 rfl TF.fld_168_0 ⟨rfl, rfl⟩)) ?_
    obtain ⟨a13, n14, c15, hl, hS⟩ := hS
    refine RunO.quiet rfl rfl rfl (quiet_eq (sem_load1 A11 ((Value.slice a13 n14 c15)) rfl TF.agg_166 hl ⟨rfl, rfl⟩)) ?_
    refine RunO.quiet rfl rfl rfl (quiet_eq (sem_move ((Value.int .i64 (i2))) rfl ⟨rfl, rfl⟩)) ?_
    obtain ⟨b16, s17, hl, hS⟩ := hS
    refine RunO.quiet rfl rfl rfl (quiet_eq (sem_loadN ⟨k7, 0, none⟩ [(Value.bool b16), (Value.string s17)] rfl TF.agg_54 TF.sz_54 hl ⟨rfl, rfl⟩)) ?_
    refine RunO.quiet rfl rfl rfl (quiet_eq (sem_move ((Value.int .i64 (i5))) rfl ⟨rfl, rfl⟩)) ?_
    refine RunO.quiet rfl rfl rfl (quiet_eq (sem_buildSL [(0, (Value.agg #[(Value.bool b16), (Value.string s17)])), (1, (Value.int .i64 (i5)))] [(Value.bool b16), (Value.string s17), (Value.int .i64 (i5))] TF.zero_170 TF.places_170 rfl rfl ⟨rfl, rfl⟩)) ?_
    obtain ⟨A18, e19, hi0, hi1, hS⟩ := hS
    refine RunO.quiet rfl rfl rfl (quiet_eq (sem_indexAddrS A18 n14 c15 .i64 (i2) (congrArg (fun a => Value.slice a n14 c15) e19) rfl TF.slc_166 hi0 hi1 ⟨rfl, rfl⟩)) ?_
    obtain ⟨h20, hst, hS⟩ := hS
    refine OpH.go rfl rfl rfl (sem_storeN (Addr.add A18 (Int.toNat (i2) * 3)) [(Value.bool b16), (Value.string s17), (Value.int .i64 (i5))] h20 rfl rfl TF.sz_170 hst ?_)
    refine ⟨fun hz => Bool.noConfusion hz, ?_⟩
    refine Run.seq ?_
    refine Run.ops0 (idx := [0]) rfl ?_
    refine Run.go rfl rfl rfl (sem_assign ((Value.bool true)) rfl ?_)
    refine Run.region_end ?_
    refine Run.ret ⟨.inr rfl, ?_⟩
    exact hS.imp fun h' hq => ⟨(true), rfl, hq⟩
set_option maxHeartbeats 4000000 in
theorem C_cell_Row_file_File_Get.of {B : RO} {p1 : Option Addr} {i2 : Int} {h : Heap} {Q : Bool → ByteArray → Int → Heap → Prop} (hS : S_cell_Row_file_File_Get B p1 i2 h Q) : C_cell_Row_file_File_Get B p1 i2 h Q := by
  unfold S_cell_Row_file_File_Get at hS
  unfold C_cell_Row_file_File_Get
  refine Spec.of_run Try.func81 (N := 28) (rs := [ResultVar.cell 4 54, ResultVar.tmp 5]) rfl rfl rfl (Nat.le_of_ble_eq_true rfl) ?_
  refine Run.seq ?_
  refine Run.ops0 (idx := [0, 1]) rfl ?_
  refine Run.go rfl rfl rfl (sem_allocN [(Value.bool false), (Value.string ByteArray.empty)] TF.zero_54 (fun k6 hb1 hb2 h7 hb3 => ?_))
  have hS := hS k6 hb1 hb2 h7 hb3
  refine Run.go rfl rfl rfl (sem_assign ((Value.int .i64 (0))) rfl ?_)
  refine Run.region_end ?_
  refine Run.seq ?_
  refine Run.seq ?_
  refine Run.ops0 (idx := [0, 1, 2, 3]) rfl ?_
  refine Run.go rfl rfl rfl (sem_move ((Value.pointer p1)) rfl ?_)
  refine Run.go rfl rfl rfl (sem_move ((Value.int .i64 (i2))) rfl ?_)
  refine Run.go rfl rfl rfl (sem_callL [(Value.pointer p1), (Value.int .i64 (i2))] (TF.goes_97) rfl rfl (Spec.mono hS fun v h8 hv => ?_))
  obtain ⟨b9, rfl, hS⟩ := hv
  obtain ⟨hT, hF⟩ := hS
  cases b9
  · have hS := hF rfl; clear hT hF
    refine Run.go rfl rfl rfl (sem_not false rfl ?_)
    refine Run.region_end ?_
    refine Run.condT rfl ?_
    refine Run.seq ?_
    refine Run.ops0 (idx := [0]) rfl ?_
    refine Run.go rfl rfl rfl (sem_allocN [(Value.bool false), (Value.string ByteArray.empty)] TF.zero_54 (fun k10 hb1 hb2 h11 hb3 => ?_))
    have hS := hS k10 hb1 hb2 h11 hb3
    refine Run.region_end ?_
    refine Run.seq ?_
    refine Run.ops0 (idx := [0, 1, 2]) rfl ?_
    obtain ⟨b12, s13, hl, hS⟩ := hS
    refine Run.go rfl rfl rfl (sem_loadN ⟨k10, 0, none⟩ [(Value.bool b12), (Value.string s13)] rfl TF.agg_54 TF.sz_54 hl ?_)
    obtain ⟨h14, hst, hS⟩ := hS
    refine Run.go rfl rfl rfl (sem_storeN ⟨k6, 0, none⟩ [(Value.bool b12), (Value.string s13)] h14 rfl rfl TF.sz_54 hst ?_)
    refine Run.go rfl rfl rfl (sem_assign ((Value.int .i64 (0))) rfl ?_)
    refine Run.region_end ?_
    obtain ⟨b15, s16, hl0, hS⟩ := hS
    refine Run.ret ⟨.inr rfl, ?_⟩
    exact ⟨⟨k6, 0, none⟩, (Value.agg #[(Value.bool b15), (Value.string s16)]), rfl, loadHN TF.agg_54 TF.sz_54 hl0, hS.imp fun h' hq => ⟨(b15), s16, (0), rfl, hq⟩⟩
  · have hS := hT rfl; clear hT hF
    refine Run.go rfl rfl rfl (sem_not true rfl ?_)
    refine Run.region_end ?_
    refine Run.condF rfl ?_
    refine Run.skip ?_
    refine Run.seq ?_
    skip
    obtain ⟨A18, e19, hS⟩ := hS
    skip
    skip
    obtain ⟨a22, n23, c24, hl, hS⟩ := hS
    have f25 := hl
    skip
    obtain ⟨A27, e28, hi0, hi1, hS⟩ := hS
    have f30 := hi0; have f31 := hi1
    skip
    obtain ⟨b33, s34, hl, hS⟩ := hS
    have f35 := hl
    skip
    obtain ⟨A37, e38, hS⟩ := hS
    skip
    skip
    obtain ⟨a41, n42, c43, hl, hS⟩ := hS
    have f44 := hl
    skip
    obtain ⟨A46, e47, hi0, hi1, hS⟩ := hS
    have f49 := hi0; have f50 := hi1
    skip
    obtain ⟨i52, hl, hS⟩ := hS
    have f53 := hl
    refine Run.draw (fun h' => cellH B h' A18 = some (Value.slice a22 n23 c24) ∧ CellsAt B h' (Addr.add A27 (Int.toNat (i2) * 3)) 0 [(Value.bool b33), (Value.string s34)] ∧ cellH B h' A37 = some (Value.slice a41 n42 c43) ∧ cellH B h' (Addr.add (Addr.add A46 (Int.toNat (i2) * 3)) 2) = some (Value.int .i64 (i52)) ∧ True) [] [.q 0, .q 1, .q 2, .q 3, .q 4, .q 5, .q 6, .q 7, .q 8, .q 9, .q 10, .q 11, .q 12, .q 13, .q 14, .q 15, .x 16, .q 17] TF.mixed (by kernel_rfl) ⟨f25, f35, f44, f53, trivial⟩ ?_
    refine RunO.quiet rfl rfl rfl (fun h' hC => sem_move ((Value.pointer p1)) rfl ⟨rfl, rfl⟩) ?_
    refine RunO.quiet rfl rfl rfl (fun h' hC => sem_nilCheck A18 (congrArg Value.pointer e19) ⟨rfl, rfl⟩) ?_
    refine RunO.quiet rfl rfl rfl (fun h' hC => sem_fieldAddr A18 0 rfl TF.fld_168_0 ⟨rfl, rfl⟩) ?_
    refine RunO.quiet rfl rfl rfl (fun h' hC => sem_load1 A18 ((Value.slice a22 n23 c24)) rfl TF.agg_166 hC.1 ⟨rfl, rfl⟩) ?_
    refine RunO.quiet rfl rfl rfl (fun h' hC => sem_move ((Value.int .i64 (i2))) rfl ⟨rfl, rfl⟩) ?_
    refine RunO.quiet rfl rfl rfl (fun h' hC => sem_indexAddrS A27 n23 c24 .i64 (i2) (congrArg (fun a => Value.slice a n23 c24) e28) rfl TF.slc_166 f30 f31 ⟨rfl, rfl⟩) ?_
    refine RunO.quiet rfl rfl rfl (fun h' hC => sem_fieldAddr (Addr.add A27 (Int.toNat (i2) * 3)) 0 rfl TF.fld_170_0 ⟨rfl, rfl⟩) ?_
    refine RunO.quiet rfl rfl rfl (fun h' hC => sem_loadN (Addr.add A27 (Int.toNat (i2) * 3)) [(Value.bool b33), (Value.string s34)] rfl TF.agg_54 TF.sz_54 hC.2.1 ⟨rfl, rfl⟩) ?_
    refine RunO.quiet rfl rfl rfl (fun h' hC => sem_move ((Value.pointer p1)) rfl ⟨rfl, rfl⟩) ?_
    refine RunO.quiet rfl rfl rfl (fun h' hC => sem_nilCheck A37 (congrArg Value.pointer e38) ⟨rfl, rfl⟩) ?_
    refine RunO.quiet rfl rfl rfl (fun h' hC => sem_fieldAddr A37 0 rfl TF.fld_168_0 ⟨rfl, rfl⟩) ?_
    refine RunO.quiet rfl rfl rfl (fun h' hC => sem_load1 A37 ((Value.slice a41 n42 c43)) rfl TF.agg_166 hC.2.2.1 ⟨rfl, rfl⟩) ?_
    refine RunO.quiet rfl rfl rfl (fun h' hC => sem_move ((Value.int .i64 (i2))) rfl ⟨rfl, rfl⟩) ?_
    refine RunO.quiet rfl rfl rfl (fun h' hC => sem_indexAddrS A46 n42 c43 .i64 (i2) (congrArg (fun a => Value.slice a n42 c43) e47) rfl TF.slc_166 f49 f50 ⟨rfl, rfl⟩) ?_
    refine RunO.quiet rfl rfl rfl (fun h' hC => sem_fieldAddr (Addr.add A46 (Int.toNat (i2) * 3)) 2 rfl TF.fld_170_1 ⟨rfl, rfl⟩) ?_
    refine RunO.quiet rfl rfl rfl (fun h' hC => sem_load1 (Addr.add (Addr.add A46 (Int.toNat (i2) * 3)) 2) ((Value.int .i64 (i52))) rfl TF.agg_3 hC.2.2.2.1 ⟨rfl, rfl⟩) ?_
    obtain ⟨h54, hst, hS⟩ := hS
    refine OpH.go rfl rfl rfl (sem_storeN ⟨k6, 0, none⟩ [(Value.bool b33), (Value.string s34)] h54 rfl rfl TF.sz_54 hst ?_)
    obtain ⟨g55, g56, g57, g58, hS⟩ := hS
    refine ⟨fun _ => ⟨g55, g56, g57, g58, trivial⟩, ?_⟩
    refine RunO.quiet rfl rfl rfl (fun h' hC => sem_assign ((Value.int .i64 (i52))) rfl ⟨rfl, rfl⟩) ?_
    obtain ⟨b59, s60, hl0, hS⟩ := hS
    refine Run.ret ⟨.inr rfl, ?_⟩
    exact ⟨⟨k6, 0, none⟩, (Value.agg #[(Value.bool b59), (Value.string s60)]), rfl, loadHN TF.agg_54 TF.sz_54 hl0, hS.imp fun h' hq => ⟨(b59), s60, (i52), rfl, hq⟩⟩
set_option maxHeartbeats 4000000 in
theorem C_tome_Tome_All_1.of {B : RO} {v1 : Value} {A2 : Addr} {h : Heap} {Q : Heap → Prop} (hS : S_tome_Tome_All_1 B v1 A2 h Q) : C_tome_Tome_All_1 B v1 A2 h Q := by
  unfold S_tome_Tome_All_1 at hS
  unfold C_tome_Tome_All_1
  refine Spec.of_run Try.func82 (N := 23) (rs := []) rfl rfl rfl (Nat.le_of_ble_eq_true rfl) ?_
  refine Run.seq ?_
  refine Run.ops0 (idx := [0]) rfl ?_
  obtain ⟨hone, hS⟩ := hS
  refine Run.go rfl rfl rfl (sem_box1N (v1) rfl hone (fun k3 hb1 hb2 h4 hb3 => ?_))
  have hS := hS k3 hb1 hb2 h4 hb3
  refine Run.region_end ?_
  refine Run.seq ?_
  refine Run.seq ?_
  refine Run.ops0 (idx := [0, 1]) rfl ?_
  obtain ⟨p5, hl, hS⟩ := hS
  refine Run.go rfl rfl rfl (sem_load1 A2 ((Value.pointer p5)) rfl TF.agg_57 hl ?_)
  obtain ⟨hT, hF⟩ := hS
  by_cases hb6 : p5 = none
  · have hS := hT hb6; clear hT hF
    refine Run.go rfl rfl rfl (sem_ptrNilT p5 (.inl rfl) true rfl rfl TF.ptr_57 hb6 rfl ?_)
    refine Run.region_end ?_
    refine Run.condT rfl ?_
    refine Run.ret ⟨.inr rfl, ?_⟩
    exact hS.imp fun h' hq => ⟨rfl, hq⟩
  · have hS := hF hb6; clear hT hF
    refine Run.go rfl rfl rfl (sem_ptrNilF p5 (.inl rfl) false rfl rfl TF.ptr_57 hb6 rfl ?_)
    refine Run.region_end ?_
    refine Run.condF rfl ?_
    refine Run.skip ?_
    refine Run.seq ?_
    refine Run.ops0 (idx := [0, 1, 2, 3, 4]) rfl ?_
    obtain ⟨p7, hl, hS⟩ := hS
    refine Run.go rfl rfl rfl (sem_load1 A2 ((Value.pointer p7)) rfl TF.agg_57 hl ?_)
    obtain ⟨A8, e9, hS⟩ := hS
    refine Run.go rfl rfl rfl (sem_nilCheck A8 (congrArg Value.pointer e9) ?_)
    refine Run.go rfl rfl rfl (sem_fieldAddr A8 0 rfl TF.fld_145_0 ?_)
    obtain ⟨p10, hl, hS⟩ := hS
    refine Run.go rfl rfl rfl (sem_load1 A8 ((Value.pointer p10)) rfl TF.agg_142 hl ?_)
    refine Run.go rfl rfl rfl (sem_callL [(Value.pointer p10)] (TF.goes_83) rfl rfl (Spec.mono hS fun v12 h11 hv => ?_))
    obtain ⟨_, rfl, hS⟩ := hv
    refine Run.region_end ?_
    refine Run.block ?_
    obtain ⟨xs20, G16, J19, hit, hins, hG, h0, hS, hR⟩ := hS
    refine Run.of_fin (h0.imp fun h' h0 => ?_)
    refine Run.range (v12) (xs20.map (fun x : Int × Bool × ByteArray => [(Value.int .i64 (x.1)), (Value.agg #[(Value.bool x.2.1), (Value.string x.2.2)])])) G16 J19 rfl hit hins hG h0 rfl (fun a ha => by obtain ⟨x, _, rfl⟩ := List.mem_map.1 ha; rfl) ?_ ?_
    · rintro q18 args h17 ha hJ
      obtain ⟨⟨i13, b14, s15⟩, hx, rfl⟩ := Option.map_eq_some_iff.1 ((List.getElem?_map ..).symm.trans ha)
      have hS := hS q18 h17 i13 b14 s15 hx hJ; clear hJ hx ha
      refine Run.seq ?_
      refine Run.ops0 (idx := [0]) rfl ?_
      refine Run.go rfl rfl rfl (sem_assign ((Value.int .i64 (i13))) rfl ?_)
      refine Run.region_end ?_
      refine Run.ops0 (idx := [0, 1]) rfl ?_
      refine Run.go rfl rfl rfl (sem_allocN [(Value.bool false), (Value.string ByteArray.empty)] TF.zero_54 (fun k21 hb1 hb2 h22 hb3 => ?_))
      have hS := hS k21 hb1 hb2 h22 hb3
      obtain ⟨h23, hst, hS⟩ := hS
      refine Run.go rfl rfl rfl (sem_storeN ⟨k21, 0, none⟩ [(Value.bool b14), (Value.string s15)] h23 rfl rfl TF.sz_54 hst ?_)
      refine Run.region_end ?_
      refine Run.begin ⟨rfl, ?_⟩
      refine Run.block ?_
      refine Run.seq ?_
      refine Run.ops0 (idx := [0, 1, 2, 3, 4, 5, 6, 7, 8]) rfl ?_
      refine Run.go rfl rfl rfl (sem_fieldAddr ⟨k21, 0, none⟩ 0 rfl TF.fld_54_0 ?_)
      obtain ⟨b24, hl, hS⟩ := hS
      obtain ⟨hT, hF⟩ := hS
      cases b24
      · have hS := hF rfl; clear hT hF
        refine Run.go rfl rfl rfl (sem_load1 ⟨k21, 0, none⟩ (.bool false) rfl TF.agg_4 hl ?_)
        refine Run.go rfl rfl rfl (sem_move ((Value.bool false)) rfl ?_)
        refine Run.no rfl rfl rfl ?_
        refine Run.no rfl rfl rfl ?_
        refine Run.no rfl rfl rfl ?_
        refine Run.no rfl rfl rfl ?_
        refine Run.no rfl rfl rfl ?_
        refine Run.go rfl rfl rfl (sem_pick false ((Value.bool false)) rfl rfl ?_)
        refine Run.region_end ?_
        refine Run.condF rfl ?_
        refine Run.skip ?_
        refine Run.inBlock ?_
        refine Run.of_fin (hS.imp fun h' hS => ?_)
        exact Run.fall (.inl ⟨rfl, hS⟩)
      · have hS := hT rfl; clear hT hF
        refine Run.go rfl rfl rfl (sem_load1 ⟨k21, 0, none⟩ (.bool true) rfl TF.agg_4 hl ?_)
        refine Run.go rfl rfl rfl (sem_move ((Value.bool true)) rfl ?_)
        obtain ⟨v25, hl, hS⟩ := hS
        refine Run.go rfl rfl rfl (sem_load1 ⟨k3, 0, none⟩ (v25) rfl TF.agg_147 hl ?_)
        refine Run.go rfl rfl rfl (sem_move ((Value.int .i64 (i13))) rfl ?_)
        obtain ⟨b26, s27, hl, hS⟩ := hS
        refine Run.go rfl rfl rfl (sem_loadN ⟨k21, 0, none⟩ [(Value.bool b26), (Value.string s27)] rfl TF.agg_54 TF.sz_54 hl ?_)
        refine Run.go rfl rfl rfl (sem_callV (v25) [(Value.int .i64 (i13)), (Value.agg #[(Value.bool b26), (Value.string s27)])] rfl rfl hS (fun nx h' ha => ha.mono fun v h28 hv => ?_))
        obtain ⟨b29, rfl, hS⟩ := hv
        obtain ⟨hT, hF⟩ := hS
        cases b29
        · have hS := hF rfl; clear hT hF
          refine Run.go rfl rfl rfl (sem_not false rfl ?_)
          refine Run.go rfl rfl rfl (sem_pick true ((Value.bool true)) rfl rfl ?_)
          refine Run.region_end ?_
          refine Run.condT rfl ?_
          refine Run.ret (.inr ⟨_, rfl, ?_⟩)
          refine Run.ret ⟨.inr rfl, ?_⟩
          exact hS.imp fun h' hq => ⟨rfl, hq⟩
        · have hS := hT rfl; clear hT hF
          refine Run.go rfl rfl rfl (sem_not true rfl ?_)
          refine Run.go rfl rfl rfl (sem_pick true ((Value.bool false)) rfl rfl ?_)
          refine Run.region_end ?_
          refine Run.condF rfl ?_
          refine Run.skip ?_
          refine Run.inBlock ?_
          refine Run.of_fin (hS.imp fun h' hS => ?_)
          exact Run.fall (.inl ⟨rfl, hS⟩)
    · intro h17 hJ
      have hS := hR h17 (by simpa using hJ); clear hJ hR
      refine Run.inBlock ?_
      refine Run.fall ⟨.inl rfl, ?_⟩
      exact hS.imp fun h' hq => ⟨rfl, hq⟩
set_option maxHeartbeats 4000000 in
theorem C_cell_Row_file_File_All.of {B : RO} {p1 : Option Addr} {h : Heap} {Q : Value → Heap → Prop} (hS : S_cell_Row_file_File_All B p1 h Q) : C_cell_Row_file_File_All B p1 h Q := by
  unfold S_cell_Row_file_File_All at hS
  unfold C_cell_Row_file_File_All
  refine Spec.of_run Try.func83 (N := 4) (rs := [ResultVar.tmp 2]) rfl rfl rfl (Nat.le_of_ble_eq_true rfl) ?_
  refine Run.seq ?_
  refine Run.ops0 (idx := [0, 1]) rfl ?_
  refine Run.go rfl rfl rfl (sem_box1N ((Value.pointer p1)) rfl rfl (fun k3 hb1 hb2 h4 hb3 => ?_))
  have hS := hS k3 hb1 hb2 h4 hb3
  refine Run.go rfl rfl rfl (sem_assign (Value.nilFunc) rfl ?_)
  refine Run.region_end ?_
  refine Run.seq ?_
  refine Run.ops0 (idx := [0, 1]) rfl ?_
  refine Run.go rfl rfl rfl (sem_makeFuncL [] [(Value.pointer (some ⟨k3, 0, none⟩))] rfl rfl ?_)
  refine Run.go rfl rfl rfl (sem_assign ((Value.func (.func 98) #[] #[(Value.pointer (some ⟨k3, 0, none⟩))])) rfl ?_)
  refine Run.region_end ?_
  refine Run.ret ⟨.inr rfl, ?_⟩
  exact hS.imp fun h' hq => ⟨(Value.func (.func 98) #[] #[(Value.pointer (some ⟨k3, 0, none⟩))]), rfl, hq⟩
set_option maxHeartbeats 4000000 in
theorem C_cell_Row_file_File_is.of {B : RO} {p1 : Option Addr} {i2 : Int} {h : Heap} {Q : Bool → Heap → Prop} (hS : S_cell_Row_file_File_is B p1 i2 h Q) : C_cell_Row_file_File_is B p1 i2 h Q := by
  unfold S_cell_Row_file_File_is at hS
  unfold C_cell_Row_file_File_is
  refine Spec.of_run Try.func97 (N := 20) (rs := [ResultVar.tmp 4]) rfl rfl rfl (Nat.le_of_ble_eq_true rfl) ?_
  refine Run.seq ?_
  refine Run.ops0 (idx := [0]) rfl ?_
  refine Run.go rfl rfl rfl (sem_assign ((Value.bool false)) rfl ?_)
  refine Run.region_end ?_
  refine Run.seq ?_
  refine Run.ops0 (idx := [0, 1, 2, 3, 4, 5, 6, 7, 8, 9, 10, 11, 12, 13, 14, 15]) rfl ?_
  refine Run.go rfl rfl rfl (sem_move ((Value.pointer p1)) rfl ?_)
  obtain ⟨hT, hF⟩ := hS
  by_cases hb4 : p1 = none
  · have hS := hT hb4; clear hT hF
    refine Run.go rfl rfl rfl (sem_ptrNilT p1 (.inr rfl) false rfl rfl TF.ptr_142 hb4 rfl ?_)
    refine Run.go rfl rfl rfl (sem_move ((Value.bool false)) rfl ?_)
    refine Run.no rfl rfl rfl ?_
    refine Run.no rfl rfl rfl ?_
    refine Run.go rfl rfl rfl (sem_pick false ((Value.bool false)) rfl rfl ?_)
    refine Run.go rfl rfl rfl (sem_move ((Value.bool false)) rfl ?_)
    refine Run.no rfl rfl rfl ?_
    refine Run.no rfl rfl rfl ?_
    refine Run.no rfl rfl rfl ?_
    refine Run.no rfl rfl rfl ?_
    refine Run.no rfl rfl rfl ?_
    refine Run.no rfl rfl rfl ?_
    refine Run.no rfl rfl rfl ?_
    refine Run.go rfl rfl rfl (sem_pick false ((Value.bool false)) rfl rfl ?_)
    refine Run.go rfl rfl rfl (sem_assign ((Value.bool false)) rfl ?_)
    refine Run.region_end ?_
    refine Run.ret ⟨.inr rfl, ?_⟩
    exact hS.imp fun h' hq => ⟨(false), rfl, hq⟩
  · have hS := hF hb4; clear hT hF
    refine Run.go rfl rfl rfl (sem_ptrNilF p1 (.inr rfl) true rfl rfl TF.ptr_142 hb4 rfl ?_)
    refine Run.go rfl rfl rfl (sem_move ((Value.bool true)) rfl ?_)
    refine Run.go rfl rfl rfl (sem_move ((Value.int .i64 (i2))) rfl ?_)
    obtain ⟨hT, hF⟩ := hS
    by_cases hb5 : (i2 : Int) ≥ (0)
    · have hS := hT hb5; clear hT hF
      refine Run.go rfl rfl rfl (sem_binI .i64 (i2) (0) (.bool true) rfl rfl (binI_geq_t hb5) ?_)
      refine Run.go rfl rfl rfl (sem_pick true ((Value.bool true)) rfl rfl ?_)
      refine Run.go rfl rfl rfl (sem_move ((Value.bool true)) rfl ?_)
      refine Run.go rfl rfl rfl (sem_move ((Value.int .i64 (i2))) rfl ?_)
      refine Run.go rfl rfl rfl (sem_move ((Value.pointer p1)) rfl ?_)
      obtain ⟨A6, e7, hS⟩ := hS
      refine Run.go rfl rfl rfl (sem_nilCheck A6 (congrArg Value.pointer e7) ?_)
      refine Run.go rfl rfl rfl (sem_fieldAddr A6 0 rfl TF.fld_168_0 ?_)
      refine Run.ldSl hS fun a8 n9 c10 h11 hl hS => ?_
      refine Run.go rfl rfl rfl (sem_load1 A6 ((Value.slice a8 n9 c10)) rfl TF.agg_166 hl ?_)
      refine Run.go rfl rfl rfl (sem_lenSl a8 n9 c10 rfl TF.sl_166 ?_)
      refine Run.go rfl rfl rfl (sem_binI .i64 (i2) ((n9 : Nat)) ((Value.bool (decide ((i2 : Int) < ((n9 : Nat)))))) rfl rfl rfl ?_)
      refine Run.go rfl rfl rfl (sem_pick true ((Value.bool (decide ((i2 : Int) < ((n9 : Nat)))))) rfl rfl ?_)
      refine Run.go rfl rfl rfl (sem_assign ((Value.bool (decide ((i2 : Int) < ((n9 : Nat)))))) rfl ?_)
      refine Run.region_end ?_
      refine Run.ret ⟨.inr rfl, ?_⟩
      exact hS.imp fun h' hq => ⟨((decide ((i2 : Int) < ((n9 : Nat))))), rfl, hq⟩
    · have hS := hF hb5; clear hT hF
      refine Run.go rfl rfl rfl (sem_binI .i64 (i2) (0) (.bool false) rfl rfl (binI_geq_f hb5) ?_)
      refine Run.go rfl rfl rfl (sem_pick true ((Value.bool false)) rfl rfl ?_)
      refine Run.go rfl rfl rfl (sem_move ((Value.bool false)) rfl ?_)
      refine Run.no rfl rfl rfl ?_
      refine Run.no rfl rfl rfl ?_
      refine Run.no rfl rfl rfl ?_
      refine Run.no rfl rfl rfl ?_
      refine Run.no rfl rfl rfl ?_
      refine Run.no rfl rfl rfl ?_
      refine Run.no rfl rfl rfl ?_
      refine Run.go rfl rfl rfl (sem_pick false ((Value.bool false)) rfl rfl ?_)
      refine Run.go rfl rfl rfl (sem_assign ((Value.bool false)) rfl ?_)
      refine Run.region_end ?_
      refine Run.ret ⟨.inr rfl, ?_⟩
      exact hS.imp fun h' hq => ⟨(false), rfl, hq⟩
set_option maxHeartbeats 4000000 in
theorem C_cell_Row_file_File_All_1.of {B : RO} {v1 : Value} {A2 : Addr} {h : Heap} {Q : Heap → Prop} (hS : S_cell_Row_file_File_All_1 B v1 A2 h Q) : C_cell_Row_file_File_All_1 B v1 A2 h Q := by
  unfold S_cell_Row_file_File_All_1 at hS
  unfold C_cell_Row_file_File_All_1
  refine Spec.of_run Try.func98 (N := 24) (rs := []) rfl rfl rfl (Nat.le_of_ble_eq_true rfl) ?_
  refine Run.seq ?_
  refine Run.seq ?_
  refine Run.ops0 (idx := [0, 1]) rfl ?_
  obtain ⟨p3, hl, hS⟩ := hS
  refine Run.go rfl rfl rfl (sem_load1 A2 ((Value.pointer p3)) rfl TF.agg_142 hl ?_)
  obtain ⟨hT, hF⟩ := hS
  by_cases hb4 : p3 = none
  · have hS := hT hb4; clear hT hF
    refine Run.go rfl rfl rfl (sem_ptrNilT p3 (.inl rfl) true rfl rfl TF.ptr_142 hb4 rfl ?_)
    refine Run.region_end ?_
    refine Run.condT rfl ?_
    refine Run.ret ⟨.inr rfl, ?_⟩
    exact hS.imp fun h' hq => ⟨rfl, hq⟩
  · have hS := hF hb4; clear hT hF
    refine Run.go rfl rfl rfl (sem_ptrNilF p3 (.inl rfl) false rfl rfl TF.ptr_142 hb4 rfl ?_)
    refine Run.region_end ?_
    refine Run.condF rfl ?_
    refine Run.skip ?_
    refine Run.seq ?_
    refine Run.ops0 (idx := [0, 1, 2, 3, 4, 5]) rfl ?_
    obtain ⟨p5, hl, hS⟩ := hS
    refine Run.go rfl rfl rfl (sem_load1 A2 ((Value.pointer p5)) rfl TF.agg_142 hl ?_)
    obtain ⟨A6, e7, hS⟩ := hS
    refine Run.go rfl rfl rfl (sem_nilCheck A6 (congrArg Value.pointer e7) ?_)
    refine Run.go rfl rfl rfl (sem_fieldAddr A6 0 rfl TF.fld_168_0 ?_)
    refine Run.ldSl hS fun a8 n9 c10 h11 hl hS => ?_
    refine Run.go rfl rfl rfl (sem_load1 A6 ((Value.slice a8 n9 c10)) rfl TF.agg_166 hl ?_)
    refine Run.go rfl rfl rfl (sem_lenSl a8 n9 c10 rfl TF.sl_166 ?_)
    refine Run.go rfl rfl rfl (sem_move ((Value.int .i64 (0))) rfl ?_)
    refine Run.region_end ?_
    refine Run.block ?_
    obtain ⟨J17, m15, h0, hS⟩ := hS
    refine Run.of_fin (h0.imp fun h' h0 => ?_)
    refine Run.loop (σ := Int × Nat) (fun x e h => J17 x.1 x.2 h ∧ Agree [(0, v1), (10, (Value.slice a8 n9 c10)), (11, (Value.int .i64 ((n9 : Nat)))), (12, (Value.int .i64 (x.1)))] e) (fun x => x.2) ((0), m15) ⟨h0, ⟨rfl, rfl, rfl, rfl, trivial⟩⟩ ?_; clear h0
    rintro ⟨i12, m14⟩ e h13 ⟨hJ, hag⟩ ih16
    have hS := hS i12 m14 h13 hJ; clear hJ
    refine Run.env hag ?_; clear hag
    refine Run.seq ?_
    refine Run.ops0 (idx := [0]) rfl ?_
    obtain ⟨hT, hF⟩ := hS
    by_cases hb18 : (i12 : Int) < ((n9 : Nat))
    · have hS := hT hb18; clear hT hF
      refine Run.go rfl rfl rfl (sem_binI .i64 (i12) ((n9 : Nat)) (.bool true) rfl rfl (binI_lss_t hb18) ?_)
      refine Run.region_end ?_
      refine Run.seq ?_
      refine Run.condT rfl ?_
      refine Run.skip ?_
      refine Run.seq ?_
      refine Run.block ?_
      refine Run.seq ?_
      refine Run.ops0 (idx := [0, 1, 2, 3, 4, 5]) rfl ?_
      refine Run.go rfl rfl rfl (sem_move ((Value.int .i64 (i12))) rfl ?_)
      obtain ⟨A19, e20, hi0, hi1, hS⟩ := hS
      refine Run.go rfl rfl rfl (sem_indexAddrS A19 n9 c10 .i64 (i12) (congrArg (fun a => Value.slice a n9 c10) e20) rfl TF.slc_166 hi0 hi1 ?_)
      obtain ⟨b21, s22, i23, hl, hS⟩ := hS
      refine Run.go rfl rfl rfl (sem_loadN (Addr.add A19 (Int.toNat (i12) * 3)) [(Value.bool b21), (Value.string s22), (Value.int .i64 (i23))] rfl TF.agg_170 TF.sz_170 hl ?_)
      refine Run.go rfl rfl rfl (sem_allocN [(Value.bool false), (Value.string ByteArray.empty), (Value.int .i64 (0))] TF.zero_170 (fun k24 hb1 hb2 h25 hb3 => ?_))
      have hS := hS k24 hb1 hb2 h25 hb3
      refine Run.go rfl rfl rfl (sem_assign ((Value.int .i64 (i12))) rfl ?_)
      obtain ⟨h26, hst, hS⟩ := hS
      refine Run.go rfl rfl rfl (sem_storeN ⟨k24, 0, none⟩ [(Value.bool b21), (Value.string s22), (Value.int .i64 (i23))] h26 rfl rfl TF.sz_170 hst ?_)
      refine Run.region_end ?_
      refine Run.seq ?_
      refine Run.ops0 (idx := [0, 1, 2, 3, 4, 5]) rfl ?_
      refine Run.go rfl rfl rfl (sem_move (v1) rfl ?_)
      refine Run.go rfl rfl rfl (sem_move ((Value.int .i64 (i12))) rfl ?_)
      refine Run.go rfl rfl rfl (sem_fieldAddr ⟨k24, 0, none⟩ 0 rfl TF.fld_170_0 ?_)
      obtain ⟨b27, s28, hl, hS⟩ := hS
      refine Run.go rfl rfl rfl (sem_loadN ⟨k24, 0, none⟩ [(Value.bool b27), (Value.string s28)] rfl TF.agg_54 TF.sz_54 hl ?_)
      refine Run.go rfl rfl rfl (sem_callV (v1) [(Value.int .i64 (i12)), (Value.agg #[(Value.bool b27), (Value.string s28)])] rfl rfl hS (fun nx h' ha => ha.mono fun v h29 hv => ?_))
      obtain ⟨b30, rfl, hS⟩ := hv
      obtain ⟨hT, hF⟩ := hS
      cases b30
      · have hS := hF rfl; clear hT hF
        refine Run.go rfl rfl rfl (sem_not false rfl ?_)
        refine Run.region_end ?_
        refine Run.condT rfl ?_
        refine Run.ret ⟨.inr rfl, ?_⟩
        exact hS.imp fun h' hq => ⟨rfl, hq⟩
      · have hS := hT rfl; clear hT hF
        refine Run.go rfl rfl rfl (sem_not true rfl ?_)
        refine Run.region_end ?_
        refine Run.condF rfl ?_
        refine Run.skip ?_
        refine Run.inBlock ?_
        refine Run.ops0 (idx := [0, 1]) rfl ?_
        refine Run.go rfl rfl rfl (sem_binI .i64 (i12) (1) ((Value.int .i64 (IntKind.wrap .i64 ((i12) + (1))))) rfl rfl rfl ?_)
        refine Run.go rfl rfl rfl (sem_move ((Value.int .i64 (IntKind.wrap .i64 ((i12) + (1))))) rfl ?_)
        refine Run.region_end ?_
        exact Run.of_fin (hS.imp fun h' ⟨m', hm, hS⟩ => ih16 ((IntKind.wrap .i64 ((i12) + (1))), m') _ _ ⟨hS, ⟨rfl, rfl, rfl, rfl, trivial⟩⟩ hm)
    · have hS := hF hb18; clear hT hF
      refine Run.go rfl rfl rfl (sem_binI .i64 (i12) ((n9 : Nat)) (.bool false) rfl rfl (binI_lss_f hb18) ?_)
      refine Run.region_end ?_
      refine Run.seq ?_
      refine Run.condF rfl ?_
      refine Run.exit rfl ?_
      refine Run.fall ⟨.inl rfl, ?_⟩
      exact hS.imp fun h' hq => ⟨rfl, hq⟩
end Go.Proofs.Ytoajfmmomgpjcaa.H
