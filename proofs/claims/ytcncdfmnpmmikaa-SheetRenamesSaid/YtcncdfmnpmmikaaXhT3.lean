/- The functions do what they ask for. No condition. -/
import Derived.Test.YtcncdfmnpmmikaaXhS
namespace Go.Proofs.Ytcncdfmnpmmikaa.H
open Go
set_option linter.unusedVariables false
set_option maxRecDepth 100000

set_option maxHeartbeats 4000000 in
theorem C_tome_New.of {B : RO} {h : Heap} {Q : Option Addr → Heap → Prop} (hS : S_tome_New B h Q) : C_tome_New B h Q := by
 unfold S_tome_New at hS
 unfold C_tome_New
 refine Spec.of_run Try.func15 (N := 5) (rs := [ResultVar.tmp 0]) rfl rfl rfl (Nat.le_of_ble_eq_true rfl) ?_
 refine Run.seq ?_
 refine Run.ops0 (idx := [0]) rfl ?_
 refine Run.go rfl rfl rfl (sem_assign ((Value.pointer none)) rfl ?_)
 refine Run.region_end ?_
 refine Run.seq ?_
 refine Run.ops0 (idx := [0, 1, 2, 3, 4]) rfl ?_
 refine Run.go rfl rfl rfl (sem_buildSL [] [(Value.bool false), (Value.string ByteArray.empty)] TF.zero_41 TF.places_41 rfl rfl ?_)
 refine Run.go rfl rfl rfl (sem_callL [(Value.int .i64 (6)), (Value.agg #[(Value.bool false), (Value.string ByteArray.empty)])] (TF.goes_60) rfl rfl (Spec.mono hS fun v h2 hv => ?_))
 obtain ⟨p3, rfl, hS⟩ := hv
 refine Run.go rfl rfl rfl (sem_buildSL [(0, (Value.pointer p3))] [(Value.pointer p3)] TF.zero_113 TF.places_113 rfl rfl ?_)
 refine Run.go rfl rfl rfl (sem_boxNN [(Value.pointer p3)] rfl (fun k4 hb1 hb2 h5 hb3 => ?_))
 have hS := hS k4 hb1 hb2 h5 hb3
 refine Run.go rfl rfl rfl (sem_assign ((Value.pointer (some ⟨k4, 0, none⟩))) rfl ?_)
 refine Run.region_end ?_
 refine Run.ret ⟨.inr rfl, ?_⟩
 exact hS.imp fun h' hq => ⟨(some ⟨k4, 0, none⟩), rfl, hq⟩
set_option maxHeartbeats 4000000 in
theorem C_sheet_Sheet_Create.of {B : RO} {p1 : Option Addr} {p2 : Option Addr} {i3 : Int} {h : Heap} {Q : Bool → Heap → Prop} (hS : S_sheet_Sheet_Create B p1 p2 i3 h Q) : C_sheet_Sheet_Create B p1 p2 i3 h Q := by
 unfold S_sheet_Sheet_Create at hS
 unfold C_sheet_Sheet_Create
 refine Spec.of_run Try.func22 (N := 22) (rs := [ResultVar.tmp 6]) rfl rfl rfl (Nat.le_of_ble_eq_true rfl) ?_
 refine Run.seq ?_
 refine Run.ops0 (idx := [0]) rfl ?_
 refine Run.go rfl rfl rfl (sem_assign ((Value.bool false)) rfl ?_)
 refine Run.region_end ?_
 refine Run.seq ?_
 refine Run.ops0 (idx := [0, 1, 2, 3, 4, 5, 6, 7, 8, 9]) rfl ?_
 refine Run.go rfl rfl rfl (sem_move ((Value.pointer p1)) rfl ?_)
 refine Run.go rfl rfl rfl (sem_move ((Value.pointer p2)) rfl ?_)
 refine Run.go rfl rfl rfl (sem_move ((Value.int .i64 (i3))) rfl ?_)
 refine Run.go rfl rfl rfl (sem_callL [(Value.pointer p1), (Value.pointer p2), (Value.int .i64 (i3))] (TF.goes_23) rfl rfl (Spec.mono hS fun v h5 hv => ?_))
 obtain ⟨b6, s7, b8, rfl, hS⟩ := hv
 refine Run.go rfl rfl rfl (sem_move ((Value.tuple #[(Value.agg #[(Value.bool b6), (Value.string s7)]), (Value.bool b8)])) rfl ?_)
 refine Run.go rfl rfl rfl (sem_extract #[(Value.agg #[(Value.bool b6), (Value.string s7)]), (Value.bool b8)] ((Value.agg #[(Value.bool b6), (Value.string s7)])) rfl rfl ?_)
 refine Run.go rfl rfl rfl (sem_extract #[(Value.agg #[(Value.bool b6), (Value.string s7)]), (Value.bool b8)] ((Value.bool b8)) rfl rfl ?_)
 refine Run.go rfl rfl rfl (sem_allocN [(Value.bool false), (Value.string ByteArray.empty)] TF.zero_41 (fun k9 hb1 hb2 h10 hb3 => ?_))
 have hS := hS k9 hb1 hb2 h10 hb3
 obtain ⟨h11, hst, hS⟩ := hS
 refine Run.go rfl rfl rfl (sem_storeN ⟨k9, 0, none⟩ [(Value.bool b6), (Value.string s7)] h11 rfl rfl TF.sz_41 hst ?_)
 refine Run.go rfl rfl rfl (sem_assign ((Value.bool b8)) rfl ?_)
 refine Run.region_end ?_
 refine Run.seq ?_
 refine Run.ops0 (idx := [0, 1, 2, 3, 4, 5, 6]) rfl ?_
 refine Run.go rfl rfl rfl (sem_move ((Value.pointer p1)) rfl ?_)
 refine Run.go rfl rfl rfl (sem_move ((Value.pointer p2)) rfl ?_)
 refine Run.go rfl rfl rfl (sem_move ((Value.int .i64 (i3))) rfl ?_)
 obtain ⟨b12, s13, hl, hS⟩ := hS
 refine Run.go rfl rfl rfl (sem_loadN ⟨k9, 0, none⟩ [(Value.bool b12), (Value.string s13)] rfl TF.agg_41 TF.sz_41 hl ?_)
 refine Run.go rfl rfl rfl (sem_callL [(Value.agg #[(Value.bool b12), (Value.string s13)])] (TF.goes_68) rfl rfl (Spec.mono hS fun v h14 hv => ?_))
 obtain ⟨b15, s16, rfl, hS⟩ := hv
 refine Run.go rfl rfl rfl (sem_callL [(Value.pointer p1), (Value.pointer p2), (Value.int .i64 (i3)), (Value.agg #[(Value.bool b15), (Value.string s16)])] (TF.goes_67) rfl rfl (Spec.mono hS fun v h17 hv => ?_))
 obtain ⟨b18, rfl, hS⟩ := hv
 refine Run.go rfl rfl rfl (sem_assign ((Value.bool b18)) rfl ?_)
 refine Run.region_end ?_
 refine Run.ret ⟨.inr rfl, ?_⟩
 exact hS.imp fun h' hq => ⟨(b18), rfl, hq⟩
set_option maxHeartbeats 4000000 in
theorem C_sheet_Sheet_Get.of {B : RO} {p1 : Option Addr} {p2 : Option Addr} {i3 : Int} {h : Heap} {Q : Bool → ByteArray → Bool → Heap → Prop} (hS : S_sheet_Sheet_Get B p1 p2 i3 h Q) : C_sheet_Sheet_Get B p1 p2 i3 h Q := by
 unfold S_sheet_Sheet_Get at hS
 unfold C_sheet_Sheet_Get
 refine Spec.of_run Try.func23 (N := 32) (rs := [ResultVar.cell 6 41, ResultVar.tmp 7]) rfl rfl rfl (Nat.le_of_ble_eq_true rfl) ?_
 refine Run.seq ?_
 refine Run.ops0 (idx := [0, 1]) rfl ?_
 refine Run.go rfl rfl rfl (sem_allocN [(Value.bool false), (Value.string ByteArray.empty)] TF.zero_41 (fun k7 hb1 hb2 h8 hb3 => ?_))
 have hS := hS k7 hb1 hb2 h8 hb3
 refine Run.go rfl rfl rfl (sem_assign ((Value.bool false)) rfl ?_)
 refine Run.region_end ?_
 refine Run.seqJ (fun e h10 => Agree [(1, (Value.pointer p2)), (2, (Value.int .i64 (i3))), (6, (Value.pointer (some ⟨k7, 0, none⟩)))] e ∧ S_sheet_Sheet_Get_J1 B p2 i3 k7 h10 Q) ?_ fun j9 => ?_
 ·rintro e h10 ⟨hag, hS⟩
  refine Run.env hag ?_; clear hag
  refine Run.seq ?_
  refine Run.ops0 (idx := [0, 1, 2, 3, 4, 5, 6, 7, 8]) rfl ?_
  refine Run.go rfl rfl rfl (sem_move ((Value.pointer p2)) rfl ?_)
  refine Run.go rfl rfl rfl (sem_move ((Value.int .i64 (i3))) rfl ?_)
  refine Run.go rfl rfl rfl (sem_callL [(Value.pointer p2), (Value.int .i64 (i3))] (TF.goes_49) rfl rfl (Spec.mono hS fun v h11 hv => ?_))
  obtain ⟨b12, s13, i14, rfl, hS⟩ := hv
  refine Run.go rfl rfl rfl (sem_move ((Value.tuple #[(Value.agg #[(Value.bool b12), (Value.string s13)]), (Value.int .i64 (i14))])) rfl ?_)
  refine Run.go rfl rfl rfl (sem_extract #[(Value.agg #[(Value.bool b12), (Value.string s13)]), (Value.int .i64 (i14))] ((Value.agg #[(Value.bool b12), (Value.string s13)])) rfl rfl ?_)
  refine Run.go rfl rfl rfl (sem_extract #[(Value.agg #[(Value.bool b12), (Value.string s13)]), (Value.int .i64 (i14))] ((Value.int .i64 (i14))) rfl rfl ?_)
  refine Run.go rfl rfl rfl (sem_allocN [(Value.bool false), (Value.string ByteArray.empty)] TF.zero_41 (fun k15 hb1 hb2 h16 hb3 => ?_))
  have hS := hS k15 hb1 hb2 h16 hb3
  obtain ⟨h17, hst, hS⟩ := hS
  refine Run.go rfl rfl rfl (sem_storeN ⟨k15, 0, none⟩ [(Value.bool b12), (Value.string s13)] h17 rfl rfl TF.sz_41 hst ?_)
  refine Run.go rfl rfl rfl (sem_assign ((Value.int .i64 (i14))) rfl ?_)
  refine Run.region_end ?_
  refine Run.seq ?_
  refine Run.ops0 (idx := [0, 1, 2]) rfl ?_
  obtain ⟨b18, s19, hl, hS⟩ := hS
  refine Run.go rfl rfl rfl (sem_loadN ⟨k15, 0, none⟩ [(Value.bool b18), (Value.string s19)] rfl TF.agg_41 TF.sz_41 hl ?_)
  obtain ⟨h20, hst, hS⟩ := hS
  refine Run.go rfl rfl rfl (sem_storeN ⟨k7, 0, none⟩ [(Value.bool b18), (Value.string s19)] h20 rfl rfl TF.sz_41 hst ?_)
  refine Run.go rfl rfl rfl (sem_assign ((Value.bool false)) rfl ?_)
  refine Run.region_end ?_
  obtain ⟨b21, s22, hl0, hS⟩ := hS
  refine Run.ret ⟨.inr rfl, ?_⟩
  exact ⟨⟨k7, 0, none⟩, (Value.agg #[(Value.bool b21), (Value.string s22)]), rfl, loadHN TF.agg_41 TF.sz_41 hl0, hS.imp fun h' hq => ⟨(b21), s22, (false), rfl, hq⟩⟩
 refine Run.seq ?_
 refine Run.ops0 (idx := [0, 1]) rfl ?_
 refine Run.go rfl rfl rfl (sem_move ((Value.pointer p1)) rfl ?_)
 obtain ⟨hT, hF⟩ := hS
 by_cases hb23 : p1 = none
 ·have hS := hT hb23; clear hT hF
  refine Run.go rfl rfl rfl (sem_ptrNilT p1 (.inr rfl) false rfl rfl TF.ptr_28 hb23 rfl ?_)
  refine Run.region_end ?_
  refine Run.condF rfl ?_
  refine Run.skip ?_
  exact Run.of_fin (hS.imp fun h' hS => j9 _ _ ⟨⟨rfl, rfl, rfl, trivial⟩, hS⟩)
 ·have hS := hF hb23; clear hT hF
  refine Run.go rfl rfl rfl (sem_ptrNilF p1 (.inr rfl) true rfl rfl TF.ptr_28 hb23 rfl ?_)
  refine Run.region_end ?_
  refine Run.condT rfl ?_
  refine Run.seq ?_
  refine Run.ops0 (idx := [0, 1, 2, 3, 4, 5, 6, 7, 8, 9, 10, 11]) rfl ?_
  refine Run.go rfl rfl rfl (sem_move ((Value.pointer p1)) rfl ?_)
  obtain ⟨A24, e25, hS⟩ := hS
  refine Run.go rfl rfl rfl (sem_nilCheck A24 (congrArg Value.pointer e25) ?_)
  refine Run.go rfl rfl rfl (sem_fieldAddr A24 0 rfl TF.fld_128_0 ?_)
  obtain ⟨p26, hl, hS⟩ := hS
  refine Run.go rfl rfl rfl (sem_load1 A24 ((Value.pointer p26)) rfl TF.agg_95 hl ?_)
  refine Run.go rfl rfl rfl (sem_move ((Value.int .i64 (i3))) rfl ?_)
  refine Run.go rfl rfl rfl (sem_callL [(Value.pointer p26), (Value.int .i64 (i3))] (TF.goes_69) rfl rfl (Spec.mono hS fun v h27 hv => ?_))
  obtain ⟨b28, s29, b30, rfl, hS⟩ := hv
  refine Run.go rfl rfl rfl (sem_move ((Value.tuple #[(Value.agg #[(Value.bool b28), (Value.string s29)]), (Value.bool b30)])) rfl ?_)
  refine Run.go rfl rfl rfl (sem_extract #[(Value.agg #[(Value.bool b28), (Value.string s29)]), (Value.bool b30)] ((Value.agg #[(Value.bool b28), (Value.string s29)])) rfl rfl ?_)
  obtain ⟨hT, hF⟩ := hS
  cases b30
  ·have hS := hF rfl; clear hT hF
   refine Run.go rfl rfl rfl (sem_extract #[(Value.agg #[(Value.bool b28), (Value.string s29)]), (Value.bool false)] (.bool false) rfl rfl ?_)
   refine Run.go rfl rfl rfl (sem_allocN [(Value.bool false), (Value.string ByteArray.empty)] TF.zero_41 (fun k31 hb1 hb2 h32 hb3 => ?_))
   have hS := hS k31 hb1 hb2 h32 hb3
   obtain ⟨h33, hst, hS⟩ := hS
   refine Run.go rfl rfl rfl (sem_storeN ⟨k31, 0, none⟩ [(Value.bool b28), (Value.string s29)] h33 rfl rfl TF.sz_41 hst ?_)
   refine Run.go rfl rfl rfl (sem_assign ((Value.bool false)) rfl ?_)
   refine Run.region_end ?_
   refine Run.seq ?_
   refine Run.ops0 (idx := [0]) rfl ?_
   refine Run.go rfl rfl rfl (sem_move ((Value.bool false)) rfl ?_)
   refine Run.region_end ?_
   refine Run.condF rfl ?_
   refine Run.skip ?_
   exact Run.of_fin (hS.imp fun h' hS => j9 _ _ ⟨⟨rfl, rfl, rfl, trivial⟩, hS⟩)
  ·have hS := hT rfl; clear hT hF
   refine Run.go rfl rfl rfl (sem_extract #[(Value.agg #[(Value.bool b28), (Value.string s29)]), (Value.bool true)] (.bool true) rfl rfl ?_)
   refine Run.go rfl rfl rfl (sem_allocN [(Value.bool false), (Value.string ByteArray.empty)] TF.zero_41 (fun k34 hb1 hb2 h35 hb3 => ?_))
   have hS := hS k34 hb1 hb2 h35 hb3
   obtain ⟨h36, hst, hS⟩ := hS
   refine Run.go rfl rfl rfl (sem_storeN ⟨k34, 0, none⟩ [(Value.bool b28), (Value.string s29)] h36 rfl rfl TF.sz_41 hst ?_)
   refine Run.go rfl rfl rfl (sem_assign ((Value.bool true)) rfl ?_)
   refine Run.region_end ?_
   refine Run.seq ?_
   refine Run.ops0 (idx := [0]) rfl ?_
   refine Run.go rfl rfl rfl (sem_move ((Value.bool true)) rfl ?_)
   refine Run.region_end ?_
   refine Run.condT rfl ?_
   refine Run.seq ?_
   refine Run.ops0 (idx := [0, 1, 2]) rfl ?_
   obtain ⟨b37, s38, hl, hS⟩ := hS
   refine Run.go rfl rfl rfl (sem_loadN ⟨k34, 0, none⟩ [(Value.bool b37), (Value.string s38)] rfl TF.agg_41 TF.sz_41 hl ?_)
   obtain ⟨h39, hst, hS⟩ := hS
   refine Run.go rfl rfl rfl (sem_storeN ⟨k7, 0, none⟩ [(Value.bool b37), (Value.string s38)] h39 rfl rfl TF.sz_41 hst ?_)
   refine Run.go rfl rfl rfl (sem_assign ((Value.bool true)) rfl ?_)
   refine Run.region_end ?_
   obtain ⟨b40, s41, hl0, hS⟩ := hS
   refine Run.ret ⟨.inr rfl, ?_⟩
   exact ⟨⟨k7, 0, none⟩, (Value.agg #[(Value.bool b40), (Value.string s41)]), rfl, loadHN TF.agg_41 TF.sz_41 hl0, hS.imp fun h' hq => ⟨(b40), s41, (true), rfl, hq⟩⟩
set_option maxHeartbeats 4000000 in
theorem C_countermandlaw14_alive.of {B : RO} {h : Heap} {Q : Bool → Heap → Prop} (hS : S_countermandlaw14_alive B h Q) : C_countermandlaw14_alive B h Q := by
 unfold S_countermandlaw14_alive at hS
 unfold C_countermandlaw14_alive
 refine Spec.of_run Try.func42 (N := 41) (rs := [ResultVar.tmp 0]) rfl rfl rfl (Nat.le_of_ble_eq_true rfl) ?_
 refine Run.seq ?_
 refine Run.ops0 (idx := [0]) rfl ?_
 refine Run.go rfl rfl rfl (sem_assign ((Value.bool false)) rfl ?_)
 refine Run.region_end ?_
 refine Run.seq ?_
 refine Run.ops0 (idx := [0, 1, 2, 3]) rfl ?_
 refine Run.go rfl rfl rfl (sem_callL [] (TF.goes_61) rfl rfl (Spec.mono hS fun v h2 hv => ?_))
 obtain ⟨p3, rfl, hS⟩ := hv
 refine Run.go rfl rfl rfl (sem_callL [] (TF.goes_15) rfl rfl (Spec.mono hS fun v h4 hv => ?_))
 obtain ⟨p5, rfl, hS⟩ := hv
 refine Run.go rfl rfl rfl (sem_assign ((Value.pointer p3)) rfl ?_)
 refine Run.go rfl rfl rfl (sem_assign ((Value.pointer p5)) rfl ?_)
 refine Run.region_end ?_
 refine Run.seqJ (fun e h7 => Agree [(1, (Value.pointer p3)), (2, (Value.pointer p5))] e ∧ S_countermandlaw14_alive_J1 B p3 p5 h7 Q) ?_ fun j6 => ?_
 ·rintro e h7 ⟨hag, hS⟩
  refine Run.env hag ?_; clear hag
  refine Run.seq ?_
  refine Run.ops0 (idx := [0, 1, 2, 3, 4, 5, 6, 7, 8]) rfl ?_
  refine Run.go rfl rfl rfl (sem_move ((Value.pointer p3)) rfl ?_)
  refine Run.go rfl rfl rfl (sem_move ((Value.pointer p5)) rfl ?_)
  refine Run.go rfl rfl rfl (sem_callL [(Value.pointer p3), (Value.pointer p5), (Value.int .i64 (2))] (TF.goes_23) rfl rfl (Spec.mono hS fun v h8 hv => ?_))
  obtain ⟨b9, s10, b11, rfl, hS⟩ := hv
  refine Run.go rfl rfl rfl (sem_move ((Value.tuple #[(Value.agg #[(Value.bool b9), (Value.string s10)]), (Value.bool b11)])) rfl ?_)
  refine Run.go rfl rfl rfl (sem_extract #[(Value.agg #[(Value.bool b9), (Value.string s10)]), (Value.bool b11)] ((Value.agg #[(Value.bool b9), (Value.string s10)])) rfl rfl ?_)
  obtain ⟨hT, hF⟩ := hS
  cases b11
  ·have hS := hF rfl; clear hT hF
   refine Run.go rfl rfl rfl (sem_extract #[(Value.agg #[(Value.bool b9), (Value.string s10)]), (Value.bool false)] (.bool false) rfl rfl ?_)
   refine Run.go rfl rfl rfl (sem_allocN [(Value.bool false), (Value.string ByteArray.empty)] TF.zero_41 (fun k12 hb1 hb2 h13 hb3 => ?_))
   have hS := hS k12 hb1 hb2 h13 hb3
   obtain ⟨h14, hst, hS⟩ := hS
   refine Run.go rfl rfl rfl (sem_storeN ⟨k12, 0, none⟩ [(Value.bool b9), (Value.string s10)] h14 rfl rfl TF.sz_41 hst ?_)
   refine Run.go rfl rfl rfl (sem_assign ((Value.bool false)) rfl ?_)
   refine Run.region_end ?_
   refine Run.seq ?_
   refine Run.ops0 (idx := [0, 1, 2, 3, 4, 5, 6, 7, 8]) rfl ?_
   refine Run.go rfl rfl rfl (sem_move ((Value.pointer p3)) rfl ?_)
   refine Run.go rfl rfl rfl (sem_move ((Value.pointer p5)) rfl ?_)
   refine Run.go rfl rfl rfl (sem_callL [(Value.pointer p3), (Value.pointer p5), (Value.int .i64 (1))] (TF.goes_23) rfl rfl (Spec.mono hS fun v h15 hv => ?_))
   obtain ⟨b16, s17, b18, rfl, hS⟩ := hv
   refine Run.go rfl rfl rfl (sem_move ((Value.tuple #[(Value.agg #[(Value.bool b16), (Value.string s17)]), (Value.bool b18)])) rfl ?_)
   refine Run.go rfl rfl rfl (sem_extract #[(Value.agg #[(Value.bool b16), (Value.string s17)]), (Value.bool b18)] ((Value.agg #[(Value.bool b16), (Value.string s17)])) rfl rfl ?_)
   refine Run.go rfl rfl rfl (sem_extract #[(Value.agg #[(Value.bool b16), (Value.string s17)]), (Value.bool b18)] ((Value.bool b18)) rfl rfl ?_)
   refine Run.go rfl rfl rfl (sem_allocN [(Value.bool false), (Value.string ByteArray.empty)] TF.zero_41 (fun k19 hb1 hb2 h20 hb3 => ?_))
   have hS := hS k19 hb1 hb2 h20 hb3
   obtain ⟨h21, hst, hS⟩ := hS
   refine Run.go rfl rfl rfl (sem_storeN ⟨k19, 0, none⟩ [(Value.bool b16), (Value.string s17)] h21 rfl rfl TF.sz_41 hst ?_)
   refine Run.go rfl rfl rfl (sem_assign ((Value.bool b18)) rfl ?_)
   refine Run.region_end ?_
   refine Run.seq ?_
   refine Run.ops0 (idx := [0, 1, 2, 3, 4, 5, 6, 7, 8, 9, 10]) rfl ?_
   refine Run.go rfl rfl rfl (sem_fieldAddr ⟨k12, 0, none⟩ 0 rfl TF.fld_41_0 ?_)
   obtain ⟨b22, hl, hS⟩ := hS
   obtain ⟨hT, hF⟩ := hS
   cases b22
   ·have hS := hF rfl; clear hT hF
    refine Run.go rfl rfl rfl (sem_load1 ⟨k12, 0, none⟩ (.bool false) rfl TF.agg_4 hl ?_)
    refine Run.go rfl rfl rfl (sem_move ((Value.bool false)) rfl ?_)
    refine Run.no rfl rfl rfl ?_
    refine Run.go rfl rfl rfl (sem_pick false ((Value.bool false)) rfl rfl ?_)
    refine Run.go rfl rfl rfl (sem_move ((Value.bool false)) rfl ?_)
    refine Run.no rfl rfl rfl ?_
    refine Run.no rfl rfl rfl ?_
    refine Run.no rfl rfl rfl ?_
    refine Run.go rfl rfl rfl (sem_pick false ((Value.bool false)) rfl rfl ?_)
    refine Run.go rfl rfl rfl (sem_assign ((Value.bool false)) rfl ?_)
    refine Run.region_end ?_
    refine Run.ret ⟨.inr rfl, ?_⟩
    exact hS.imp fun h' hq => ⟨(false), rfl, hq⟩
   ·have hS := hT rfl; clear hT hF
    refine Run.go rfl rfl rfl (sem_load1 ⟨k12, 0, none⟩ (.bool true) rfl TF.agg_4 hl ?_)
    refine Run.go rfl rfl rfl (sem_move ((Value.bool true)) rfl ?_)
    refine Run.go rfl rfl rfl (sem_move ((Value.bool false)) rfl ?_)
    refine Run.go rfl rfl rfl (sem_pick true ((Value.bool false)) rfl rfl ?_)
    refine Run.go rfl rfl rfl (sem_move ((Value.bool false)) rfl ?_)
    refine Run.no rfl rfl rfl ?_
    refine Run.no rfl rfl rfl ?_
    refine Run.no rfl rfl rfl ?_
    refine Run.go rfl rfl rfl (sem_pick false ((Value.bool false)) rfl rfl ?_)
    refine Run.go rfl rfl rfl (sem_assign ((Value.bool false)) rfl ?_)
    refine Run.region_end ?_
    refine Run.ret ⟨.inr rfl, ?_⟩
    exact hS.imp fun h' hq => ⟨(false), rfl, hq⟩
  ·have hS := hT rfl; clear hT hF
   refine Run.go rfl rfl rfl (sem_extract #[(Value.agg #[(Value.bool b9), (Value.string s10)]), (Value.bool true)] (.bool true) rfl rfl ?_)
   refine Run.go rfl rfl rfl (sem_allocN [(Value.bool false), (Value.string ByteArray.empty)] TF.zero_41 (fun k23 hb1 hb2 h24 hb3 => ?_))
   have hS := hS k23 hb1 hb2 h24 hb3
   obtain ⟨h25, hst, hS⟩ := hS
   refine Run.go rfl rfl rfl (sem_storeN ⟨k23, 0, none⟩ [(Value.bool b9), (Value.string s10)] h25 rfl rfl TF.sz_41 hst ?_)
   refine Run.go rfl rfl rfl (sem_assign ((Value.bool true)) rfl ?_)
   refine Run.region_end ?_
   refine Run.seq ?_
   refine Run.ops0 (idx := [0, 1, 2, 3, 4, 5, 6, 7, 8]) rfl ?_
   refine Run.go rfl rfl rfl (sem_move ((Value.pointer p3)) rfl ?_)
   refine Run.go rfl rfl rfl (sem_move ((Value.pointer p5)) rfl ?_)
   refine Run.go rfl rfl rfl (sem_callL [(Value.pointer p3), (Value.pointer p5), (Value.int .i64 (1))] (TF.goes_23) rfl rfl (Spec.mono hS fun v h26 hv => ?_))
   obtain ⟨b27, s28, b29, rfl, hS⟩ := hv
   refine Run.go rfl rfl rfl (sem_move ((Value.tuple #[(Value.agg #[(Value.bool b27), (Value.string s28)]), (Value.bool b29)])) rfl ?_)
   refine Run.go rfl rfl rfl (sem_extract #[(Value.agg #[(Value.bool b27), (Value.string s28)]), (Value.bool b29)] ((Value.agg #[(Value.bool b27), (Value.string s28)])) rfl rfl ?_)
   refine Run.go rfl rfl rfl (sem_extract #[(Value.agg #[(Value.bool b27), (Value.string s28)]), (Value.bool b29)] ((Value.bool b29)) rfl rfl ?_)
   refine Run.go rfl rfl rfl (sem_allocN [(Value.bool false), (Value.string ByteArray.empty)] TF.zero_41 (fun k30 hb1 hb2 h31 hb3 => ?_))
   have hS := hS k30 hb1 hb2 h31 hb3
   obtain ⟨h32, hst, hS⟩ := hS
   refine Run.go rfl rfl rfl (sem_storeN ⟨k30, 0, none⟩ [(Value.bool b27), (Value.string s28)] h32 rfl rfl TF.sz_41 hst ?_)
   refine Run.go rfl rfl rfl (sem_assign ((Value.bool b29)) rfl ?_)
   refine Run.region_end ?_
   refine Run.seq ?_
   refine Run.ops0 (idx := [0, 1, 2, 3, 4, 5, 6, 7, 8, 9, 10]) rfl ?_
   refine Run.go rfl rfl rfl (sem_fieldAddr ⟨k23, 0, none⟩ 0 rfl TF.fld_41_0 ?_)
   obtain ⟨b33, hl, hS⟩ := hS
   obtain ⟨hT, hF⟩ := hS
   cases b33
   ·have hS := hF rfl; clear hT hF
    refine Run.go rfl rfl rfl (sem_load1 ⟨k23, 0, none⟩ (.bool false) rfl TF.agg_4 hl ?_)
    refine Run.go rfl rfl rfl (sem_move ((Value.bool false)) rfl ?_)
    refine Run.no rfl rfl rfl ?_
    refine Run.go rfl rfl rfl (sem_pick false ((Value.bool false)) rfl rfl ?_)
    refine Run.go rfl rfl rfl (sem_move ((Value.bool false)) rfl ?_)
    refine Run.no rfl rfl rfl ?_
    refine Run.no rfl rfl rfl ?_
    refine Run.no rfl rfl rfl ?_
    refine Run.go rfl rfl rfl (sem_pick false ((Value.bool false)) rfl rfl ?_)
    refine Run.go rfl rfl rfl (sem_assign ((Value.bool false)) rfl ?_)
    refine Run.region_end ?_
    refine Run.ret ⟨.inr rfl, ?_⟩
    exact hS.imp fun h' hq => ⟨(false), rfl, hq⟩
   ·have hS := hT rfl; clear hT hF
    refine Run.go rfl rfl rfl (sem_load1 ⟨k23, 0, none⟩ (.bool true) rfl TF.agg_4 hl ?_)
    refine Run.go rfl rfl rfl (sem_move ((Value.bool true)) rfl ?_)
    refine Run.go rfl rfl rfl (sem_move ((Value.bool true)) rfl ?_)
    refine Run.go rfl rfl rfl (sem_pick true ((Value.bool true)) rfl rfl ?_)
    refine Run.go rfl rfl rfl (sem_move ((Value.bool true)) rfl ?_)
    refine Run.go rfl rfl rfl (sem_fieldAddr ⟨k30, 0, none⟩ 0 rfl TF.fld_41_0 ?_)
    obtain ⟨b34, hl, hS⟩ := hS
    refine Run.go rfl rfl rfl (sem_load1 ⟨k30, 0, none⟩ ((Value.bool b34)) rfl TF.agg_4 hl ?_)
    refine Run.go rfl rfl rfl (sem_not b34 rfl ?_)
    refine Run.go rfl rfl rfl (sem_pick true ((Value.bool (!b34))) rfl rfl ?_)
    refine Run.go rfl rfl rfl (sem_assign ((Value.bool (!b34))) rfl ?_)
    refine Run.region_end ?_
    refine Run.ret ⟨.inr rfl, ?_⟩
    exact hS.imp fun h' hq => ⟨((!b34)), rfl, hq⟩
 refine Run.seq ?_
 refine Run.ops0 (idx := [0, 1, 2, 3, 4, 5, 6, 7, 8, 9]) rfl ?_
 refine Run.go rfl rfl rfl (sem_move ((Value.pointer p3)) rfl ?_)
 refine Run.go rfl rfl rfl (sem_move ((Value.pointer p5)) rfl ?_)
 refine Run.go rfl rfl rfl (sem_callL [(Value.pointer p3), (Value.pointer p5), (Value.int .i64 (1))] (TF.goes_22) rfl rfl (Spec.mono hS fun v h35 hv => ?_))
 obtain ⟨b36, rfl, hS⟩ := hv
 obtain ⟨hT, hF⟩ := hS
 cases b36
 ·have hS := hF rfl; clear hT hF
  refine Run.go rfl rfl rfl (sem_not false rfl ?_)
  refine Run.go rfl rfl rfl (sem_move ((Value.bool true)) rfl ?_)
  refine Run.no rfl rfl rfl ?_
  refine Run.no rfl rfl rfl ?_
  refine Run.no rfl rfl rfl ?_
  refine Run.no rfl rfl rfl ?_
  refine Run.go rfl rfl rfl (sem_pick true ((Value.bool true)) rfl rfl ?_)
  refine Run.region_end ?_
  refine Run.condT rfl ?_
  refine Run.seq ?_
  refine Run.ops0 (idx := [0]) rfl ?_
  refine Run.go rfl rfl rfl (sem_assign ((Value.bool false)) rfl ?_)
  refine Run.region_end ?_
  refine Run.ret ⟨.inr rfl, ?_⟩
  exact hS.imp fun h' hq => ⟨(false), rfl, hq⟩
 ·have hS := hT rfl; clear hT hF
  refine Run.go rfl rfl rfl (sem_not true rfl ?_)
  refine Run.go rfl rfl rfl (sem_move ((Value.bool false)) rfl ?_)
  refine Run.go rfl rfl rfl (sem_move ((Value.pointer p3)) rfl ?_)
  refine Run.go rfl rfl rfl (sem_move ((Value.pointer p5)) rfl ?_)
  refine Run.go rfl rfl rfl (sem_callL [(Value.pointer p3), (Value.pointer p5), (Value.int .i64 (1)), (Value.int .i64 (2))] (TF.goes_45) rfl rfl (Spec.mono hS fun v h37 hv => ?_))
  obtain ⟨b38, rfl, hS⟩ := hv
  obtain ⟨hT, hF⟩ := hS
  cases b38
  ·have hS := hF rfl; clear hT hF
   refine Run.go rfl rfl rfl (sem_not false rfl ?_)
   refine Run.go rfl rfl rfl (sem_pick false ((Value.bool true)) rfl rfl ?_)
   refine Run.region_end ?_
   refine Run.condT rfl ?_
   refine Run.seq ?_
   refine Run.ops0 (idx := [0]) rfl ?_
   refine Run.go rfl rfl rfl (sem_assign ((Value.bool false)) rfl ?_)
   refine Run.region_end ?_
   refine Run.ret ⟨.inr rfl, ?_⟩
   exact hS.imp fun h' hq => ⟨(false), rfl, hq⟩
  ·have hS := hT rfl; clear hT hF
   refine Run.go rfl rfl rfl (sem_not true rfl ?_)
   refine Run.go rfl rfl rfl (sem_pick false ((Value.bool false)) rfl rfl ?_)
   refine Run.region_end ?_
   refine Run.condF rfl ?_
   refine Run.skip ?_
   exact Run.of_fin (hS.imp fun h' hS => j6 _ _ ⟨⟨rfl, rfl, trivial⟩, hS⟩)
set_option maxHeartbeats 4000000 in
theorem C_countermandlaw14_build.of {B : RO} {l1 : List Value} {h : Heap} {Q : Option Addr → Option Addr → Option Addr → Bool → Heap → Prop} (hS : S_countermandlaw14_build B l1 h Q) : C_countermandlaw14_build B l1 h Q := by
 unfold S_countermandlaw14_build at hS
 unfold C_countermandlaw14_build
 refine Spec.of_run Try.func43 (N := 45) (rs := [ResultVar.tmp 2, ResultVar.tmp 3, ResultVar.tmp 4, ResultVar.tmp 5]) rfl rfl rfl (Nat.le_of_ble_eq_true rfl) ?_
 refine Run.seq ?_
 refine Run.ops0 (idx := [0, 1, 2, 3, 4]) rfl ?_
 refine Run.go rfl rfl rfl (sem_boxNN l1 rfl (fun k6 hb1 hb2 h7 hb3 => ?_))
 have hS := hS k6 hb1 hb2 h7 hb3
 refine Run.go rfl rfl rfl (sem_assign ((Value.pointer none)) rfl ?_)
 refine Run.go rfl rfl rfl (sem_assign ((Value.pointer none)) rfl ?_)
 refine Run.go rfl rfl rfl (sem_assign ((Value.pointer none)) rfl ?_)
 refine Run.go rfl rfl rfl (sem_assign ((Value.bool false)) rfl ?_)
 refine Run.region_end ?_
 refine Run.seq ?_
 refine Run.ops0 (idx := [0, 1]) rfl ?_
 refine Run.go rfl rfl rfl (sem_callL [] (TF.goes_15) rfl rfl (Spec.mono hS fun v h8 hv => ?_))
 obtain ⟨p9, rfl, hS⟩ := hv
 refine Run.go rfl rfl rfl (sem_assign ((Value.pointer p9)) rfl ?_)
 refine Run.region_end ?_
 refine Run.seq ?_
 refine Run.ops0 (idx := [0, 1, 2]) rfl ?_
 refine Run.go rfl rfl rfl (sem_buildSL [] [(Value.bool false), (Value.string ByteArray.empty), (Value.bool false), (Value.string ByteArray.empty), (Value.bool false), (Value.string ByteArray.empty), (Value.bool false), (Value.string ByteArray.empty), (Value.bool false), (Value.string ByteArray.empty), (Value.bool false), (Value.string ByteArray.empty), (Value.bool false), (Value.string ByteArray.empty), (Value.bool false), (Value.string ByteArray.empty), (Value.bool false), (Value.string ByteArray.empty), (Value.bool false), (Value.string ByteArray.empty), (Value.bool false), (Value.string ByteArray.empty), (Value.bool false), (Value.string ByteArray.empty), (Value.bool false), (Value.bool false), (Value.bool false), (Value.bool false), (Value.bool false), (Value.bool false)] TF.zero_86 TF.places_86 rfl rfl ?_)
 refine Run.go rfl rfl rfl (sem_boxNN [(Value.bool false), (Value.string ByteArray.empty), (Value.bool false), (Value.string ByteArray.empty), (Value.bool false), (Value.string ByteArray.empty), (Value.bool false), (Value.string ByteArray.empty), (Value.bool false), (Value.string ByteArray.empty), (Value.bool false), (Value.string ByteArray.empty), (Value.bool false), (Value.string ByteArray.empty), (Value.bool false), (Value.string ByteArray.empty), (Value.bool false), (Value.string ByteArray.empty), (Value.bool false), (Value.string ByteArray.empty), (Value.bool false), (Value.string ByteArray.empty), (Value.bool false), (Value.string ByteArray.empty), (Value.bool false), (Value.bool false), (Value.bool false), (Value.bool false), (Value.bool false), (Value.bool false)] rfl (fun k10 hb1 hb2 h11 hb3 => ?_))
 have hS := hS k10 hb1 hb2 h11 hb3
 refine Run.go rfl rfl rfl (sem_assign ((Value.pointer (some ⟨k10, 0, none⟩))) rfl ?_)
 refine Run.region_end ?_
 refine Run.seqJ (fun e h13 => Agree [(6, (Value.pointer p9)), (7, (Value.pointer (some ⟨k10, 0, none⟩)))] e ∧ S_countermandlaw14_build_J1 B p9 k10 h13 Q) ?_ fun j12 => ?_
 ·rintro e h13 ⟨hag, hS⟩
  refine Run.env hag ?_; clear hag
  refine Run.seq ?_
  refine Run.ops0 (idx := [0, 1, 2, 3, 4, 5, 6]) rfl ?_
  refine Run.go rfl rfl rfl (sem_move ((Value.pointer p9)) rfl ?_)
  refine Run.go rfl rfl rfl (sem_callL [] (TF.goes_61) rfl rfl (Spec.mono hS fun v h14 hv => ?_))
  obtain ⟨p15, rfl, hS⟩ := hv
  refine Run.go rfl rfl rfl (sem_move ((Value.pointer (some ⟨k10, 0, none⟩))) rfl ?_)
  refine Run.go rfl rfl rfl (sem_assign ((Value.pointer p9)) rfl ?_)
  refine Run.go rfl rfl rfl (sem_assign ((Value.pointer p15)) rfl ?_)
  refine Run.go rfl rfl rfl (sem_assign ((Value.pointer (some ⟨k10, 0, none⟩))) rfl ?_)
  refine Run.go rfl rfl rfl (sem_assign ((Value.bool true)) rfl ?_)
  refine Run.region_end ?_
  refine Run.ret ⟨.inr rfl, ?_⟩
  exact hS.imp fun h' hq => ⟨p9, p15, (some ⟨k10, 0, none⟩), (true), rfl, hq⟩
 refine Run.seq ?_
 refine Run.ops0 (idx := [0, 1]) rfl ?_
 obtain ⟨l16, hln, hl, hS⟩ := hS
 refine Run.go rfl rfl rfl (sem_loadN ⟨k6, 0, none⟩ l16 rfl TF.agg_71 (TF.sz_71.trans (congrArg some hln.symm)) hl ?_)
 refine Run.go rfl rfl rfl (sem_move ((Value.int .i64 (0))) rfl ?_)
 refine Run.region_end ?_
 refine Run.block ?_
 obtain ⟨J22, m20, h0, hS⟩ := hS
 refine Run.of_fin (h0.imp fun h' h0 => ?_)
 refine Run.loop (σ := Int × Nat) (fun x e h => J22 x.1 x.2 h ∧ Agree [(6, (Value.pointer p9)), (7, (Value.pointer (some ⟨k10, 0, none⟩))), (13, (Value.agg (List.toArray l16))), (14, (Value.int .i64 (x.1)))] e) (fun x => x.2) ((0), m20) ⟨h0, ⟨rfl, rfl, rfl, rfl, trivial⟩⟩ ?_; clear h0
 rintro ⟨i17, m19⟩ e h18 ⟨hJ, hag⟩ ih21
 have hS := hS i17 m19 h18 hJ; clear hJ
 refine Run.env hag ?_; clear hag
 refine Run.seq ?_
 refine Run.ops0 (idx := [0]) rfl ?_
 obtain ⟨hT, hF⟩ := hS
 by_cases hb23 : (i17 : Int) < (6)
 ·have hS := hT hb23; clear hT hF
  refine Run.go rfl rfl rfl (sem_binI .i64 (i17) (6) (.bool true) rfl rfl (binI_lss_t hb23) ?_)
  refine Run.region_end ?_
  refine Run.seq ?_
  refine Run.condT rfl ?_
  refine Run.skip ?_
  refine Run.seq ?_
  refine Run.block ?_
  refine Run.seq ?_
  refine Run.ops0 (idx := [0, 1, 2, 3, 4]) rfl ?_
  refine Run.go rfl rfl rfl (sem_move ((Value.int .i64 (i17))) rfl ?_)
  obtain ⟨hi0, hi1, b24, s25, hix, hS⟩ := hS
  refine Run.go rfl rfl rfl (sem_indexArr (List.toArray l16) (Value.agg #[(Value.bool b24), (Value.string s25)]) .i64 (i17) rfl rfl TF.arr_71 hi0 hi1 (congrArg (fun a => some (Value.agg a)) hix) ?_)
  refine Run.go rfl rfl rfl (sem_allocN [(Value.bool false), (Value.string ByteArray.empty)] TF.zero_41 (fun k26 hb1 hb2 h27 hb3 => ?_))
  have hS := hS k26 hb1 hb2 h27 hb3
  refine Run.go rfl rfl rfl (sem_assign ((Value.int .i64 (i17))) rfl ?_)
  obtain ⟨h28, hst, hS⟩ := hS
  refine Run.go rfl rfl rfl (sem_storeN ⟨k26, 0, none⟩ [(Value.bool b24), (Value.string s25)] h28 rfl rfl TF.sz_41 hst ?_)
  refine Run.region_end ?_
  refine Run.seq ?_
  refine Run.seq ?_
  refine Run.ops0 (idx := [0, 1, 2, 3, 4, 5]) rfl ?_
  refine Run.go rfl rfl rfl (sem_move ((Value.pointer p9)) rfl ?_)
  refine Run.go rfl rfl rfl (sem_move ((Value.int .i64 (i17))) rfl ?_)
  obtain ⟨b29, s30, hl, hS⟩ := hS
  refine Run.go rfl rfl rfl (sem_loadN ⟨k26, 0, none⟩ [(Value.bool b29), (Value.string s30)] rfl TF.agg_41 TF.sz_41 hl ?_)
  refine Run.go rfl rfl rfl (sem_move ((Value.int .i64 (i17))) rfl ?_)
  refine Run.go rfl rfl rfl (sem_callL [(Value.pointer p9), (Value.int .i64 (i17)), (Value.agg #[(Value.bool b29), (Value.string s30)]), (Value.int .i64 (i17))] (TF.goes_85) rfl rfl (Spec.mono hS fun v h31 hv => ?_))
  obtain ⟨b32, rfl, hS⟩ := hv
  obtain ⟨hT, hF⟩ := hS
  cases b32
  ·have hS := hF rfl; clear hT hF
   refine Run.go rfl rfl rfl (sem_not false rfl ?_)
   refine Run.region_end ?_
   refine Run.condT rfl ?_
   refine Run.seq ?_
   refine Run.ops0 (idx := [0, 1, 2, 3]) rfl ?_
   refine Run.go rfl rfl rfl (sem_assign ((Value.pointer none)) rfl ?_)
   refine Run.go rfl rfl rfl (sem_assign ((Value.pointer none)) rfl ?_)
   refine Run.go rfl rfl rfl (sem_assign ((Value.pointer none)) rfl ?_)
   refine Run.go rfl rfl rfl (sem_assign ((Value.bool false)) rfl ?_)
   refine Run.region_end ?_
   refine Run.ret ⟨.inr rfl, ?_⟩
   exact hS.imp fun h' hq => ⟨none, none, none, (false), rfl, hq⟩
  ·have hS := hT rfl; clear hT hF
   refine Run.go rfl rfl rfl (sem_not true rfl ?_)
   refine Run.region_end ?_
   refine Run.condF rfl ?_
   refine Run.skip ?_
   refine Run.seq ?_
   refine Run.drawM (fun h' => h' = h31) [6] ⟨[0, 0, 0, 1, 8, 23, 39], [127, 127, 127, 126, 119, 109, 91], [0, 0, 0, 1, 9, 31, 63], 64⟩ (.q 0 (.q 1 (.q 2 (.q 3 (.q 4 (.q 5 (.x 6 .nil .no))))))) TF.mixed (by kernel_rfl) rfl ?_
   refine RunT.quiet rfl rfl rfl (quiet_eq (sem_move ((Value.pointer (some ⟨k10, 0, none⟩))) rfl ⟨rfl, rfl⟩)) ?_
   refine RunT.quiet rfl rfl rfl (quiet_eq (sem_move ((Value.int .i64 (i17))) rfl ⟨rfl, rfl⟩)) ?_
   obtain ⟨b33, s34, hl, hS⟩ := hS
   refine RunT.quiet rfl rfl rfl (quiet_eq (sem_loadN ⟨k26, 0, none⟩ [(Value.bool b33), (Value.string s34)] rfl TF.agg_41 TF.sz_41 hl ⟨rfl, rfl⟩)) ?_
   refine RunT.quiet rfl rfl rfl (quiet_eq (sem_nilCheck ⟨k10, 0, none⟩ rfl ⟨rfl, rfl⟩)) ?_
   refine RunT.quiet rfl rfl rfl (quiet_eq (sem_fieldAddr ⟨k10, 0, none⟩ 0 rfl TF.fld_86_0 ⟨rfl, rfl⟩)) ?_
   obtain ⟨hi0, hi1, hS⟩ := hS
   refine RunT.quiet rfl rfl rfl (quiet_eq (sem_indexAddrA ⟨k10, 0, none⟩ .i64 (i17) rfl rfl TF.arr_77 hi0 hi1 ⟨rfl, rfl⟩)) ?_
   refine ⟨?_, trivial⟩
   obtain ⟨h35, hst, hS⟩ := hS
   refine OpH.go rfl rfl rfl (sem_storeN (Addr.add ⟨k10, 0, none⟩ (Int.toNat (i17) * 2)) [(Value.bool b33), (Value.string s34)] h35 rfl rfl TF.sz_76 hst ?_)
   refine ⟨fun hz => Bool.noConfusion hz, ?_⟩
   refine Run.drawM (fun h' => h' = h35) [11] ⟨[0, 0, 0, 0, 4, 16, 40, 64, 1, 256, 767, 1279], [4095, 4095, 4095, 4095, 4091, 4079, 4055, 4031, 4094, 3839, 3581, 2943], [0, 0, 0, 0, 4, 20, 60, 124, 1, 257, 1023, 2047], 2048⟩ (.q 0 (.q 1 (.q 2 (.q 3 (.q 4 (.q 5 (.q 6 (.q 7 (.q 8 (.q 9 (.q 10 (.x 11 .nil .no)))))))))))) TF.mixed (by kernel_rfl) rfl ?_
   refine RunT.quiet rfl rfl rfl (quiet_eq (sem_move ((Value.pointer (some ⟨k10, 0, none⟩))) rfl ⟨rfl, rfl⟩)) ?_
   refine RunT.quiet rfl rfl rfl (quiet_eq (sem_move ((Value.int .i64 (i17))) rfl ⟨rfl, rfl⟩)) ?_
   refine RunT.quiet rfl rfl rfl (quiet_eq (sem_move ((Value.pointer (some ⟨k10, 0, none⟩))) rfl ⟨rfl, rfl⟩)) ?_
   refine RunT.quiet rfl rfl rfl (quiet_eq (sem_move ((Value.int .i64 (i17))) rfl ⟨rfl, rfl⟩)) ?_
   refine RunT.quiet rfl rfl rfl (quiet_eq (sem_nilCheck ⟨k10, 0, none⟩ rfl ⟨rfl, rfl⟩)) ?_
   refine RunT.quiet rfl rfl rfl (quiet_eq (sem_fieldAddr ⟨k10, 0, none⟩ 0 rfl TF.fld_86_0 ⟨rfl, rfl⟩)) ?_
   obtain ⟨hi0, hi1, hS⟩ := hS
   refine RunT.quiet rfl rfl rfl (quiet_eq (sem_indexAddrA ⟨k10, 0, none⟩ .i64 (i17) rfl rfl TF.arr_77 hi0 hi1 ⟨rfl, rfl⟩)) ?_
   obtain ⟨b36, s37, hl, hS⟩ := hS
   refine RunT.quiet rfl rfl rfl (quiet_eq (sem_loadN (Addr.add ⟨k10, 0, none⟩ (Int.toNat (i17) * 2)) [(Value.bool b36), (Value.string s37)] rfl TF.agg_76 TF.sz_76 hl ⟨rfl, rfl⟩)) ?_
   refine RunT.quiet rfl rfl rfl (quiet_eq (sem_nilCheck ⟨k10, 0, none⟩ rfl ⟨rfl, rfl⟩)) ?_
   refine RunT.quiet rfl rfl rfl (quiet_eq (sem_fieldAddr ⟨k10, 0, none⟩ 12 rfl TF.fld_86_1 ⟨rfl, rfl⟩)) ?_
   obtain ⟨hi0, hi1, hS⟩ := hS
   refine RunT.quiet rfl rfl rfl (quiet_eq (sem_indexAddrA ⟨k10, 12, none⟩ .i64 (i17) rfl rfl TF.arr_77 hi0 hi1 ⟨rfl, rfl⟩)) ?_
   refine ⟨?_, trivial⟩
   obtain ⟨h38, hst, hS⟩ := hS
   refine OpH.go rfl rfl rfl (sem_storeN (Addr.add ⟨k10, 12, none⟩ (Int.toNat (i17) * 2)) [(Value.bool b36), (Value.string s37)] h38 rfl rfl TF.sz_76 hst ?_)
   refine ⟨fun hz => Bool.noConfusion hz, ?_⟩
   refine Run.inBlock ?_
   refine Run.ops0 (idx := [0, 1]) rfl ?_
   refine Run.go rfl rfl rfl (sem_binI .i64 (i17) (1) ((Value.int .i64 (IntKind.wrap .i64 ((i17) + (1))))) rfl rfl rfl ?_)
   refine Run.go rfl rfl rfl (sem_move ((Value.int .i64 (IntKind.wrap .i64 ((i17) + (1))))) rfl ?_)
   refine Run.region_end ?_
   exact Run.of_fin (hS.imp fun h' ⟨m', hm, hS⟩ => ih21 ((IntKind.wrap .i64 ((i17) + (1))), m') _ _ ⟨hS, ⟨rfl, rfl, rfl, rfl, trivial⟩⟩ hm)
 ·have hS := hF hb23; clear hT hF
  refine Run.go rfl rfl rfl (sem_binI .i64 (i17) (6) (.bool false) rfl rfl (binI_lss_f hb23) ?_)
  refine Run.region_end ?_
  refine Run.seq ?_
  refine Run.condF rfl ?_
  refine Run.exit rfl ?_
  exact Run.of_fin (hS.imp fun h' hS => j12 _ _ ⟨⟨rfl, rfl, trivial⟩, hS⟩)
set_option maxHeartbeats 4000000 in
theorem C_countermandref14_Is.of {B : RO} {i1 : Int} {h : Heap} {Q : Bool → Heap → Prop} (hS : S_countermandref14_Is B i1 h Q) : C_countermandref14_Is B i1 h Q := by
 unfold S_countermandref14_Is at hS
 unfold C_countermandref14_Is
 refine Spec.of_run Try.func44 (N := 9) (rs := [ResultVar.tmp 2]) rfl rfl rfl (Nat.le_of_ble_eq_true rfl) ?_
 refine Run.seq ?_
 refine Run.ops0 (idx := [0]) rfl ?_
 refine Run.go rfl rfl rfl (sem_assign ((Value.bool false)) rfl ?_)
 refine Run.region_end ?_
 refine Run.seq ?_
 refine Run.ops0 (idx := [0, 1, 2, 3, 4, 5, 6]) rfl ?_
 refine Run.go rfl rfl rfl (sem_move ((Value.int .i64 (i1))) rfl ?_)
 obtain ⟨hT, hF⟩ := hS
 by_cases hb3 : (i1 : Int) ≥ (0)
 ·have hS := hT hb3; clear hT hF
  refine Run.go rfl rfl rfl (sem_binI .i64 (i1) (0) (.bool true) rfl rfl (binI_geq_t hb3) ?_)
  refine Run.go rfl rfl rfl (sem_move ((Value.bool true)) rfl ?_)
  refine Run.go rfl rfl rfl (sem_move ((Value.int .i64 (i1))) rfl ?_)
  refine Run.go rfl rfl rfl (sem_binI .i64 (i1) (5) ((Value.bool (decide ((i1 : Int) ≤ (5))))) rfl rfl rfl ?_)
  refine Run.go rfl rfl rfl (sem_pick true ((Value.bool (decide ((i1 : Int) ≤ (5))))) rfl rfl ?_)
  refine Run.go rfl rfl rfl (sem_assign ((Value.bool (decide ((i1 : Int) ≤ (5))))) rfl ?_)
  refine Run.region_end ?_
  refine Run.ret ⟨.inr rfl, ?_⟩
  exact hS.imp fun h' hq => ⟨((decide ((i1 : Int) ≤ (5)))), rfl, hq⟩
 ·have hS := hF hb3; clear hT hF
  refine Run.go rfl rfl rfl (sem_binI .i64 (i1) (0) (.bool false) rfl rfl (binI_geq_f hb3) ?_)
  refine Run.go rfl rfl rfl (sem_move ((Value.bool false)) rfl ?_)
  refine Run.no rfl rfl rfl ?_
  refine Run.no rfl rfl rfl ?_
  refine Run.go rfl rfl rfl (sem_pick false ((Value.bool false)) rfl rfl ?_)
  refine Run.go rfl rfl rfl (sem_assign ((Value.bool false)) rfl ?_)
  refine Run.region_end ?_
  refine Run.ret ⟨.inr rfl, ?_⟩
  exact hS.imp fun h' hq => ⟨(false), rfl, hq⟩
set_option maxHeartbeats 4000000 in
theorem C_sheet_Sheet_Rename.of {B : RO} {p1 : Option Addr} {p2 : Option Addr} {i3 : Int} {i4 : Int} {h : Heap} {Q : Bool → Heap → Prop} (hS : S_sheet_Sheet_Rename B p1 p2 i3 i4 h Q) : C_sheet_Sheet_Rename B p1 p2 i3 i4 h Q := by
 unfold S_sheet_Sheet_Rename at hS
 unfold C_sheet_Sheet_Rename
 refine Spec.of_run Try.func45 (N := 56) (rs := [ResultVar.tmp 8]) rfl rfl rfl (Nat.le_of_ble_eq_true rfl) ?_
 refine Run.seq ?_
 refine Run.ops0 (idx := [0]) rfl ?_
 refine Run.go rfl rfl rfl (sem_assign ((Value.bool false)) rfl ?_)
 refine Run.region_end ?_
 refine Run.seq ?_
 refine Run.ops0 (idx := [0, 1, 2, 3, 4, 5, 6, 7, 8, 9]) rfl ?_
 refine Run.go rfl rfl rfl (sem_move ((Value.pointer p1)) rfl ?_)
 refine Run.go rfl rfl rfl (sem_move ((Value.pointer p2)) rfl ?_)
 refine Run.go rfl rfl rfl (sem_move ((Value.int .i64 (i3))) rfl ?_)
 refine Run.go rfl rfl rfl (sem_callL [(Value.pointer p1), (Value.pointer p2), (Value.int .i64 (i3))] (TF.goes_23) rfl rfl (Spec.mono hS fun v h6 hv => ?_))
 obtain ⟨b7, s8, b9, rfl, hS⟩ := hv
 refine Run.go rfl rfl rfl (sem_move ((Value.tuple #[(Value.agg #[(Value.bool b7), (Value.string s8)]), (Value.bool b9)])) rfl ?_)
 refine Run.go rfl rfl rfl (sem_extract #[(Value.agg #[(Value.bool b7), (Value.string s8)]), (Value.bool b9)] ((Value.agg #[(Value.bool b7), (Value.string s8)])) rfl rfl ?_)
 refine Run.go rfl rfl rfl (sem_extract #[(Value.agg #[(Value.bool b7), (Value.string s8)]), (Value.bool b9)] ((Value.bool b9)) rfl rfl ?_)
 refine Run.go rfl rfl rfl (sem_allocN [(Value.bool false), (Value.string ByteArray.empty)] TF.zero_41 (fun k10 hb1 hb2 h11 hb3 => ?_))
 have hS := hS k10 hb1 hb2 h11 hb3
 obtain ⟨h12, hst, hS⟩ := hS
 refine Run.go rfl rfl rfl (sem_storeN ⟨k10, 0, none⟩ [(Value.bool b7), (Value.string s8)] h12 rfl rfl TF.sz_41 hst ?_)
 refine Run.go rfl rfl rfl (sem_assign ((Value.bool b9)) rfl ?_)
 refine Run.region_end ?_
 refine Run.seqJ (fun e h14 => Agree [(0, (Value.pointer p1)), (1, (Value.pointer p2)), (2, (Value.int .i64 (i3))), (3, (Value.int .i64 (i4))), (9, (Value.pointer (some ⟨k10, 0, none⟩)))] e ∧ S_sheet_Sheet_Rename_J1 B p1 p2 i3 i4 k10 h14 Q) ?_ fun j13 => ?_
 ·rintro e h14 ⟨hag, hS⟩
  refine Run.env hag ?_; clear hag
  refine Run.seq ?_
  refine Run.ops0 (idx := [0, 1, 2, 3, 4]) rfl ?_
  refine Run.go rfl rfl rfl (sem_move ((Value.pointer p1)) rfl ?_)
  refine Run.go rfl rfl rfl (sem_move ((Value.pointer p2)) rfl ?_)
  refine Run.go rfl rfl rfl (sem_move ((Value.int .i64 (i4))) rfl ?_)
  obtain ⟨b15, s16, hl, hS⟩ := hS
  refine Run.go rfl rfl rfl (sem_loadN ⟨k10, 0, none⟩ [(Value.bool b15), (Value.string s16)] rfl TF.agg_41 TF.sz_41 hl ?_)
  refine Run.go rfl rfl rfl (sem_callL [(Value.pointer p1), (Value.pointer p2), (Value.int .i64 (i4)), (Value.agg #[(Value.bool b15), (Value.string s16)])] (TF.goes_67) rfl rfl (Spec.mono hS fun v h17 hv => ?_))
  obtain ⟨b18, rfl, hS⟩ := hv
  refine Run.region_end ?_
  refine Run.seq ?_
  refine Run.ops0 (idx := [0, 1, 2, 3, 4, 5]) rfl ?_
  refine Run.go rfl rfl rfl (sem_move ((Value.pointer p1)) rfl ?_)
  refine Run.go rfl rfl rfl (sem_move ((Value.pointer p2)) rfl ?_)
  refine Run.go rfl rfl rfl (sem_move ((Value.int .i64 (i3))) rfl ?_)
  refine Run.go rfl rfl rfl (sem_buildSL [] [(Value.bool false), (Value.string ByteArray.empty)] TF.zero_41 TF.places_41 rfl rfl ?_)
  refine Run.go rfl rfl rfl (sem_callL [(Value.pointer p1), (Value.pointer p2), (Value.int .i64 (i3)), (Value.agg #[(Value.bool false), (Value.string ByteArray.empty)])] (TF.goes_67) rfl rfl (Spec.mono hS fun v h19 hv => ?_))
  obtain ⟨b20, rfl, hS⟩ := hv
  refine Run.go rfl rfl rfl (sem_assign ((Value.bool b20)) rfl ?_)
  refine Run.region_end ?_
  refine Run.ret ⟨.inr rfl, ?_⟩
  exact hS.imp fun h' hq => ⟨(b20), rfl, hq⟩
 refine Run.block ?_
 refine Run.seqJ (fun e h23 => ∃ b22 : Bool, Agree [(0, (Value.pointer p1)), (1, (Value.pointer p2)), (2, (Value.int .i64 (i3))), (3, (Value.int .i64 (i4))), (9, (Value.pointer (some ⟨k10, 0, none⟩))), (18, (Value.bool b22))] e ∧ S_sheet_Sheet_Rename_J2 B p1 p2 i3 i4 k10 b22 h23 Q) ?_ fun j21 => ?_
 ·rintro e h23 ⟨b22, hag, hS⟩
  refine Run.env hag ?_; clear hag
  obtain ⟨hT, hF⟩ := hS
  cases b22
  ·have hS := hF rfl; clear hT hF
   refine Run.condF rfl ?_
   refine Run.seq ?_
   refine Run.ops0 (idx := [0, 1, 2, 3, 4, 5, 6, 7, 8]) rfl ?_
   refine Run.go rfl rfl rfl (sem_fieldAddr ⟨k10, 0, none⟩ 0 rfl TF.fld_41_0 ?_)
   obtain ⟨b24, hl, hS⟩ := hS
   obtain ⟨hT, hF⟩ := hS
   cases b24
   ·have hS := hF rfl; clear hT hF
    refine Run.go rfl rfl rfl (sem_load1 ⟨k10, 0, none⟩ (.bool false) rfl TF.agg_4 hl ?_)
    refine Run.go rfl rfl rfl (sem_not false rfl ?_)
    refine Run.go rfl rfl rfl (sem_move ((Value.bool true)) rfl ?_)
    refine Run.no rfl rfl rfl ?_
    refine Run.no rfl rfl rfl ?_
    refine Run.no rfl rfl rfl ?_
    refine Run.go rfl rfl rfl (sem_pick true ((Value.bool true)) rfl rfl ?_)
    refine Run.go rfl rfl rfl (sem_assign ((Value.bool true)) rfl ?_)
    refine Run.region_end ?_
    refine Run.condT rfl ?_
    refine Run.seq ?_
    refine Run.ops0 (idx := [0]) rfl ?_
    refine Run.go rfl rfl rfl (sem_assign ((Value.bool true)) rfl ?_)
    refine Run.region_end ?_
    refine Run.ret ⟨.inr rfl, ?_⟩
    exact hS.imp fun h' hq => ⟨(true), rfl, hq⟩
   ·have hS := hT rfl; clear hT hF
    refine Run.go rfl rfl rfl (sem_load1 ⟨k10, 0, none⟩ (.bool true) rfl TF.agg_4 hl ?_)
    refine Run.go rfl rfl rfl (sem_not true rfl ?_)
    refine Run.go rfl rfl rfl (sem_move ((Value.bool false)) rfl ?_)
    refine Run.go rfl rfl rfl (sem_move ((Value.int .i64 (i3))) rfl ?_)
    refine Run.go rfl rfl rfl (sem_move ((Value.int .i64 (i4))) rfl ?_)
    obtain ⟨hT, hF⟩ := hS
    by_cases hb25 : (i3 : Int) = i4
    ·have hS := hT hb25; clear hT hF
     refine Run.go rfl rfl rfl (sem_binI .i64 (i3) (i4) (.bool true) rfl rfl (binI_eql_t hb25) ?_)
     refine Run.go rfl rfl rfl (sem_pick false ((Value.bool true)) rfl rfl ?_)
     refine Run.go rfl rfl rfl (sem_assign ((Value.bool true)) rfl ?_)
     refine Run.region_end ?_
     refine Run.condT rfl ?_
     refine Run.seq ?_
     refine Run.ops0 (idx := [0]) rfl ?_
     refine Run.go rfl rfl rfl (sem_assign ((Value.bool true)) rfl ?_)
     refine Run.region_end ?_
     refine Run.ret ⟨.inr rfl, ?_⟩
     exact hS.imp fun h' hq => ⟨(true), rfl, hq⟩
    ·have hS := hF hb25; clear hT hF
     refine Run.go rfl rfl rfl (sem_binI .i64 (i3) (i4) (.bool false) rfl rfl (binI_eql_f hb25) ?_)
     refine Run.go rfl rfl rfl (sem_pick false ((Value.bool false)) rfl rfl ?_)
     refine Run.go rfl rfl rfl (sem_assign ((Value.bool false)) rfl ?_)
     refine Run.region_end ?_
     refine Run.condF rfl ?_
     refine Run.skip ?_
     refine Run.inBlock ?_
     exact Run.of_fin (hS.imp fun h' hS => j13 _ _ ⟨⟨rfl, rfl, rfl, rfl, rfl, trivial⟩, hS⟩)
  ·have hS := hT rfl; clear hT hF
   refine Run.condT rfl ?_
   refine Run.seq ?_
   refine Run.ops0 (idx := [0]) rfl ?_
   refine Run.go rfl rfl rfl (sem_assign ((Value.bool false)) rfl ?_)
   refine Run.region_end ?_
   refine Run.ret ⟨.inr rfl, ?_⟩
   exact hS.imp fun h' hq => ⟨(false), rfl, hq⟩
 refine Run.ops0 (idx := [0, 1, 2, 3, 4, 5, 6, 7, 8, 9, 10, 11, 12, 13, 14, 15, 16, 17, 18]) rfl ?_
 refine Run.go rfl rfl rfl (sem_move ((Value.pointer p1)) rfl ?_)
 obtain ⟨hT, hF⟩ := hS
 by_cases hb26 : p1 = none
 ·have hS := hT hb26; clear hT hF
  refine Run.go rfl rfl rfl (sem_ptrNilT p1 (.inl rfl) true rfl rfl TF.ptr_28 hb26 rfl ?_)
  refine Run.go rfl rfl rfl (sem_move ((Value.bool true)) rfl ?_)
  refine Run.no rfl rfl rfl ?_
  refine Run.no rfl rfl rfl ?_
  refine Run.go rfl rfl rfl (sem_pick true ((Value.bool true)) rfl rfl ?_)
  refine Run.go rfl rfl rfl (sem_move ((Value.bool true)) rfl ?_)
  refine Run.no rfl rfl rfl ?_
  refine Run.no rfl rfl rfl ?_
  refine Run.go rfl rfl rfl (sem_pick true ((Value.bool true)) rfl rfl ?_)
  refine Run.go rfl rfl rfl (sem_move ((Value.bool true)) rfl ?_)
  refine Run.no rfl rfl rfl ?_
  refine Run.no rfl rfl rfl ?_
  refine Run.go rfl rfl rfl (sem_pick true ((Value.bool true)) rfl rfl ?_)
  refine Run.go rfl rfl rfl (sem_move ((Value.bool true)) rfl ?_)
  refine Run.no rfl rfl rfl ?_
  refine Run.no rfl rfl rfl ?_
  refine Run.go rfl rfl rfl (sem_pick true ((Value.bool true)) rfl rfl ?_)
  refine Run.go rfl rfl rfl (sem_assign ((Value.bool true)) rfl ?_)
  refine Run.region_end ?_
  exact Run.of_fin (hS.imp fun h' hS => j21 _ _ ⟨(true), ⟨rfl, rfl, rfl, rfl, rfl, rfl, trivial⟩, hS⟩)
 ·have hS := hF hb26; clear hT hF
  refine Run.go rfl rfl rfl (sem_ptrNilF p1 (.inl rfl) false rfl rfl TF.ptr_28 hb26 rfl ?_)
  refine Run.go rfl rfl rfl (sem_move ((Value.bool false)) rfl ?_)
  refine Run.go rfl rfl rfl (sem_move ((Value.int .i64 (i3))) rfl ?_)
  obtain ⟨hT, hF⟩ := hS
  by_cases hb27 : (i3 : Int) < (0)
  ·have hS := hT hb27; clear hT hF
   refine Run.go rfl rfl rfl (sem_binI .i64 (i3) (0) (.bool true) rfl rfl (binI_lss_t hb27) ?_)
   refine Run.go rfl rfl rfl (sem_pick false ((Value.bool true)) rfl rfl ?_)
   refine Run.go rfl rfl rfl (sem_move ((Value.bool true)) rfl ?_)
   refine Run.no rfl rfl rfl ?_
   refine Run.no rfl rfl rfl ?_
   refine Run.go rfl rfl rfl (sem_pick true ((Value.bool true)) rfl rfl ?_)
   refine Run.go rfl rfl rfl (sem_move ((Value.bool true)) rfl ?_)
   refine Run.no rfl rfl rfl ?_
   refine Run.no rfl rfl rfl ?_
   refine Run.go rfl rfl rfl (sem_pick true ((Value.bool true)) rfl rfl ?_)
   refine Run.go rfl rfl rfl (sem_move ((Value.bool true)) rfl ?_)
   refine Run.no rfl rfl rfl ?_
   refine Run.no rfl rfl rfl ?_
   refine Run.go rfl rfl rfl (sem_pick true ((Value.bool true)) rfl rfl ?_)
   refine Run.go rfl rfl rfl (sem_assign ((Value.bool true)) rfl ?_)
   refine Run.region_end ?_
   exact Run.of_fin (hS.imp fun h' hS => j21 _ _ ⟨(true), ⟨rfl, rfl, rfl, rfl, rfl, rfl, trivial⟩, hS⟩)
  ·have hS := hF hb27; clear hT hF
   refine Run.go rfl rfl rfl (sem_binI .i64 (i3) (0) (.bool false) rfl rfl (binI_lss_f hb27) ?_)
   refine Run.go rfl rfl rfl (sem_pick false ((Value.bool false)) rfl rfl ?_)
   refine Run.go rfl rfl rfl (sem_move ((Value.bool false)) rfl ?_)
   refine Run.go rfl rfl rfl (sem_move ((Value.int .i64 (i3))) rfl ?_)
   obtain ⟨hT, hF⟩ := hS
   by_cases hb28 : (i3 : Int) ≥ (6)
   ·have hS := hT hb28; clear hT hF
    refine Run.go rfl rfl rfl (sem_binI .i64 (i3) (6) (.bool true) rfl rfl (binI_geq_t hb28) ?_)
    refine Run.go rfl rfl rfl (sem_pick false ((Value.bool true)) rfl rfl ?_)
    refine Run.go rfl rfl rfl (sem_move ((Value.bool true)) rfl ?_)
    refine Run.no rfl rfl rfl ?_
    refine Run.no rfl rfl rfl ?_
    refine Run.go rfl rfl rfl (sem_pick true ((Value.bool true)) rfl rfl ?_)
    refine Run.go rfl rfl rfl (sem_move ((Value.bool true)) rfl ?_)
    refine Run.no rfl rfl rfl ?_
    refine Run.no rfl rfl rfl ?_
    refine Run.go rfl rfl rfl (sem_pick true ((Value.bool true)) rfl rfl ?_)
    refine Run.go rfl rfl rfl (sem_assign ((Value.bool true)) rfl ?_)
    refine Run.region_end ?_
    exact Run.of_fin (hS.imp fun h' hS => j21 _ _ ⟨(true), ⟨rfl, rfl, rfl, rfl, rfl, rfl, trivial⟩, hS⟩)
   ·have hS := hF hb28; clear hT hF
    refine Run.go rfl rfl rfl (sem_binI .i64 (i3) (6) (.bool false) rfl rfl (binI_geq_f hb28) ?_)
    refine Run.go rfl rfl rfl (sem_pick false ((Value.bool false)) rfl rfl ?_)
    refine Run.go rfl rfl rfl (sem_move ((Value.bool false)) rfl ?_)
    refine Run.go rfl rfl rfl (sem_move ((Value.int .i64 (i4))) rfl ?_)
    obtain ⟨hT, hF⟩ := hS
    by_cases hb29 : (i4 : Int) < (0)
    ·have hS := hT hb29; clear hT hF
     refine Run.go rfl rfl rfl (sem_binI .i64 (i4) (0) (.bool true) rfl rfl (binI_lss_t hb29) ?_)
     refine Run.go rfl rfl rfl (sem_pick false ((Value.bool true)) rfl rfl ?_)
     refine Run.go rfl rfl rfl (sem_move ((Value.bool true)) rfl ?_)
     refine Run.no rfl rfl rfl ?_
     refine Run.no rfl rfl rfl ?_
     refine Run.go rfl rfl rfl (sem_pick true ((Value.bool true)) rfl rfl ?_)
     refine Run.go rfl rfl rfl (sem_assign ((Value.bool true)) rfl ?_)
     refine Run.region_end ?_
     exact Run.of_fin (hS.imp fun h' hS => j21 _ _ ⟨(true), ⟨rfl, rfl, rfl, rfl, rfl, rfl, trivial⟩, hS⟩)
    ·have hS := hF hb29; clear hT hF
     refine Run.go rfl rfl rfl (sem_binI .i64 (i4) (0) (.bool false) rfl rfl (binI_lss_f hb29) ?_)
     refine Run.go rfl rfl rfl (sem_pick false ((Value.bool false)) rfl rfl ?_)
     refine Run.go rfl rfl rfl (sem_move ((Value.bool false)) rfl ?_)
     refine Run.go rfl rfl rfl (sem_move ((Value.int .i64 (i4))) rfl ?_)
     obtain ⟨hT, hF⟩ := hS
     by_cases hb30 : (i4 : Int) ≥ (6)
     ·have hS := hT hb30; clear hT hF
      refine Run.go rfl rfl rfl (sem_binI .i64 (i4) (6) (.bool true) rfl rfl (binI_geq_t hb30) ?_)
      refine Run.go rfl rfl rfl (sem_pick false ((Value.bool true)) rfl rfl ?_)
      refine Run.go rfl rfl rfl (sem_assign ((Value.bool true)) rfl ?_)
      refine Run.region_end ?_
      exact Run.of_fin (hS.imp fun h' hS => j21 _ _ ⟨(true), ⟨rfl, rfl, rfl, rfl, rfl, rfl, trivial⟩, hS⟩)
     ·have hS := hF hb30; clear hT hF
      refine Run.go rfl rfl rfl (sem_binI .i64 (i4) (6) (.bool false) rfl rfl (binI_geq_f hb30) ?_)
      refine Run.go rfl rfl rfl (sem_pick false ((Value.bool false)) rfl rfl ?_)
      refine Run.go rfl rfl rfl (sem_assign ((Value.bool false)) rfl ?_)
      refine Run.region_end ?_
      exact Run.of_fin (hS.imp fun h' hS => j21 _ _ ⟨(false), ⟨rfl, rfl, rfl, rfl, rfl, rfl, trivial⟩, hS⟩)
set_option maxHeartbeats 4000000 in
theorem C_countermandlaw14_does.of {B : RO} {p1 : Option Addr} {p2 : Option Addr} {p3 : Option Addr} {i4 : Int} {i5 : Int} {i6 : Int} {i7 : Int} {h : Heap} {Q : Bool → Heap → Prop} (hS : S_countermandlaw14_does B p1 p2 p3 i4 i5 i6 i7 h Q) : C_countermandlaw14_does B p1 p2 p3 i4 i5 i6 i7 h Q := by
 unfold S_countermandlaw14_does at hS
 unfold C_countermandlaw14_does
 refine Spec.of_run Try.func46 (N := 87) (rs := [ResultVar.tmp 8]) rfl rfl rfl (Nat.le_of_ble_eq_true rfl) ?_
 refine Run.seq ?_
 refine Run.ops0 (idx := [0, 1]) rfl ?_
 refine Run.go rfl rfl rfl (sem_boxNN [(Value.int .i64 (i4)), (Value.int .i64 (i5)), (Value.int .i64 (i6)), (Value.int .u8 (i7))] rfl (fun k9 hb1 hb2 h10 hb3 => ?_))
 have hS := hS k9 hb1 hb2 h10 hb3
 refine Run.go rfl rfl rfl (sem_assign ((Value.bool false)) rfl ?_)
 refine Run.region_end ?_
 refine Run.seq ?_
 refine Run.seq ?_
 refine Run.ops0 (idx := [0, 1]) rfl ?_
 refine Run.go rfl rfl rfl (sem_fieldAddr ⟨k9, 0, none⟩ 0 rfl TF.fld_81_0 ?_)
 obtain ⟨i11, hl, hS⟩ := hS
 refine Run.go rfl rfl rfl (sem_load1 ⟨k9, 0, none⟩ ((Value.int .i64 (i11))) rfl TF.agg_3 hl ?_)
 refine Run.region_end ?_
 refine Run.block ?_
 refine Run.seq ?_
 refine Run.ops0 (idx := [0, 1]) rfl ?_
 obtain ⟨hT, hF⟩ := hS
 by_cases hb12 : (i11 : Int) = 0
 ·have hS := hT hb12; clear hT hF
  refine Run.go rfl rfl rfl (sem_binI .i64 (i11) (0) (.bool true) rfl rfl (binI_eql_t hb12) ?_)
  refine Run.go rfl rfl rfl (sem_assign ((Value.bool true)) rfl ?_)
  refine Run.region_end ?_
  refine Run.condT rfl ?_
  refine Run.seq ?_
  skip
  skip
  skip
  obtain ⟨i16, hl, hS⟩ := hS
  have f17 := hl
  skip
  obtain ⟨i19, hl, hS⟩ := hS
  have f20 := hl
  skip
  obtain ⟨i22, hl, hS⟩ := hS
  have f23 := hl
  skip
  skip
  obtain ⟨i26, hl, hS⟩ := hS
  have f27 := hl
  skip
  obtain ⟨i29, hl, hS⟩ := hS
  have f30 := hl
  skip
  obtain ⟨i32, hl, hS⟩ := hS
  have f33 := hl
  refine Run.drawM (fun h' => cellH B h' ⟨k9, 1, none⟩ = some (Value.int .i64 (i16)) ∧ cellH B h' ⟨k9, 2, none⟩ = some (Value.int .i64 (i19)) ∧ cellH B h' ⟨k9, 3, none⟩ = some (Value.int .u8 (i22)) ∧ cellH B h' ⟨k9, 1, none⟩ = some (Value.int .i64 (i26)) ∧ cellH B h' ⟨k9, 2, none⟩ = some (Value.int .i64 (i29)) ∧ cellH B h' ⟨k9, 3, none⟩ = some (Value.int .u8 (i32)) ∧ True) [] ⟨[0, 0, 0, 4, 0, 16, 0, 64, 171, 0, 0, 1024, 0, 4096, 0, 16384, 43776, 65792, 262143], [524287, 524287, 524287, 524283, 524287, 524271, 524287, 524223, 524116, 524287, 524287, 523263, 524287, 520191, 524287, 507903, 480767, 458495, 393215], [0, 0, 0, 0, 0, 0, 0, 0, 0, 0, 0, 0, 0, 0, 0, 0, 0, 0, 0], 0⟩ (.q 0 (.q 1 (.q 2 (.q 3 (.q 4 (.q 5 (.q 6 (.q 7 (.q 9 (.q 10 (.q 11 (.q 12 (.q 13 (.q 14 (.q 15 (.x 8 (.x 16 (.q 17 (.q 18 .nil)) .no) .no)))))))))))))))) TF.mixed (by kernel_rfl) ⟨f17, f20, f23, f27, f30, f33, trivial⟩ ?_
  refine RunT.quiet rfl rfl rfl (fun h' hC => sem_move ((Value.pointer p2)) rfl ⟨rfl, rfl⟩) ?_
  refine RunT.quiet rfl rfl rfl (fun h' hC => sem_move ((Value.pointer p1)) rfl ⟨rfl, rfl⟩) ?_
  refine RunT.quiet rfl rfl rfl (fun h' hC => sem_fieldAddr ⟨k9, 0, none⟩ 1 rfl TF.fld_81_1 ⟨rfl, rfl⟩) ?_
  refine RunT.quiet rfl rfl rfl (fun h' hC => sem_load1 ⟨k9, 1, none⟩ ((Value.int .i64 (i16))) rfl TF.agg_3 hC.1 ⟨rfl, rfl⟩) ?_
  refine RunT.quiet rfl rfl rfl (fun h' hC => sem_fieldAddr ⟨k9, 0, none⟩ 2 rfl TF.fld_81_2 ⟨rfl, rfl⟩) ?_
  refine RunT.quiet rfl rfl rfl (fun h' hC => sem_load1 ⟨k9, 2, none⟩ ((Value.int .i64 (i19))) rfl TF.agg_3 hC.2.1 ⟨rfl, rfl⟩) ?_
  refine RunT.quiet rfl rfl rfl (fun h' hC => sem_fieldAddr ⟨k9, 0, none⟩ 3 rfl TF.fld_81_3 ⟨rfl, rfl⟩) ?_
  refine RunT.quiet rfl rfl rfl (fun h' hC => sem_load1 ⟨k9, 3, none⟩ ((Value.int .u8 (i22))) rfl TF.agg_5 hC.2.2.1 ⟨rfl, rfl⟩) ?_
  refine RunT.quiet rfl rfl rfl (fun h' hC => sem_move ((Value.pointer p3)) rfl ⟨rfl, rfl⟩) ?_
  refine RunT.quiet rfl rfl rfl (fun h' hC => sem_fieldAddr ⟨k9, 0, none⟩ 1 rfl TF.fld_81_1 ⟨rfl, rfl⟩) ?_
  refine RunT.quiet rfl rfl rfl (fun h' hC => sem_load1 ⟨k9, 1, none⟩ ((Value.int .i64 (i26))) rfl TF.agg_3 hC.2.2.2.1 ⟨rfl, rfl⟩) ?_
  refine RunT.quiet rfl rfl rfl (fun h' hC => sem_fieldAddr ⟨k9, 0, none⟩ 2 rfl TF.fld_81_2 ⟨rfl, rfl⟩) ?_
  refine RunT.quiet rfl rfl rfl (fun h' hC => sem_load1 ⟨k9, 2, none⟩ ((Value.int .i64 (i29))) rfl TF.agg_3 hC.2.2.2.2.1 ⟨rfl, rfl⟩) ?_
  refine RunT.quiet rfl rfl rfl (fun h' hC => sem_fieldAddr ⟨k9, 0, none⟩ 3 rfl TF.fld_81_3 ⟨rfl, rfl⟩) ?_
  refine RunT.quiet rfl rfl rfl (fun h' hC => sem_load1 ⟨k9, 3, none⟩ ((Value.int .u8 (i32))) rfl TF.agg_5 hC.2.2.2.2.2.1 ⟨rfl, rfl⟩) ?_
  refine ⟨?_, trivial⟩
  refine OpH.go rfl rfl rfl (sem_callL [(Value.pointer p2), (Value.pointer p1), (Value.int .i64 (i16)), (Value.int .i64 (i19)), (Value.int .u8 (i22))] (TF.goes_54) rfl rfl (Spec.mono hS fun v h34 hv => ?_))
  obtain ⟨b35, rfl, hS⟩ := hv
  obtain ⟨g36, g37, g38, g39, g40, g41, hS⟩ := hS
  refine ⟨fun _ => ⟨g36, g37, g38, g39, g40, g41, trivial⟩, ?_⟩
  refine ⟨?_, trivial⟩
  refine OpH.go rfl rfl rfl (sem_callL [(Value.pointer p3), (Value.int .i64 (i26)), (Value.int .i64 (i29)), (Value.int .u8 (i32))] (TF.goes_86) rfl rfl (Spec.mono hS fun v h42 hv => ?_))
  obtain ⟨b43, rfl, hS⟩ := hv
  obtain ⟨g44, g45, g46, g47, g48, g49, hS⟩ := hS
  refine ⟨fun _ => ⟨g44, g45, g46, g47, g48, g49, trivial⟩, ?_⟩
  refine RunT.quiet rfl rfl rfl (fun h' hC => sem_boolEqV b35 b43 (.inl rfl) ((decide (b35 = b43))) rfl rfl TF.bool_4 (boolEqV_eql _ _) ⟨rfl, rfl⟩) ?_
  refine RunT.quiet rfl rfl rfl (fun h' hC => sem_assign ((Value.bool (decide (b35 = b43)))) rfl ⟨rfl, rfl⟩) ?_
  refine Run.ret ⟨.inr rfl, ?_⟩
  exact hS.imp fun h' hq => ⟨((decide (b35 = b43))), rfl, hq⟩
 ·have hS := hF hb12; clear hT hF
  refine Run.go rfl rfl rfl (sem_binI .i64 (i11) (0) (.bool false) rfl rfl (binI_eql_f hb12) ?_)
  refine Run.go rfl rfl rfl (sem_assign ((Value.bool false)) rfl ?_)
  refine Run.region_end ?_
  refine Run.condF rfl ?_
  refine Run.seq ?_
  refine Run.ops0 (idx := [0, 1]) rfl ?_
  obtain ⟨hT, hF⟩ := hS
  by_cases hb50 : (i11 : Int) = 1
  ·have hS := hT hb50; clear hT hF
   refine Run.go rfl rfl rfl (sem_binI .i64 (i11) (1) (.bool true) rfl rfl (binI_eql_t hb50) ?_)
   refine Run.go rfl rfl rfl (sem_assign ((Value.bool true)) rfl ?_)
   refine Run.region_end ?_
   refine Run.condT rfl ?_
   refine Run.seq ?_
   skip
   skip
   skip
   obtain ⟨i54, hl, hS⟩ := hS
   have f55 := hl
   skip
   obtain ⟨i57, hl, hS⟩ := hS
   have f58 := hl
   skip
   skip
   obtain ⟨i61, hl, hS⟩ := hS
   have f62 := hl
   skip
   obtain ⟨i64, hl, hS⟩ := hS
   have f65 := hl
   refine Run.drawM (fun h' => cellH B h' ⟨k9, 1, none⟩ = some (Value.int .i64 (i54)) ∧ cellH B h' ⟨k9, 2, none⟩ = some (Value.int .i64 (i57)) ∧ cellH B h' ⟨k9, 1, none⟩ = some (Value.int .i64 (i61)) ∧ cellH B h' ⟨k9, 2, none⟩ = some (Value.int .i64 (i64)) ∧ True) [] ⟨[0, 0, 0, 4, 0, 16, 43, 0, 0, 256, 0, 1024, 2752, 4160, 16383], [32767, 32767, 32767, 32763, 32767, 32751, 32724, 32767, 32767, 32511, 32767, 31743, 30079, 28607, 24575], [0, 0, 0, 0, 0, 0, 0, 0, 0, 0, 0, 0, 0, 0, 0], 0⟩ (.q 0 (.q 1 (.q 2 (.q 3 (.q 4 (.q 5 (.q 7 (.q 8 (.q 9 (.q 10 (.q 11 (.x 6 (.x 12 (.q 13 (.q 14 .nil)) .no) .no)))))))))))) TF.mixed (by kernel_rfl) ⟨f55, f58, f62, f65, trivial⟩ ?_
   refine RunT.quiet rfl rfl rfl (fun h' hC => sem_move ((Value.pointer p2)) rfl ⟨rfl, rfl⟩) ?_
   refine RunT.quiet rfl rfl rfl (fun h' hC => sem_move ((Value.pointer p1)) rfl ⟨rfl, rfl⟩) ?_
   refine RunT.quiet rfl rfl rfl (fun h' hC => sem_fieldAddr ⟨k9, 0, none⟩ 1 rfl TF.fld_81_1 ⟨rfl, rfl⟩) ?_
   refine RunT.quiet rfl rfl rfl (fun h' hC => sem_load1 ⟨k9, 1, none⟩ ((Value.int .i64 (i54))) rfl TF.agg_3 hC.1 ⟨rfl, rfl⟩) ?_
   refine RunT.quiet rfl rfl rfl (fun h' hC => sem_fieldAddr ⟨k9, 0, none⟩ 2 rfl TF.fld_81_2 ⟨rfl, rfl⟩) ?_
   refine RunT.quiet rfl rfl rfl (fun h' hC => sem_load1 ⟨k9, 2, none⟩ ((Value.int .i64 (i57))) rfl TF.agg_3 hC.2.1 ⟨rfl, rfl⟩) ?_
   refine RunT.quiet rfl rfl rfl (fun h' hC => sem_move ((Value.pointer p3)) rfl ⟨rfl, rfl⟩) ?_
   refine RunT.quiet rfl rfl rfl (fun h' hC => sem_fieldAddr ⟨k9, 0, none⟩ 1 rfl TF.fld_81_1 ⟨rfl, rfl⟩) ?_
   refine RunT.quiet rfl rfl rfl (fun h' hC => sem_load1 ⟨k9, 1, none⟩ ((Value.int .i64 (i61))) rfl TF.agg_3 hC.2.2.1 ⟨rfl, rfl⟩) ?_
   refine RunT.quiet rfl rfl rfl (fun h' hC => sem_fieldAddr ⟨k9, 0, none⟩ 2 rfl TF.fld_81_2 ⟨rfl, rfl⟩) ?_
   refine RunT.quiet rfl rfl rfl (fun h' hC => sem_load1 ⟨k9, 2, none⟩ ((Value.int .i64 (i64))) rfl TF.agg_3 hC.2.2.2.1 ⟨rfl, rfl⟩) ?_
   refine ⟨?_, trivial⟩
   refine OpH.go rfl rfl rfl (sem_callL [(Value.pointer p2), (Value.pointer p1), (Value.int .i64 (i54)), (Value.int .i64 (i57))] (TF.goes_55) rfl rfl (Spec.mono hS fun v h66 hv => ?_))
   obtain ⟨b67, rfl, hS⟩ := hv
   obtain ⟨g68, g69, g70, g71, hS⟩ := hS
   refine ⟨fun _ => ⟨g68, g69, g70, g71, trivial⟩, ?_⟩
   refine ⟨?_, trivial⟩
   refine OpH.go rfl rfl rfl (sem_callL [(Value.pointer p3), (Value.int .i64 (i61)), (Value.int .i64 (i64))] (TF.goes_87) rfl rfl (Spec.mono hS fun v h72 hv => ?_))
   obtain ⟨b73, rfl, hS⟩ := hv
   obtain ⟨g74, g75, g76, g77, hS⟩ := hS
   refine ⟨fun _ => ⟨g74, g75, g76, g77, trivial⟩, ?_⟩
   refine RunT.quiet rfl rfl rfl (fun h' hC => sem_boolEqV b67 b73 (.inl rfl) ((decide (b67 = b73))) rfl rfl TF.bool_4 (boolEqV_eql _ _) ⟨rfl, rfl⟩) ?_
   refine RunT.quiet rfl rfl rfl (fun h' hC => sem_assign ((Value.bool (decide (b67 = b73)))) rfl ⟨rfl, rfl⟩) ?_
   refine Run.ret ⟨.inr rfl, ?_⟩
   exact hS.imp fun h' hq => ⟨((decide (b67 = b73))), rfl, hq⟩
  ·have hS := hF hb50; clear hT hF
   refine Run.go rfl rfl rfl (sem_binI .i64 (i11) (1) (.bool false) rfl rfl (binI_eql_f hb50) ?_)
   refine Run.go rfl rfl rfl (sem_assign ((Value.bool false)) rfl ?_)
   refine Run.region_end ?_
   refine Run.condF rfl ?_
   refine Run.seq ?_
   refine Run.ops0 (idx := [0, 1]) rfl ?_
   obtain ⟨hT, hF⟩ := hS
   by_cases hb78 : (i11 : Int) = 2
   ·have hS := hT hb78; clear hT hF
    refine Run.go rfl rfl rfl (sem_binI .i64 (i11) (2) (.bool true) rfl rfl (binI_eql_t hb78) ?_)
    refine Run.go rfl rfl rfl (sem_assign ((Value.bool true)) rfl ?_)
    refine Run.region_end ?_
    refine Run.condT rfl ?_
    refine Run.seq ?_
    skip
    skip
    skip
    obtain ⟨i82, hl, hS⟩ := hS
    have f83 := hl
    skip
    skip
    obtain ⟨i86, hl, hS⟩ := hS
    have f87 := hl
    refine Run.drawM (fun h' => cellH B h' ⟨k9, 1, none⟩ = some (Value.int .i64 (i82)) ∧ cellH B h' ⟨k9, 1, none⟩ = some (Value.int .i64 (i86)) ∧ True) [] ⟨[0, 0, 0, 4, 11, 0, 0, 64, 176, 272, 1023], [2047, 2047, 2047, 2043, 2036, 2047, 2047, 1983, 1887, 1775, 1535], [0, 0, 0, 0, 0, 0, 0, 0, 0, 0, 0], 0⟩ (.q 0 (.q 1 (.q 2 (.q 3 (.q 5 (.q 6 (.q 7 (.x 4 (.x 8 (.q 9 (.q 10 .nil)) .no) .no)))))))) TF.mixed (by kernel_rfl) ⟨f83, f87, trivial⟩ ?_
    refine RunT.quiet rfl rfl rfl (fun h' hC => sem_move ((Value.pointer p2)) rfl ⟨rfl, rfl⟩) ?_
    refine RunT.quiet rfl rfl rfl (fun h' hC => sem_move ((Value.pointer p1)) rfl ⟨rfl, rfl⟩) ?_
    refine RunT.quiet rfl rfl rfl (fun h' hC => sem_fieldAddr ⟨k9, 0, none⟩ 1 rfl TF.fld_81_1 ⟨rfl, rfl⟩) ?_
    refine RunT.quiet rfl rfl rfl (fun h' hC => sem_load1 ⟨k9, 1, none⟩ ((Value.int .i64 (i82))) rfl TF.agg_3 hC.1 ⟨rfl, rfl⟩) ?_
    refine RunT.quiet rfl rfl rfl (fun h' hC => sem_move ((Value.pointer p3)) rfl ⟨rfl, rfl⟩) ?_
    refine RunT.quiet rfl rfl rfl (fun h' hC => sem_fieldAddr ⟨k9, 0, none⟩ 1 rfl TF.fld_81_1 ⟨rfl, rfl⟩) ?_
    refine RunT.quiet rfl rfl rfl (fun h' hC => sem_load1 ⟨k9, 1, none⟩ ((Value.int .i64 (i86))) rfl TF.agg_3 hC.2.1 ⟨rfl, rfl⟩) ?_
    refine ⟨?_, trivial⟩
    refine OpH.go rfl rfl rfl (sem_callL [(Value.pointer p2), (Value.pointer p1), (Value.int .i64 (i82))] (TF.goes_22) rfl rfl (Spec.mono hS fun v h88 hv => ?_))
    obtain ⟨b89, rfl, hS⟩ := hv
    obtain ⟨g90, g91, hS⟩ := hS
    refine ⟨fun _ => ⟨g90, g91, trivial⟩, ?_⟩
    refine ⟨?_, trivial⟩
    refine OpH.go rfl rfl rfl (sem_callL [(Value.pointer p3), (Value.int .i64 (i86))] (TF.goes_88) rfl rfl (Spec.mono hS fun v h92 hv => ?_))
    obtain ⟨b93, rfl, hS⟩ := hv
    obtain ⟨g94, g95, hS⟩ := hS
    refine ⟨fun _ => ⟨g94, g95, trivial⟩, ?_⟩
    refine RunT.quiet rfl rfl rfl (fun h' hC => sem_boolEqV b89 b93 (.inl rfl) ((decide (b89 = b93))) rfl rfl TF.bool_4 (boolEqV_eql _ _) ⟨rfl, rfl⟩) ?_
    refine RunT.quiet rfl rfl rfl (fun h' hC => sem_assign ((Value.bool (decide (b89 = b93)))) rfl ⟨rfl, rfl⟩) ?_
    refine Run.ret ⟨.inr rfl, ?_⟩
    exact hS.imp fun h' hq => ⟨((decide (b89 = b93))), rfl, hq⟩
   ·have hS := hF hb78; clear hT hF
    refine Run.go rfl rfl rfl (sem_binI .i64 (i11) (2) (.bool false) rfl rfl (binI_eql_f hb78) ?_)
    refine Run.go rfl rfl rfl (sem_assign ((Value.bool false)) rfl ?_)
    refine Run.region_end ?_
    refine Run.condF rfl ?_
    refine Run.seq ?_
    refine Run.ops0 (idx := [0, 1]) rfl ?_
    obtain ⟨hT, hF⟩ := hS
    by_cases hb96 : (i11 : Int) = 3
    ·have hS := hT hb96; clear hT hF
     refine Run.go rfl rfl rfl (sem_binI .i64 (i11) (3) (.bool true) rfl rfl (binI_eql_t hb96) ?_)
     refine Run.go rfl rfl rfl (sem_assign ((Value.bool true)) rfl ?_)
     refine Run.region_end ?_
     refine Run.condT rfl ?_
     refine Run.seq ?_
     skip
     skip
     skip
     obtain ⟨i100, hl, hS⟩ := hS
     have f101 := hl
     skip
     skip
     obtain ⟨i104, hl, hS⟩ := hS
     have f105 := hl
     refine Run.drawM (fun h' => cellH B h' ⟨k9, 1, none⟩ = some (Value.int .i64 (i100)) ∧ cellH B h' ⟨k9, 1, none⟩ = some (Value.int .i64 (i104)) ∧ True) [] ⟨[0, 0, 0, 4, 11, 0, 0, 64, 176, 272, 1023], [2047, 2047, 2047, 2043, 2036, 2047, 2047, 1983, 1887, 1775, 1535], [0, 0, 0, 0, 0, 0, 0, 0, 0, 0, 0], 0⟩ (.q 0 (.q 1 (.q 2 (.q 3 (.q 5 (.q 6 (.q 7 (.x 4 (.x 8 (.q 9 (.q 10 .nil)) .no) .no)))))))) TF.mixed (by kernel_rfl) ⟨f101, f105, trivial⟩ ?_
     refine RunT.quiet rfl rfl rfl (fun h' hC => sem_move ((Value.pointer p2)) rfl ⟨rfl, rfl⟩) ?_
     refine RunT.quiet rfl rfl rfl (fun h' hC => sem_move ((Value.pointer p1)) rfl ⟨rfl, rfl⟩) ?_
     refine RunT.quiet rfl rfl rfl (fun h' hC => sem_fieldAddr ⟨k9, 0, none⟩ 1 rfl TF.fld_81_1 ⟨rfl, rfl⟩) ?_
     refine RunT.quiet rfl rfl rfl (fun h' hC => sem_load1 ⟨k9, 1, none⟩ ((Value.int .i64 (i100))) rfl TF.agg_3 hC.1 ⟨rfl, rfl⟩) ?_
     refine RunT.quiet rfl rfl rfl (fun h' hC => sem_move ((Value.pointer p3)) rfl ⟨rfl, rfl⟩) ?_
     refine RunT.quiet rfl rfl rfl (fun h' hC => sem_fieldAddr ⟨k9, 0, none⟩ 1 rfl TF.fld_81_1 ⟨rfl, rfl⟩) ?_
     refine RunT.quiet rfl rfl rfl (fun h' hC => sem_load1 ⟨k9, 1, none⟩ ((Value.int .i64 (i104))) rfl TF.agg_3 hC.2.1 ⟨rfl, rfl⟩) ?_
     refine ⟨?_, trivial⟩
     refine OpH.go rfl rfl rfl (sem_callL [(Value.pointer p2), (Value.pointer p1), (Value.int .i64 (i100))] (TF.goes_56) rfl rfl (Spec.mono hS fun v h106 hv => ?_))
     obtain ⟨b107, rfl, hS⟩ := hv
     obtain ⟨g108, g109, hS⟩ := hS
     refine ⟨fun _ => ⟨g108, g109, trivial⟩, ?_⟩
     refine ⟨?_, trivial⟩
     refine OpH.go rfl rfl rfl (sem_callL [(Value.pointer p3), (Value.int .i64 (i104))] (TF.goes_89) rfl rfl (Spec.mono hS fun v h110 hv => ?_))
     obtain ⟨b111, rfl, hS⟩ := hv
     obtain ⟨g112, g113, hS⟩ := hS
     refine ⟨fun _ => ⟨g112, g113, trivial⟩, ?_⟩
     refine RunT.quiet rfl rfl rfl (fun h' hC => sem_boolEqV b107 b111 (.inl rfl) ((decide (b107 = b111))) rfl rfl TF.bool_4 (boolEqV_eql _ _) ⟨rfl, rfl⟩) ?_
     refine RunT.quiet rfl rfl rfl (fun h' hC => sem_assign ((Value.bool (decide (b107 = b111)))) rfl ⟨rfl, rfl⟩) ?_
     refine Run.ret ⟨.inr rfl, ?_⟩
     exact hS.imp fun h' hq => ⟨((decide (b107 = b111))), rfl, hq⟩
    ·have hS := hF hb96; clear hT hF
     refine Run.go rfl rfl rfl (sem_binI .i64 (i11) (3) (.bool false) rfl rfl (binI_eql_f hb96) ?_)
     refine Run.go rfl rfl rfl (sem_assign ((Value.bool false)) rfl ?_)
     refine Run.region_end ?_
     refine Run.condF rfl ?_
     refine Run.seq ?_
     refine Run.ops0 (idx := [0, 1]) rfl ?_
     obtain ⟨hT, hF⟩ := hS
     by_cases hb114 : (i11 : Int) = 4
     ·have hS := hT hb114; clear hT hF
      refine Run.go rfl rfl rfl (sem_binI .i64 (i11) (4) (.bool true) rfl rfl (binI_eql_t hb114) ?_)
      refine Run.go rfl rfl rfl (sem_assign ((Value.bool true)) rfl ?_)
      refine Run.region_end ?_
      refine Run.condT rfl ?_
      refine Run.seq ?_
      skip
      skip
      skip
      obtain ⟨i118, hl, hS⟩ := hS
      have f119 := hl
      skip
      obtain ⟨i121, hl, hS⟩ := hS
      have f122 := hl
      skip
      skip
      obtain ⟨i125, hl, hS⟩ := hS
      have f126 := hl
      skip
      obtain ⟨i128, hl, hS⟩ := hS
      have f129 := hl
      refine Run.drawM (fun h' => cellH B h' ⟨k9, 1, none⟩ = some (Value.int .i64 (i118)) ∧ cellH B h' ⟨k9, 2, none⟩ = some (Value.int .i64 (i121)) ∧ cellH B h' ⟨k9, 1, none⟩ = some (Value.int .i64 (i125)) ∧ cellH B h' ⟨k9, 2, none⟩ = some (Value.int .i64 (i128)) ∧ True) [] ⟨[0, 0, 0, 4, 0, 16, 43, 0, 0, 256, 0, 1024, 2752, 4160, 16383], [32767, 32767, 32767, 32763, 32767, 32751, 32724, 32767, 32767, 32511, 32767, 31743, 30079, 28607, 24575], [0, 0, 0, 0, 0, 0, 0, 0, 0, 0, 0, 0, 0, 0, 0], 0⟩ (.q 0 (.q 1 (.q 2 (.q 3 (.q 4 (.q 5 (.q 7 (.q 8 (.q 9 (.q 10 (.q 11 (.x 6 (.x 12 (.q 13 (.q 14 .nil)) .no) .no)))))))))))) TF.mixed (by kernel_rfl) ⟨f119, f122, f126, f129, trivial⟩ ?_
      refine RunT.quiet rfl rfl rfl (fun h' hC => sem_move ((Value.pointer p2)) rfl ⟨rfl, rfl⟩) ?_
      refine RunT.quiet rfl rfl rfl (fun h' hC => sem_move ((Value.pointer p1)) rfl ⟨rfl, rfl⟩) ?_
      refine RunT.quiet rfl rfl rfl (fun h' hC => sem_fieldAddr ⟨k9, 0, none⟩ 1 rfl TF.fld_81_1 ⟨rfl, rfl⟩) ?_
      refine RunT.quiet rfl rfl rfl (fun h' hC => sem_load1 ⟨k9, 1, none⟩ ((Value.int .i64 (i118))) rfl TF.agg_3 hC.1 ⟨rfl, rfl⟩) ?_
      refine RunT.quiet rfl rfl rfl (fun h' hC => sem_fieldAddr ⟨k9, 0, none⟩ 2 rfl TF.fld_81_2 ⟨rfl, rfl⟩) ?_
      refine RunT.quiet rfl rfl rfl (fun h' hC => sem_load1 ⟨k9, 2, none⟩ ((Value.int .i64 (i121))) rfl TF.agg_3 hC.2.1 ⟨rfl, rfl⟩) ?_
      refine RunT.quiet rfl rfl rfl (fun h' hC => sem_move ((Value.pointer p3)) rfl ⟨rfl, rfl⟩) ?_
      refine RunT.quiet rfl rfl rfl (fun h' hC => sem_fieldAddr ⟨k9, 0, none⟩ 1 rfl TF.fld_81_1 ⟨rfl, rfl⟩) ?_
      refine RunT.quiet rfl rfl rfl (fun h' hC => sem_load1 ⟨k9, 1, none⟩ ((Value.int .i64 (i125))) rfl TF.agg_3 hC.2.2.1 ⟨rfl, rfl⟩) ?_
      refine RunT.quiet rfl rfl rfl (fun h' hC => sem_fieldAddr ⟨k9, 0, none⟩ 2 rfl TF.fld_81_2 ⟨rfl, rfl⟩) ?_
      refine RunT.quiet rfl rfl rfl (fun h' hC => sem_load1 ⟨k9, 2, none⟩ ((Value.int .i64 (i128))) rfl TF.agg_3 hC.2.2.2.1 ⟨rfl, rfl⟩) ?_
      refine ⟨?_, trivial⟩
      refine OpH.go rfl rfl rfl (sem_callL [(Value.pointer p2), (Value.pointer p1), (Value.int .i64 (i118)), (Value.int .i64 (i121))] (TF.goes_45) rfl rfl (Spec.mono hS fun v h130 hv => ?_))
      obtain ⟨b131, rfl, hS⟩ := hv
      obtain ⟨g132, g133, g134, g135, hS⟩ := hS
      refine ⟨fun _ => ⟨g132, g133, g134, g135, trivial⟩, ?_⟩
      refine ⟨?_, trivial⟩
      refine OpH.go rfl rfl rfl (sem_callL [(Value.pointer p3), (Value.int .i64 (i125)), (Value.int .i64 (i128))] (TF.goes_90) rfl rfl (Spec.mono hS fun v h136 hv => ?_))
      obtain ⟨b137, rfl, hS⟩ := hv
      obtain ⟨g138, g139, g140, g141, hS⟩ := hS
      refine ⟨fun _ => ⟨g138, g139, g140, g141, trivial⟩, ?_⟩
      refine RunT.quiet rfl rfl rfl (fun h' hC => sem_boolEqV b131 b137 (.inl rfl) ((decide (b131 = b137))) rfl rfl TF.bool_4 (boolEqV_eql _ _) ⟨rfl, rfl⟩) ?_
      refine RunT.quiet rfl rfl rfl (fun h' hC => sem_assign ((Value.bool (decide (b131 = b137)))) rfl ⟨rfl, rfl⟩) ?_
      refine Run.ret ⟨.inr rfl, ?_⟩
      exact hS.imp fun h' hq => ⟨((decide (b131 = b137))), rfl, hq⟩
     ·have hS := hF hb114; clear hT hF
      refine Run.go rfl rfl rfl (sem_binI .i64 (i11) (4) (.bool false) rfl rfl (binI_eql_f hb114) ?_)
      refine Run.go rfl rfl rfl (sem_assign ((Value.bool false)) rfl ?_)
      refine Run.region_end ?_
      refine Run.condF rfl ?_
      refine Run.skip ?_
      refine Run.inBlock ?_
      refine Run.seq ?_
      refine Run.ops0 (idx := [0]) rfl ?_
      refine Run.go rfl rfl rfl (sem_assign ((Value.bool true)) rfl ?_)
      refine Run.region_end ?_
      refine Run.ret ⟨.inr rfl, ?_⟩
      exact hS.imp fun h' hq => ⟨(true), rfl, hq⟩
set_option maxHeartbeats 4000000 in
theorem C_sheet_Sheet_Copy.of {B : RO} {p1 : Option Addr} {h : Heap} {Q : Option Addr → Heap → Prop} (hS : S_sheet_Sheet_Copy B p1 h Q) : C_sheet_Sheet_Copy B p1 h Q := by
 unfold S_sheet_Sheet_Copy at hS
 unfold C_sheet_Sheet_Copy
 refine Spec.of_run Try.func47 (N := 12) (rs := [ResultVar.tmp 2]) rfl rfl rfl (Nat.le_of_ble_eq_true rfl) ?_
 refine Run.seq ?_
 refine Run.ops0 (idx := [0]) rfl ?_
 refine Run.go rfl rfl rfl (sem_assign ((Value.pointer none)) rfl ?_)
 refine Run.region_end ?_
 refine Run.seq ?_
 refine Run.seq ?_
 refine Run.ops0 (idx := [0, 1]) rfl ?_
 refine Run.go rfl rfl rfl (sem_move ((Value.pointer p1)) rfl ?_)
 obtain ⟨hT, hF⟩ := hS
 by_cases hb3 : p1 = none
 ·have hS := hT hb3; clear hT hF
  refine Run.go rfl rfl rfl (sem_ptrNilT p1 (.inl rfl) true rfl rfl TF.ptr_28 hb3 rfl ?_)
  refine Run.region_end ?_
  refine Run.condT rfl ?_
  refine Run.seq ?_
  refine Run.ops0 (idx := [0]) rfl ?_
  refine Run.go rfl rfl rfl (sem_assign ((Value.pointer none)) rfl ?_)
  refine Run.region_end ?_
  refine Run.ret ⟨.inr rfl, ?_⟩
  exact hS.imp fun h' hq => ⟨none, rfl, hq⟩
 ·have hS := hF hb3; clear hT hF
  refine Run.go rfl rfl rfl (sem_ptrNilF p1 (.inl rfl) false rfl rfl TF.ptr_28 hb3 rfl ?_)
  refine Run.region_end ?_
  refine Run.condF rfl ?_
  refine Run.skip ?_
  refine Run.seq ?_
  refine Run.ops0 (idx := [0, 1, 2, 3, 4, 5, 6, 7]) rfl ?_
  refine Run.go rfl rfl rfl (sem_move ((Value.pointer p1)) rfl ?_)
  obtain ⟨A4, e5, hS⟩ := hS
  refine Run.go rfl rfl rfl (sem_nilCheck A4 (congrArg Value.pointer e5) ?_)
  refine Run.go rfl rfl rfl (sem_fieldAddr A4 0 rfl TF.fld_128_0 ?_)
  obtain ⟨p6, hl, hS⟩ := hS
  refine Run.go rfl rfl rfl (sem_load1 A4 ((Value.pointer p6)) rfl TF.agg_95 hl ?_)
  refine Run.go rfl rfl rfl (sem_callL [(Value.pointer p6)] (TF.goes_91) rfl rfl (Spec.mono hS fun v h7 hv => ?_))
  obtain ⟨p8, rfl, hS⟩ := hv
  refine Run.go rfl rfl rfl (sem_buildSL [(0, (Value.pointer p8))] [(Value.pointer p8)] TF.zero_128 TF.places_128 rfl rfl ?_)
  refine Run.go rfl rfl rfl (sem_boxNN [(Value.pointer p8)] rfl (fun k9 hb1 hb2 h10 hb3 => ?_))
  have hS := hS k9 hb1 hb2 h10 hb3
  refine Run.go rfl rfl rfl (sem_assign ((Value.pointer (some ⟨k9, 0, none⟩))) rfl ?_)
  refine Run.region_end ?_
  refine Run.ret ⟨.inr rfl, ?_⟩
  exact hS.imp fun h' hq => ⟨(some ⟨k9, 0, none⟩), rfl, hq⟩
set_option maxHeartbeats 4000000 in
theorem C_sheet_Sheet_Over.of {B : RO} {p1 : Option Addr} {p2 : Option Addr} {i3 : Int} {h : Heap} {Q : Int → Heap → Prop} (hS : S_sheet_Sheet_Over B p1 p2 i3 h Q) : C_sheet_Sheet_Over B p1 p2 i3 h Q := by
 unfold S_sheet_Sheet_Over at hS
 unfold C_sheet_Sheet_Over
 refine Spec.of_run Try.func48 (N := 23) (rs := [ResultVar.tmp 6]) rfl rfl rfl (Nat.le_of_ble_eq_true rfl) ?_
 refine Run.seq ?_
 refine Run.ops0 (idx := [0, 1, 2]) rfl ?_
 refine Run.go rfl rfl rfl (sem_box1N ((Value.pointer p2)) rfl rfl (fun k5 hb1 hb2 h6 hb3 => ?_))
 have hS := hS k5 hb1 hb2 h6 hb3
 refine Run.go rfl rfl rfl (sem_box1N ((Value.int .i64 (i3))) rfl rfl (fun k7 hb1 hb2 h8 hb3 => ?_))
 have hS := hS k7 hb1 hb2 h8 hb3
 refine Run.go rfl rfl rfl (sem_assign ((Value.int .i64 (0))) rfl ?_)
 refine Run.region_end ?_
 refine Run.seq ?_
 refine Run.ops0 (idx := [0, 1]) rfl ?_
 refine Run.go rfl rfl rfl (sem_allocN [(Value.int .i64 (0))] TF.zero_3 (fun k9 hb1 hb2 h10 hb3 => ?_))
 have hS := hS k9 hb1 hb2 h10 hb3
 obtain ⟨h11, hst, hS⟩ := hS
 refine Run.go rfl rfl rfl (sem_store1 ⟨k9, 0, none⟩ ((Value.int .i64 (0))) h11 rfl rfl rfl TF.sz_3 hst ?_)
 refine Run.region_end ?_
 refine Run.seq ?_
 refine Run.seq ?_
 refine Run.ops0 (idx := [0, 1, 2]) rfl ?_
 refine Run.go rfl rfl rfl (sem_move ((Value.pointer p1)) rfl ?_)
 refine Run.go rfl rfl rfl (sem_callL [(Value.pointer p1)] (TF.goes_51) rfl rfl (Spec.mono hS fun v h12 hv => ?_))
 obtain ⟨p13, rfl, hS⟩ := hv
 refine Run.go rfl rfl rfl (sem_callL [(Value.pointer p13)] (TF.goes_52) rfl rfl (Spec.mono hS fun v15 h14 hv => ?_))
 obtain ⟨_, rfl, hS⟩ := hv
 refine Run.region_end ?_
 refine Run.block ?_
 obtain ⟨xs23, G19, J22, hit, hins, hG, h0, hS, hR⟩ := hS
 refine Run.of_fin (h0.imp fun h' h0 => ?_)
 refine Run.range (v15) (xs23.map (fun x : Int × Bool × ByteArray => [(Value.int .i64 (x.1)), (Value.agg #[(Value.bool x.2.1), (Value.string x.2.2)])])) G19 J22 rfl hit hins hG h0 rfl (fun a ha => by obtain ⟨x, _, rfl⟩ := List.mem_map.1 ha; rfl) ?_ ?_
 ·rintro q21 args h20 ha hJ
  obtain ⟨⟨i16, b17, s18⟩, hx, rfl⟩ := Option.map_eq_some_iff.1 ((List.getElem?_map ..).symm.trans ha)
  have hS := hS q21 h20 i16 b17 s18 hx hJ; clear hJ hx ha
  refine Run.seq ?_
  refine Run.ops0 (idx := [0]) rfl ?_
  refine Run.go rfl rfl rfl (sem_assign ((Value.int .i64 (i16))) rfl ?_)
  refine Run.region_end ?_
  refine Run.ops0 (idx := [0, 1]) rfl ?_
  refine Run.go rfl rfl rfl (sem_allocN [(Value.bool false), (Value.string ByteArray.empty)] TF.zero_41 (fun k24 hb1 hb2 h25 hb3 => ?_))
  have hS := hS k24 hb1 hb2 h25 hb3
  obtain ⟨h26, hst, hS⟩ := hS
  refine Run.go rfl rfl rfl (sem_storeN ⟨k24, 0, none⟩ [(Value.bool b17), (Value.string s18)] h26 rfl rfl TF.sz_41 hst ?_)
  refine Run.region_end ?_
  refine Run.begin ⟨rfl, ?_⟩
  refine Run.block ?_
  refine Run.seq ?_
  refine Run.ops0 (idx := [0, 1, 2, 3, 4]) rfl ?_
  obtain ⟨p27, hl, hS⟩ := hS
  refine Run.go rfl rfl rfl (sem_load1 ⟨k5, 0, none⟩ ((Value.pointer p27)) rfl TF.agg_25 hl ?_)
  refine Run.go rfl rfl rfl (sem_move ((Value.int .i64 (i16))) rfl ?_)
  obtain ⟨b28, s29, hl, hS⟩ := hS
  refine Run.go rfl rfl rfl (sem_loadN ⟨k24, 0, none⟩ [(Value.bool b28), (Value.string s29)] rfl TF.agg_41 TF.sz_41 hl ?_)
  obtain ⟨i30, hl, hS⟩ := hS
  refine Run.go rfl rfl rfl (sem_load1 ⟨k7, 0, none⟩ ((Value.int .i64 (i30))) rfl TF.agg_3 hl ?_)
  refine Run.go rfl rfl rfl (sem_callL [(Value.pointer p27), (Value.int .i64 (i16)), (Value.agg #[(Value.bool b28), (Value.string s29)]), (Value.int .i64 (i30))] (TF.goes_85) rfl rfl (Spec.mono hS fun v h31 hv => ?_))
  obtain ⟨b32, rfl, hS⟩ := hv
  obtain ⟨hT, hF⟩ := hS
  cases b32
  ·have hS := hF rfl; clear hT hF
   refine Run.region_end ?_
   refine Run.condF rfl ?_
   refine Run.skip ?_
   refine Run.inBlock ?_
   refine Run.of_fin (hS.imp fun h' hS => ?_)
   exact Run.fall (.inl ⟨rfl, hS⟩)
  ·have hS := hT rfl; clear hT hF
   refine Run.region_end ?_
   refine Run.condT rfl ?_
   refine Run.ops0 (idx := [0, 1, 2]) rfl ?_
   obtain ⟨i33, hl, hS⟩ := hS
   refine Run.go rfl rfl rfl (sem_load1 ⟨k9, 0, none⟩ ((Value.int .i64 (i33))) rfl TF.agg_3 hl ?_)
   refine Run.go rfl rfl rfl (sem_binI .i64 (i33) (1) ((Value.int .i64 (IntKind.wrap .i64 ((i33) + (1))))) rfl rfl rfl ?_)
   obtain ⟨h34, hst, hS⟩ := hS
   refine Run.go rfl rfl rfl (sem_store1 ⟨k9, 0, none⟩ ((Value.int .i64 (IntKind.wrap .i64 ((i33) + (1))))) h34 rfl rfl rfl TF.sz_3 hst ?_)
   refine Run.region_end ?_
   refine Run.inBlock ?_
   refine Run.of_fin (hS.imp fun h' hS => ?_)
   exact Run.fall (.inl ⟨rfl, hS⟩)
 ·intro h20 hJ
  have hS := hR h20 (by simpa using hJ); clear hJ hR
  refine Run.inBlock ?_
  refine Run.seq ?_
  refine Run.ops0 (idx := [0, 1]) rfl ?_
  obtain ⟨i35, hl, hS⟩ := hS
  refine Run.go rfl rfl rfl (sem_load1 ⟨k9, 0, none⟩ ((Value.int .i64 (i35))) rfl TF.agg_3 hl ?_)
  refine Run.go rfl rfl rfl (sem_assign ((Value.int .i64 (i35))) rfl ?_)
  refine Run.region_end ?_
  refine Run.ret ⟨.inr rfl, ?_⟩
  exact hS.imp fun h' hq => ⟨(i35), rfl, hq⟩
set_option maxHeartbeats 4000000 in
theorem C_tome_Tome_Get.of {B : RO} {p1 : Option Addr} {i2 : Int} {h : Heap} {Q : Bool → ByteArray → Int → Heap → Prop} (hS : S_tome_Tome_Get B p1 i2 h Q) : C_tome_Tome_Get B p1 i2 h Q := by
 unfold S_tome_Tome_Get at hS
 unfold C_tome_Tome_Get
 refine Spec.of_run Try.func49 (N := 17) (rs := [ResultVar.cell 4 41, ResultVar.tmp 5]) rfl rfl rfl (Nat.le_of_ble_eq_true rfl) ?_
 refine Run.seq ?_
 refine Run.ops0 (idx := [0, 1]) rfl ?_
 refine Run.go rfl rfl rfl (sem_allocN [(Value.bool false), (Value.string ByteArray.empty)] TF.zero_41 (fun k6 hb1 hb2 h7 hb3 => ?_))
 have hS := hS k6 hb1 hb2 h7 hb3
 refine Run.go rfl rfl rfl (sem_assign ((Value.int .i64 (0))) rfl ?_)
 refine Run.region_end ?_
 refine Run.seq ?_
 refine Run.seq ?_
 refine Run.ops0 (idx := [0, 1]) rfl ?_
 refine Run.go rfl rfl rfl (sem_move ((Value.pointer p1)) rfl ?_)
 obtain ⟨hT, hF⟩ := hS
 by_cases hb8 : p1 = none
 ·have hS := hT hb8; clear hT hF
  refine Run.go rfl rfl rfl (sem_ptrNilT p1 (.inl rfl) true rfl rfl TF.ptr_25 hb8 rfl ?_)
  refine Run.region_end ?_
  refine Run.condT rfl ?_
  refine Run.seq ?_
  refine Run.ops0 (idx := [0, 1, 2]) rfl ?_
  refine Run.go rfl rfl rfl (sem_buildSL [] [(Value.bool false), (Value.string ByteArray.empty)] TF.zero_41 TF.places_41 rfl rfl ?_)
  obtain ⟨h9, hst, hS⟩ := hS
  refine Run.go rfl rfl rfl (sem_storeN ⟨k6, 0, none⟩ [(Value.bool false), (Value.string ByteArray.empty)] h9 rfl rfl TF.sz_41 hst ?_)
  refine Run.go rfl rfl rfl (sem_assign ((Value.int .i64 (0))) rfl ?_)
  refine Run.region_end ?_
  obtain ⟨b10, s11, hl0, hS⟩ := hS
  refine Run.ret ⟨.inr rfl, ?_⟩
  exact ⟨⟨k6, 0, none⟩, (Value.agg #[(Value.bool b10), (Value.string s11)]), rfl, loadHN TF.agg_41 TF.sz_41 hl0, hS.imp fun h' hq => ⟨(b10), s11, (0), rfl, hq⟩⟩
 ·have hS := hF hb8; clear hT hF
  refine Run.go rfl rfl rfl (sem_ptrNilF p1 (.inl rfl) false rfl rfl TF.ptr_25 hb8 rfl ?_)
  refine Run.region_end ?_
  refine Run.condF rfl ?_
  refine Run.skip ?_
  refine Run.seq ?_
  refine Run.ops0 (idx := [0, 1, 2, 3, 4, 5, 6, 7, 8, 9]) rfl ?_
  refine Run.go rfl rfl rfl (sem_move ((Value.pointer p1)) rfl ?_)
  obtain ⟨A12, e13, hS⟩ := hS
  refine Run.go rfl rfl rfl (sem_nilCheck A12 (congrArg Value.pointer e13) ?_)
  refine Run.go rfl rfl rfl (sem_fieldAddr A12 0 rfl TF.fld_113_0 ?_)
  obtain ⟨p14, hl, hS⟩ := hS
  refine Run.go rfl rfl rfl (sem_load1 A12 ((Value.pointer p14)) rfl TF.agg_110 hl ?_)
  refine Run.go rfl rfl rfl (sem_move ((Value.int .i64 (i2))) rfl ?_)
  refine Run.go rfl rfl rfl (sem_callL [(Value.pointer p14), (Value.int .i64 (i2))] (TF.goes_92) rfl rfl (Spec.mono hS fun v h15 hv => ?_))
  obtain ⟨b16, s17, i18, rfl, hS⟩ := hv
  refine Run.go rfl rfl rfl (sem_extract #[(Value.agg #[(Value.bool b16), (Value.string s17)]), (Value.int .i64 (i18))] ((Value.agg #[(Value.bool b16), (Value.string s17)])) rfl rfl ?_)
  refine Run.go rfl rfl rfl (sem_extract #[(Value.agg #[(Value.bool b16), (Value.string s17)]), (Value.int .i64 (i18))] ((Value.int .i64 (i18))) rfl rfl ?_)
  obtain ⟨h19, hst, hS⟩ := hS
  refine Run.go rfl rfl rfl (sem_storeN ⟨k6, 0, none⟩ [(Value.bool b16), (Value.string s17)] h19 rfl rfl TF.sz_41 hst ?_)
  refine Run.go rfl rfl rfl (sem_assign ((Value.int .i64 (i18))) rfl ?_)
  refine Run.region_end ?_
  obtain ⟨b20, s21, hl0, hS⟩ := hS
  refine Run.ret ⟨.inr rfl, ?_⟩
  exact ⟨⟨k6, 0, none⟩, (Value.agg #[(Value.bool b20), (Value.string s21)]), rfl, loadHN TF.agg_41 TF.sz_41 hl0, hS.imp fun h' hq => ⟨(b20), s21, (i18), rfl, hq⟩⟩
set_option maxHeartbeats 4000000 in
theorem C_tome_Tome_Bytes.of {B : RO} {p1 : Option Addr} {h : Heap} {Q : ByteArray → Heap → Prop} (hS : S_tome_Tome_Bytes B p1 h Q) : C_tome_Tome_Bytes B p1 h Q := by
 unfold S_tome_Tome_Bytes at hS
 unfold C_tome_Tome_Bytes
 refine Spec.of_run Try.func50 (N := 23) (rs := [ResultVar.tmp 2]) rfl rfl rfl (Nat.le_of_ble_eq_true rfl) ?_
 refine Run.seq ?_
 refine Run.ops0 (idx := [0]) rfl ?_
 refine Run.go rfl rfl rfl (sem_assign ((Value.string (ByteArray.mk #[]))) rfl ?_)
 refine Run.region_end ?_
 refine Run.seq ?_
 refine Run.ops0 (idx := [0, 1, 2, 3]) rfl ?_
 refine Run.go rfl rfl rfl (sem_buildSL [] [(Value.slice none 0 0)] TF.zero_146 TF.places_146 rfl rfl ?_)
 refine Run.go rfl rfl rfl (sem_boxNN [(Value.slice none 0 0)] rfl (fun k3 hb1 hb2 h4 hb3 => ?_))
 have hS := hS k3 hb1 hb2 h4 hb3
 refine Run.go rfl rfl rfl (sem_allocN [(Value.pointer none)] TF.zero_143 (fun k5 hb1 hb2 h6 hb3 => ?_))
 have hS := hS k5 hb1 hb2 h6 hb3
 obtain ⟨h7, hst, hS⟩ := hS
 refine Run.go rfl rfl rfl (sem_store1 ⟨k5, 0, none⟩ ((Value.pointer (some ⟨k3, 0, none⟩))) h7 rfl rfl rfl TF.sz_143 hst ?_)
 refine Run.region_end ?_
 refine Run.seq ?_
 refine Run.seq ?_
 refine Run.ops0 (idx := [0, 1]) rfl ?_
 refine Run.go rfl rfl rfl (sem_move ((Value.pointer p1)) rfl ?_)
 refine Run.go rfl rfl rfl (sem_callL [(Value.pointer p1)] (TF.goes_93) rfl rfl (Spec.mono hS fun v9 h8 hv => ?_))
 obtain ⟨_, rfl, hS⟩ := hv
 refine Run.region_end ?_
 refine Run.block ?_
 obtain ⟨xs17, G13, J16, hit, hins, hG, h0, hS, hR⟩ := hS
 refine Run.of_fin (h0.imp fun h' h0 => ?_)
 refine Run.range (v9) (xs17.map (fun x : Int × Bool × ByteArray => [(Value.int .i64 (x.1)), (Value.agg #[(Value.bool x.2.1), (Value.string x.2.2)])])) G13 J16 rfl hit hins hG h0 rfl (fun a ha => by obtain ⟨x, _, rfl⟩ := List.mem_map.1 ha; rfl) ?_ ?_
 ·rintro q15 args h14 ha hJ
  obtain ⟨⟨i10, b11, s12⟩, hx, rfl⟩ := Option.map_eq_some_iff.1 ((List.getElem?_map ..).symm.trans ha)
  have hS := hS q15 h14 i10 b11 s12 hx hJ; clear hJ hx ha
  refine Run.seq ?_
  refine Run.ops0 (idx := [0]) rfl ?_
  refine Run.go rfl rfl rfl (sem_assign ((Value.int .i64 (i10))) rfl ?_)
  refine Run.region_end ?_
  refine Run.ops0 (idx := [0, 1]) rfl ?_
  refine Run.go rfl rfl rfl (sem_allocN [(Value.bool false), (Value.string ByteArray.empty)] TF.zero_41 (fun k18 hb1 hb2 h19 hb3 => ?_))
  have hS := hS k18 hb1 hb2 h19 hb3
  obtain ⟨h20, hst, hS⟩ := hS
  refine Run.go rfl rfl rfl (sem_storeN ⟨k18, 0, none⟩ [(Value.bool b11), (Value.string s12)] h20 rfl rfl TF.sz_41 hst ?_)
  refine Run.region_end ?_
  refine Run.begin ⟨rfl, ?_⟩
  refine Run.block ?_
  refine Run.seq ?_
  refine Run.ops0 (idx := [0, 1, 2, 3]) rfl ?_
  obtain ⟨p21, hl, hS⟩ := hS
  refine Run.go rfl rfl rfl (sem_load1 ⟨k5, 0, none⟩ ((Value.pointer p21)) rfl TF.agg_143 hl ?_)
  refine Run.go rfl rfl rfl (sem_move ((Value.int .i64 (i10))) rfl ?_)
  refine Run.go rfl rfl rfl (sem_buildSliceL [(0, (Value.int .i64 (i10)))] [(Value.int .i64 (i10))] TF.slc_184 TF.zero_3 rfl (by decide) (by decide) rfl rfl (fun k22 hb1 hb2 h23 hb3 => ?_))
  have hS := hS k22 hb1 hb2 h23 hb3
  refine Run.go rfl rfl rfl (sem_callL [(Value.pointer p21), (Value.slice (some ⟨k22, 0, none⟩) 1 1)] (TF.goes_72) rfl rfl (Spec.mono hS fun v h24 hv => ?_))
  obtain ⟨rfl, hS⟩ := hv
  refine Run.region_end ?_
  refine Run.ops0 (idx := [0, 1, 2, 3, 4]) rfl ?_
  obtain ⟨p25, hl, hS⟩ := hS
  refine Run.go rfl rfl rfl (sem_load1 ⟨k5, 0, none⟩ ((Value.pointer p25)) rfl TF.agg_143 hl ?_)
  refine Run.go rfl rfl rfl (sem_fieldAddr ⟨k18, 0, none⟩ 1 rfl TF.fld_41_1 ?_)
  obtain ⟨s26, hl, hS⟩ := hS
  refine Run.go rfl rfl rfl (sem_load1 ⟨k18, 1, none⟩ ((Value.string s26)) rfl TF.agg_9 hl ?_)
  refine Run.go rfl rfl rfl (sem_buildSliceL [(0, (Value.string s26))] [(Value.string s26)] TF.slc_45 TF.zero_9 rfl (by decide) (by decide) rfl rfl (fun k27 hb1 hb2 h28 hb3 => ?_))
  have hS := hS k27 hb1 hb2 h28 hb3
  refine Run.go rfl rfl rfl (sem_callL [(Value.pointer p25), (Value.slice (some ⟨k27, 0, none⟩) 1 1)] (TF.goes_94) rfl rfl (Spec.mono hS fun v h29 hv => ?_))
  obtain ⟨rfl, hS⟩ := hv
  refine Run.region_end ?_
  refine Run.inBlock ?_
  refine Run.of_fin (hS.imp fun h' hS => ?_)
  exact Run.fall (.inl ⟨rfl, hS⟩)
 ·intro h14 hJ
  have hS := hR h14 (by simpa using hJ); clear hJ hR
  refine Run.inBlock ?_
  refine Run.seq ?_
  refine Run.ops0 (idx := [0, 1, 2]) rfl ?_
  obtain ⟨p30, hl, hS⟩ := hS
  refine Run.go rfl rfl rfl (sem_load1 ⟨k5, 0, none⟩ ((Value.pointer p30)) rfl TF.agg_143 hl ?_)
  refine Run.go rfl rfl rfl (sem_callL [(Value.pointer p30)] (TF.goes_74) rfl rfl (Spec.mono hS fun v h31 hv => ?_))
  obtain ⟨s32, rfl, hS⟩ := hv
  refine Run.go rfl rfl rfl (sem_assign ((Value.string s32)) rfl ?_)
  refine Run.region_end ?_
  refine Run.ret ⟨.inr rfl, ?_⟩
  exact hS.imp fun h' hq => ⟨s32, rfl, hq⟩
set_option maxHeartbeats 4000000 in
theorem C_sheet_Sheet_Draft.of {B : RO} {p1 : Option Addr} {h : Heap} {Q : Option Addr → Heap → Prop} (hS : S_sheet_Sheet_Draft B p1 h Q) : C_sheet_Sheet_Draft B p1 h Q := by
 unfold S_sheet_Sheet_Draft at hS
 unfold C_sheet_Sheet_Draft
 refine Spec.of_run Try.func51 (N := 9) (rs := [ResultVar.tmp 2]) rfl rfl rfl (Nat.le_of_ble_eq_true rfl) ?_
 refine Run.seq ?_
 refine Run.ops0 (idx := [0]) rfl ?_
 refine Run.go rfl rfl rfl (sem_assign ((Value.pointer none)) rfl ?_)
 refine Run.region_end ?_
 refine Run.seq ?_
 refine Run.seq ?_
 refine Run.ops0 (idx := [0, 1]) rfl ?_
 refine Run.go rfl rfl rfl (sem_move ((Value.pointer p1)) rfl ?_)
 obtain ⟨hT, hF⟩ := hS
 by_cases hb3 : p1 = none
 ·have hS := hT hb3; clear hT hF
  refine Run.go rfl rfl rfl (sem_ptrNilT p1 (.inl rfl) true rfl rfl TF.ptr_28 hb3 rfl ?_)
  refine Run.region_end ?_
  refine Run.condT rfl ?_
  refine Run.seq ?_
  refine Run.ops0 (idx := [0]) rfl ?_
  refine Run.go rfl rfl rfl (sem_assign ((Value.pointer none)) rfl ?_)
  refine Run.region_end ?_
  refine Run.ret ⟨.inr rfl, ?_⟩
  exact hS.imp fun h' hq => ⟨none, rfl, hq⟩
 ·have hS := hF hb3; clear hT hF
  refine Run.go rfl rfl rfl (sem_ptrNilF p1 (.inl rfl) false rfl rfl TF.ptr_28 hb3 rfl ?_)
  refine Run.region_end ?_
  refine Run.condF rfl ?_
  refine Run.skip ?_
  refine Run.seq ?_
  refine Run.ops0 (idx := [0, 1, 2, 3, 4]) rfl ?_
  refine Run.go rfl rfl rfl (sem_move ((Value.pointer p1)) rfl ?_)
  obtain ⟨A4, e5, hS⟩ := hS
  refine Run.go rfl rfl rfl (sem_nilCheck A4 (congrArg Value.pointer e5) ?_)
  refine Run.go rfl rfl rfl (sem_fieldAddr A4 0 rfl TF.fld_128_0 ?_)
  obtain ⟨p6, hl, hS⟩ := hS
  refine Run.go rfl rfl rfl (sem_load1 A4 ((Value.pointer p6)) rfl TF.agg_95 hl ?_)
  refine Run.go rfl rfl rfl (sem_assign ((Value.pointer p6)) rfl ?_)
  refine Run.region_end ?_
  refine Run.ret ⟨.inr rfl, ?_⟩
  exact hS.imp fun h' hq => ⟨p6, rfl, hq⟩
set_option maxHeartbeats 4000000 in
theorem C_draft_Draft_file_File_All.of {B : RO} {p1 : Option Addr} {h : Heap} {Q : Value → Heap → Prop} (hS : S_draft_Draft_file_File_All B p1 h Q) : C_draft_Draft_file_File_All B p1 h Q := by
 unfold S_draft_Draft_file_File_All at hS
 unfold C_draft_Draft_file_File_All
 refine Spec.of_run Try.func52 (N := 4) (rs := [ResultVar.tmp 2]) rfl rfl rfl (Nat.le_of_ble_eq_true rfl) ?_
 refine Run.seq ?_
 refine Run.ops0 (idx := [0, 1]) rfl ?_
 refine Run.go rfl rfl rfl (sem_box1N ((Value.pointer p1)) rfl rfl (fun k3 hb1 hb2 h4 hb3 => ?_))
 have hS := hS k3 hb1 hb2 h4 hb3
 refine Run.go rfl rfl rfl (sem_assign (Value.nilFunc) rfl ?_)
 refine Run.region_end ?_
 refine Run.seq ?_
 refine Run.ops0 (idx := [0, 1]) rfl ?_
 refine Run.go rfl rfl rfl (sem_makeFuncL [] [(Value.pointer (some ⟨k3, 0, none⟩))] rfl rfl ?_)
 refine Run.go rfl rfl rfl (sem_assign ((Value.func (.func 95) #[] #[(Value.pointer (some ⟨k3, 0, none⟩))])) rfl ?_)
 refine Run.region_end ?_
 refine Run.ret ⟨.inr rfl, ?_⟩
 exact hS.imp fun h' hq => ⟨(Value.func (.func 95) #[] #[(Value.pointer (some ⟨k3, 0, none⟩))]), rfl, hq⟩
set_option maxHeartbeats 4000000 in
theorem C_draft_Draft_file_File_Len.of {B : RO} {p1 : Option Addr} {h : Heap} {Q : Int → Heap → Prop} (hS : S_draft_Draft_file_File_Len B p1 h Q) : C_draft_Draft_file_File_Len B p1 h Q := by
 unfold S_draft_Draft_file_File_Len at hS
 unfold C_draft_Draft_file_File_Len
 refine Spec.of_run Try.func53 (N := 10) (rs := [ResultVar.tmp 2]) rfl rfl rfl (Nat.le_of_ble_eq_true rfl) ?_
 refine Run.seq ?_
 refine Run.ops0 (idx := [0]) rfl ?_
 refine Run.go rfl rfl rfl (sem_assign ((Value.int .i64 (0))) rfl ?_)
 refine Run.region_end ?_
 refine Run.seq ?_
 refine Run.seq ?_
 refine Run.ops0 (idx := [0, 1]) rfl ?_
 refine Run.go rfl rfl rfl (sem_move ((Value.pointer p1)) rfl ?_)
 obtain ⟨hT, hF⟩ := hS
 by_cases hb3 : p1 = none
 ·have hS := hT hb3; clear hT hF
  refine Run.go rfl rfl rfl (sem_ptrNilT p1 (.inl rfl) true rfl rfl TF.ptr_95 hb3 rfl ?_)
  refine Run.region_end ?_
  refine Run.condT rfl ?_
  refine Run.seq ?_
  refine Run.ops0 (idx := [0]) rfl ?_
  refine Run.go rfl rfl rfl (sem_assign ((Value.int .i64 (0))) rfl ?_)
  refine Run.region_end ?_
  refine Run.ret ⟨.inr rfl, ?_⟩
  exact hS.imp fun h' hq => ⟨(0), rfl, hq⟩
 ·have hS := hF hb3; clear hT hF
  refine Run.go rfl rfl rfl (sem_ptrNilF p1 (.inl rfl) false rfl rfl TF.ptr_95 hb3 rfl ?_)
  refine Run.region_end ?_
  refine Run.condF rfl ?_
  refine Run.skip ?_
  refine Run.seq ?_
  refine Run.ops0 (idx := [0, 1, 2, 3, 4, 5]) rfl ?_
  refine Run.go rfl rfl rfl (sem_move ((Value.pointer p1)) rfl ?_)
  obtain ⟨A4, e5, hS⟩ := hS
  refine Run.go rfl rfl rfl (sem_nilCheck A4 (congrArg Value.pointer e5) ?_)
  refine Run.go rfl rfl rfl (sem_fieldAddr A4 0 rfl TF.fld_160_0 ?_)
  refine Run.ldSl hS fun a6 n7 c8 h9 hl hS => ?_
  refine Run.go rfl rfl rfl (sem_load1 A4 ((Value.slice a6 n7 c8)) rfl TF.agg_158 hl ?_)
  refine Run.go rfl rfl rfl (sem_lenSl a6 n7 c8 rfl TF.sl_158 ?_)
  refine Run.go rfl rfl rfl (sem_assign ((Value.int .i64 ((n7 : Nat)))) rfl ?_)
  refine Run.region_end ?_
  refine Run.ret ⟨.inr rfl, ?_⟩
  exact hS.imp fun h' hq => ⟨((n7 : Nat)), rfl, hq⟩
set_option maxHeartbeats 4000000 in
theorem C_sheet_Sheet_Write.of {B : RO} {p1 : Option Addr} {p2 : Option Addr} {i3 : Int} {i4 : Int} {i5 : Int} {h : Heap} {Q : Bool → Heap → Prop} (hS : S_sheet_Sheet_Write B p1 p2 i3 i4 i5 h Q) : C_sheet_Sheet_Write B p1 p2 i3 i4 i5 h Q := by
 unfold S_sheet_Sheet_Write at hS
 unfold C_sheet_Sheet_Write
 refine Spec.of_run Try.func54 (N := 28) (rs := [ResultVar.tmp 10]) rfl rfl rfl (Nat.le_of_ble_eq_true rfl) ?_
 refine Run.seq ?_
 refine Run.ops0 (idx := [0]) rfl ?_
 refine Run.go rfl rfl rfl (sem_assign ((Value.bool false)) rfl ?_)
 refine Run.region_end ?_
 refine Run.seq ?_
 refine Run.ops0 (idx := [0, 1, 2, 3, 4, 5, 6, 7, 8, 9]) rfl ?_
 refine Run.go rfl rfl rfl (sem_move ((Value.pointer p1)) rfl ?_)
 refine Run.go rfl rfl rfl (sem_move ((Value.pointer p2)) rfl ?_)
 refine Run.go rfl rfl rfl (sem_move ((Value.int .i64 (i3))) rfl ?_)
 refine Run.go rfl rfl rfl (sem_callL [(Value.pointer p1), (Value.pointer p2), (Value.int .i64 (i3))] (TF.goes_23) rfl rfl (Spec.mono hS fun v h7 hv => ?_))
 obtain ⟨b8, s9, b10, rfl, hS⟩ := hv
 refine Run.go rfl rfl rfl (sem_move ((Value.tuple #[(Value.agg #[(Value.bool b8), (Value.string s9)]), (Value.bool b10)])) rfl ?_)
 refine Run.go rfl rfl rfl (sem_extract #[(Value.agg #[(Value.bool b8), (Value.string s9)]), (Value.bool b10)] ((Value.agg #[(Value.bool b8), (Value.string s9)])) rfl rfl ?_)
 refine Run.go rfl rfl rfl (sem_extract #[(Value.agg #[(Value.bool b8), (Value.string s9)]), (Value.bool b10)] ((Value.bool b10)) rfl rfl ?_)
 refine Run.go rfl rfl rfl (sem_allocN [(Value.bool false), (Value.string ByteArray.empty)] TF.zero_41 (fun k11 hb1 hb2 h12 hb3 => ?_))
 have hS := hS k11 hb1 hb2 h12 hb3
 obtain ⟨h13, hst, hS⟩ := hS
 refine Run.go rfl rfl rfl (sem_storeN ⟨k11, 0, none⟩ [(Value.bool b8), (Value.string s9)] h13 rfl rfl TF.sz_41 hst ?_)
 refine Run.go rfl rfl rfl (sem_assign ((Value.bool b10)) rfl ?_)
 refine Run.region_end ?_
 refine Run.seq ?_
 refine Run.ops0 (idx := [0, 1, 2, 3, 4, 5, 6, 7, 8]) rfl ?_
 refine Run.go rfl rfl rfl (sem_move ((Value.pointer p1)) rfl ?_)
 refine Run.go rfl rfl rfl (sem_move ((Value.pointer p2)) rfl ?_)
 refine Run.go rfl rfl rfl (sem_move ((Value.int .i64 (i3))) rfl ?_)
 obtain ⟨b14, s15, hl, hS⟩ := hS
 refine Run.go rfl rfl rfl (sem_loadN ⟨k11, 0, none⟩ [(Value.bool b14), (Value.string s15)] rfl TF.agg_41 TF.sz_41 hl ?_)
 refine Run.go rfl rfl rfl (sem_move ((Value.int .i64 (i4))) rfl ?_)
 refine Run.go rfl rfl rfl (sem_move ((Value.int .u8 (i5))) rfl ?_)
 refine Run.go rfl rfl rfl (sem_callL [(Value.agg #[(Value.bool b14), (Value.string s15)]), (Value.int .i64 (i4)), (Value.int .u8 (i5))] (TF.goes_96) rfl rfl (Spec.mono hS fun v h16 hv => ?_))
 obtain ⟨b17, s18, rfl, hS⟩ := hv
 refine Run.go rfl rfl rfl (sem_callL [(Value.pointer p1), (Value.pointer p2), (Value.int .i64 (i3)), (Value.agg #[(Value.bool b17), (Value.string s18)])] (TF.goes_67) rfl rfl (Spec.mono hS fun v h19 hv => ?_))
 obtain ⟨b20, rfl, hS⟩ := hv
 refine Run.go rfl rfl rfl (sem_assign ((Value.bool b20)) rfl ?_)
 refine Run.region_end ?_
 refine Run.ret ⟨.inr rfl, ?_⟩
 exact hS.imp fun h' hq => ⟨(b20), rfl, hq⟩
set_option maxHeartbeats 4000000 in
theorem C_sheet_Sheet_Cut.of {B : RO} {p1 : Option Addr} {p2 : Option Addr} {i3 : Int} {i4 : Int} {h : Heap} {Q : Bool → Heap → Prop} (hS : S_sheet_Sheet_Cut B p1 p2 i3 i4 h Q) : C_sheet_Sheet_Cut B p1 p2 i3 i4 h Q := by
 unfold S_sheet_Sheet_Cut at hS
 unfold C_sheet_Sheet_Cut
 refine Spec.of_run Try.func55 (N := 25) (rs := [ResultVar.tmp 8]) rfl rfl rfl (Nat.le_of_ble_eq_true rfl) ?_
 refine Run.seq ?_
 refine Run.ops0 (idx := [0]) rfl ?_
 refine Run.go rfl rfl rfl (sem_assign ((Value.bool false)) rfl ?_)
 refine Run.region_end ?_
 refine Run.seq ?_
 refine Run.ops0 (idx := [0, 1, 2, 3, 4, 5, 6, 7, 8, 9]) rfl ?_
 refine Run.go rfl rfl rfl (sem_move ((Value.pointer p1)) rfl ?_)
 refine Run.go rfl rfl rfl (sem_move ((Value.pointer p2)) rfl ?_)
 refine Run.go rfl rfl rfl (sem_move ((Value.int .i64 (i3))) rfl ?_)
 refine Run.go rfl rfl rfl (sem_callL [(Value.pointer p1), (Value.pointer p2), (Value.int .i64 (i3))] (TF.goes_23) rfl rfl (Spec.mono hS fun v h6 hv => ?_))
 obtain ⟨b7, s8, b9, rfl, hS⟩ := hv
 refine Run.go rfl rfl rfl (sem_move ((Value.tuple #[(Value.agg #[(Value.bool b7), (Value.string s8)]), (Value.bool b9)])) rfl ?_)
 refine Run.go rfl rfl rfl (sem_extract #[(Value.agg #[(Value.bool b7), (Value.string s8)]), (Value.bool b9)] ((Value.agg #[(Value.bool b7), (Value.string s8)])) rfl rfl ?_)
 refine Run.go rfl rfl rfl (sem_extract #[(Value.agg #[(Value.bool b7), (Value.string s8)]), (Value.bool b9)] ((Value.bool b9)) rfl rfl ?_)
 refine Run.go rfl rfl rfl (sem_allocN [(Value.bool false), (Value.string ByteArray.empty)] TF.zero_41 (fun k10 hb1 hb2 h11 hb3 => ?_))
 have hS := hS k10 hb1 hb2 h11 hb3
 obtain ⟨h12, hst, hS⟩ := hS
 refine Run.go rfl rfl rfl (sem_storeN ⟨k10, 0, none⟩ [(Value.bool b7), (Value.string s8)] h12 rfl rfl TF.sz_41 hst ?_)
 refine Run.go rfl rfl rfl (sem_assign ((Value.bool b9)) rfl ?_)
 refine Run.region_end ?_
 refine Run.seq ?_
 refine Run.ops0 (idx := [0, 1, 2, 3, 4, 5, 6, 7]) rfl ?_
 refine Run.go rfl rfl rfl (sem_move ((Value.pointer p1)) rfl ?_)
 refine Run.go rfl rfl rfl (sem_move ((Value.pointer p2)) rfl ?_)
 refine Run.go rfl rfl rfl (sem_move ((Value.int .i64 (i3))) rfl ?_)
 obtain ⟨b13, s14, hl, hS⟩ := hS
 refine Run.go rfl rfl rfl (sem_loadN ⟨k10, 0, none⟩ [(Value.bool b13), (Value.string s14)] rfl TF.agg_41 TF.sz_41 hl ?_)
 refine Run.go rfl rfl rfl (sem_move ((Value.int .i64 (i4))) rfl ?_)
 refine Run.go rfl rfl rfl (sem_callL [(Value.agg #[(Value.bool b13), (Value.string s14)]), (Value.int .i64 (i4))] (TF.goes_97) rfl rfl (Spec.mono hS fun v h15 hv => ?_))
 obtain ⟨b16, s17, rfl, hS⟩ := hv
 refine Run.go rfl rfl rfl (sem_callL [(Value.pointer p1), (Value.pointer p2), (Value.int .i64 (i3)), (Value.agg #[(Value.bool b16), (Value.string s17)])] (TF.goes_67) rfl rfl (Spec.mono hS fun v h18 hv => ?_))
 obtain ⟨b19, rfl, hS⟩ := hv
 refine Run.go rfl rfl rfl (sem_assign ((Value.bool b19)) rfl ?_)
 refine Run.region_end ?_
 refine Run.ret ⟨.inr rfl, ?_⟩
 exact hS.imp fun h' hq => ⟨(b19), rfl, hq⟩
set_option maxHeartbeats 4000000 in
theorem C_sheet_Sheet_Remove.of {B : RO} {p1 : Option Addr} {p2 : Option Addr} {i3 : Int} {h : Heap} {Q : Bool → Heap → Prop} (hS : S_sheet_Sheet_Remove B p1 p2 i3 h Q) : C_sheet_Sheet_Remove B p1 p2 i3 h Q := by
 unfold S_sheet_Sheet_Remove at hS
 unfold C_sheet_Sheet_Remove
 refine Spec.of_run Try.func56 (N := 12) (rs := [ResultVar.tmp 6]) rfl rfl rfl (Nat.le_of_ble_eq_true rfl) ?_
 refine Run.seq ?_
 refine Run.ops0 (idx := [0]) rfl ?_
 refine Run.go rfl rfl rfl (sem_assign ((Value.bool false)) rfl ?_)
 refine Run.region_end ?_
 refine Run.seq ?_
 refine Run.ops0 (idx := [0, 1, 2, 3, 4, 5]) rfl ?_
 refine Run.go rfl rfl rfl (sem_move ((Value.pointer p1)) rfl ?_)
 refine Run.go rfl rfl rfl (sem_move ((Value.pointer p2)) rfl ?_)
 refine Run.go rfl rfl rfl (sem_move ((Value.int .i64 (i3))) rfl ?_)
 refine Run.go rfl rfl rfl (sem_buildSL [] [(Value.bool false), (Value.string ByteArray.empty)] TF.zero_41 TF.places_41 rfl rfl ?_)
 refine Run.go rfl rfl rfl (sem_callL [(Value.pointer p1), (Value.pointer p2), (Value.int .i64 (i3)), (Value.agg #[(Value.bool false), (Value.string ByteArray.empty)])] (TF.goes_67) rfl rfl (Spec.mono hS fun v h5 hv => ?_))
 obtain ⟨b6, rfl, hS⟩ := hv
 refine Run.go rfl rfl rfl (sem_assign ((Value.bool b6)) rfl ?_)
 refine Run.region_end ?_
 refine Run.ret ⟨.inr rfl, ?_⟩
 exact hS.imp fun h' hq => ⟨(b6), rfl, hq⟩
set_option maxHeartbeats 4000000 in
theorem C_cell_New_file_File.of {B : RO} {i1 : Int} {b2 : Bool} {s3 : ByteArray} {h : Heap} {Q : Option Addr → Heap → Prop} (hS : S_cell_New_file_File B i1 b2 s3 h Q) : C_cell_New_file_File B i1 b2 s3 h Q := by
 unfold S_cell_New_file_File at hS
 unfold C_cell_New_file_File
 refine Spec.of_run Try.func60 (N := 24) (rs := [ResultVar.tmp 4]) rfl rfl rfl (Nat.le_of_ble_eq_true rfl) ?_
 refine Run.seq ?_
 refine Run.ops0 (idx := [0, 1]) rfl ?_
 refine Run.go rfl rfl rfl (sem_boxNN [(Value.bool b2), (Value.string s3)] rfl (fun k5 hb1 hb2 h6 hb3 => ?_))
 have hS := hS k5 hb1 hb2 h6 hb3
 refine Run.go rfl rfl rfl (sem_assign ((Value.pointer none)) rfl ?_)
 refine Run.region_end ?_
 refine Run.seq ?_
 refine Run.ops0 (idx := [0, 1, 2]) rfl ?_
 refine Run.go rfl rfl rfl (sem_buildSL [] [(Value.slice none 0 0)] TF.zero_168 TF.places_168 rfl rfl ?_)
 refine Run.go rfl rfl rfl (sem_boxNN [(Value.slice none 0 0)] rfl (fun k7 hb1 hb2 h8 hb3 => ?_))
 have hS := hS k7 hb1 hb2 h8 hb3
 refine Run.go rfl rfl rfl (sem_assign ((Value.pointer (some ⟨k7, 0, none⟩))) rfl ?_)
 refine Run.region_end ?_
 refine Run.seq ?_
 refine Run.seq ?_
 refine Run.ops0 (idx := [0, 1]) rfl ?_
 refine Run.go rfl rfl rfl (sem_move ((Value.int .i64 (i1))) rfl ?_)
 refine Run.go rfl rfl rfl (sem_move ((Value.int .i64 (0))) rfl ?_)
 refine Run.region_end ?_
 refine Run.block ?_
 obtain ⟨J14, m12, h0, hS⟩ := hS
 refine Run.of_fin (h0.imp fun h' h0 => ?_)
 refine Run.loop (σ := Int × Nat) (fun x e h => J14 x.1 x.2 h ∧ Agree [(3, (Value.pointer (some ⟨k5, 0, none⟩))), (5, (Value.pointer (some ⟨k7, 0, none⟩))), (8, (Value.int .i64 (i1))), (9, (Value.int .i64 (x.1)))] e) (fun x => x.2) ((0), m12) ⟨h0, ⟨rfl, rfl, rfl, rfl, trivial⟩⟩ ?_; clear h0
 rintro ⟨i9, m11⟩ e h10 ⟨hJ, hag⟩ ih13
 have hS := hS i9 m11 h10 hJ; clear hJ
 refine Run.env hag ?_; clear hag
 refine Run.seq ?_
 refine Run.ops0 (idx := [0]) rfl ?_
 obtain ⟨hT, hF⟩ := hS
 by_cases hb15 : (i9 : Int) < (i1)
 ·have hS := hT hb15; clear hT hF
  refine Run.go rfl rfl rfl (sem_binI .i64 (i9) (i1) (.bool true) rfl rfl (binI_lss_t hb15) ?_)
  refine Run.region_end ?_
  refine Run.seq ?_
  refine Run.condT rfl ?_
  refine Run.skip ?_
  refine Run.seq ?_
  refine Run.block ?_
  skip
  skip
  skip
  skip
  obtain ⟨a20, n21, c22, hl, hS⟩ := hS
  have f23 := hl
  obtain ⟨b24, s25, hl, hS⟩ := hS
  have f26 := hl
  skip
  refine Run.drawM (fun h' => cellH B h' ⟨k7, 0, none⟩ = some (Value.slice a20 n21 c22) ∧ CellsAt B h' ⟨k5, 0, none⟩ 0 [(Value.bool b24), (Value.string s25)] ∧ True) [11] ⟨[0, 0, 2, 4, 8, 0, 32, 64, 144, 511, 1023, 1535], [4095, 4095, 4093, 4091, 4087, 4095, 4063, 4031, 3951, 4094, 3583, 2815], [0, 0, 2, 6, 14, 0, 32, 96, 254, 511, 1023, 2047], 2048⟩ (.q 0 (.q 1 (.q 2 (.q 3 (.q 4 (.q 5 (.q 6 (.x 7 (.x 8 (.q 9 (.q 10 (.x 11 .nil .no))) .no) .no)))))))) TF.mixed (by kernel_rfl) ⟨f23, f26, trivial⟩ ?_
  refine RunT.quiet rfl rfl rfl (fun h' hC => sem_move ((Value.pointer (some ⟨k7, 0, none⟩))) rfl ⟨rfl, rfl⟩) ?_
  refine RunT.quiet rfl rfl rfl (fun h' hC => sem_move ((Value.pointer (some ⟨k7, 0, none⟩))) rfl ⟨rfl, rfl⟩) ?_
  refine RunT.quiet rfl rfl rfl (fun h' hC => sem_nilCheck ⟨k7, 0, none⟩ rfl ⟨rfl, rfl⟩) ?_
  refine RunT.quiet rfl rfl rfl (fun h' hC => sem_fieldAddr ⟨k7, 0, none⟩ 0 rfl TF.fld_168_0 ⟨rfl, rfl⟩) ?_
  refine RunT.quiet rfl rfl rfl (fun h' hC => sem_load1 ⟨k7, 0, none⟩ ((Value.slice a20 n21 c22)) rfl TF.agg_166 hC.1 ⟨rfl, rfl⟩) ?_
  refine RunT.quiet rfl rfl rfl (fun h' hC => sem_loadN ⟨k5, 0, none⟩ [(Value.bool b24), (Value.string s25)] rfl TF.agg_41 TF.sz_41 hC.2.1 ⟨rfl, rfl⟩) ?_
  refine RunT.quiet rfl rfl rfl (fun h' hC => sem_buildSL [(0, (Value.agg #[(Value.bool b24), (Value.string s25)]))] [(Value.bool b24), (Value.string s25), (Value.int .i64 (0))] TF.zero_170 TF.places_170 rfl rfl ⟨rfl, rfl⟩) ?_
  refine ⟨?_, trivial⟩
  refine OpH.go rfl rfl rfl (sem_buildSliceL [(0, (Value.agg #[(Value.bool b24), (Value.string s25), (Value.int .i64 (0))]))] [(Value.bool b24), (Value.string s25), (Value.int .i64 (0))] TF.slc_166 TF.zero_170 rfl (by decide) (by decide) rfl rfl (fun k28 hb1 hb2 h29 hb3 => ?_))
  have hS := hS k28 hb1 hb2 h29 hb3
  obtain ⟨g30, g31, hS⟩ := hS
  refine ⟨fun _ => ⟨g30, g31, trivial⟩, ?_⟩
  refine ⟨?_, trivial⟩
  refine OpH.go rfl rfl rfl (sem_appendL [(Value.slice a20 n21 c22), (Value.slice (some ⟨k28, 0, none⟩) 1 1)] rfl (semH_mono (fun v h32 hv => ?_) hS))
  obtain ⟨a33, n34, c35, rfl, hS⟩ := hv
  obtain ⟨g36, g37, hS⟩ := hS
  refine ⟨fun _ => ⟨g36, g37, trivial⟩, ?_⟩
  refine RunT.quiet rfl rfl rfl (fun h' hC => sem_nilCheck ⟨k7, 0, none⟩ rfl ⟨rfl, rfl⟩) ?_
  refine RunT.quiet rfl rfl rfl (fun h' hC => sem_fieldAddr ⟨k7, 0, none⟩ 0 rfl TF.fld_168_0 ⟨rfl, rfl⟩) ?_
  refine ⟨?_, trivial⟩
  obtain ⟨h38, hst, hS⟩ := hS
  refine OpH.go rfl rfl rfl (sem_store1 ⟨k7, 0, none⟩ ((Value.slice a33 n34 c35)) h38 rfl rfl rfl TF.sz_166 hst ?_)
  refine ⟨fun hz => Bool.noConfusion hz, ?_⟩
  refine Run.inBlock ?_
  refine Run.ops0 (idx := [0, 1]) rfl ?_
  refine Run.go rfl rfl rfl (sem_binI .i64 (i9) (1) ((Value.int .i64 (IntKind.wrap .i64 ((i9) + (1))))) rfl rfl rfl ?_)
  refine Run.go rfl rfl rfl (sem_move ((Value.int .i64 (IntKind.wrap .i64 ((i9) + (1))))) rfl ?_)
  refine Run.region_end ?_
  exact Run.of_fin (hS.imp fun h' ⟨m', hm, hS⟩ => ih13 ((IntKind.wrap .i64 ((i9) + (1))), m') _ _ ⟨hS, ⟨rfl, rfl, rfl, rfl, trivial⟩⟩ hm)
 ·have hS := hF hb15; clear hT hF
  refine Run.go rfl rfl rfl (sem_binI .i64 (i9) (i1) (.bool false) rfl rfl (binI_lss_f hb15) ?_)
  refine Run.region_end ?_
  refine Run.seq ?_
  refine Run.condF rfl ?_
  refine Run.exit rfl ?_
  refine Run.seq ?_
  refine Run.ops0 (idx := [0, 1]) rfl ?_
  refine Run.go rfl rfl rfl (sem_move ((Value.pointer (some ⟨k7, 0, none⟩))) rfl ?_)
  refine Run.go rfl rfl rfl (sem_assign ((Value.pointer (some ⟨k7, 0, none⟩))) rfl ?_)
  refine Run.region_end ?_
  refine Run.ret ⟨.inr rfl, ?_⟩
  exact hS.imp fun h' hq => ⟨(some ⟨k7, 0, none⟩), rfl, hq⟩
set_option maxHeartbeats 4000000 in
theorem C_sheet_New.of {B : RO} {h : Heap} {Q : Option Addr → Heap → Prop} (hS : S_sheet_New B h Q) : C_sheet_New B h Q := by
 unfold S_sheet_New at hS
 unfold C_sheet_New
 refine Spec.of_run Try.func61 (N := 5) (rs := [ResultVar.tmp 0]) rfl rfl rfl (Nat.le_of_ble_eq_true rfl) ?_
 refine Run.seq ?_
 refine Run.ops0 (idx := [0]) rfl ?_
 refine Run.go rfl rfl rfl (sem_assign ((Value.pointer none)) rfl ?_)
 refine Run.region_end ?_
 refine Run.seq ?_
 refine Run.ops0 (idx := [0, 1, 2, 3, 4]) rfl ?_
 refine Run.go rfl rfl rfl (sem_buildSL [] [(Value.slice none 0 0)] TF.zero_160 TF.places_160 rfl rfl ?_)
 refine Run.go rfl rfl rfl (sem_boxNN [(Value.slice none 0 0)] rfl (fun k2 hb1 hb2 h3 hb3 => ?_))
 have hS := hS k2 hb1 hb2 h3 hb3
 refine Run.go rfl rfl rfl (sem_buildSL [(0, (Value.pointer (some ⟨k2, 0, none⟩)))] [(Value.pointer (some ⟨k2, 0, none⟩))] TF.zero_128 TF.places_128 rfl rfl ?_)
 refine Run.go rfl rfl rfl (sem_boxNN [(Value.pointer (some ⟨k2, 0, none⟩))] rfl (fun k4 hb1 hb2 h5 hb3 => ?_))
 have hS := hS k4 hb1 hb2 h5 hb3
 refine Run.go rfl rfl rfl (sem_assign ((Value.pointer (some ⟨k4, 0, none⟩))) rfl ?_)
 refine Run.region_end ?_
 refine Run.ret ⟨.inr rfl, ?_⟩
 exact hS.imp fun h' hq => ⟨(some ⟨k4, 0, none⟩), rfl, hq⟩
set_option maxHeartbeats 4000000 in
theorem C_sheet_Sheet_put.of {B : RO} {p1 : Option Addr} {p2 : Option Addr} {i3 : Int} {b4 : Bool} {s5 : ByteArray} {h : Heap} {Q : Bool → Heap → Prop} (hS : S_sheet_Sheet_put B p1 p2 i3 b4 s5 h Q) : C_sheet_Sheet_put B p1 p2 i3 b4 s5 h Q := by
 unfold S_sheet_Sheet_put at hS
 unfold C_sheet_Sheet_put
 refine Spec.of_run Try.func67 (N := 38) (rs := [ResultVar.tmp 8]) rfl rfl rfl (Nat.le_of_ble_eq_true rfl) ?_
 refine Run.seq ?_
 refine Run.ops0 (idx := [0, 1]) rfl ?_
 refine Run.go rfl rfl rfl (sem_boxNN [(Value.bool b4), (Value.string s5)] rfl (fun k7 hb1 hb2 h8 hb3 => ?_))
 have hS := hS k7 hb1 hb2 h8 hb3
 refine Run.go rfl rfl rfl (sem_assign ((Value.bool false)) rfl ?_)
 refine Run.region_end ?_
 refine Run.seqJ (fun e h10 => Agree [(0, (Value.pointer p1)), (1, (Value.pointer p2)), (2, (Value.int .i64 (i3))), (7, (Value.pointer (some ⟨k7, 0, none⟩)))] e ∧ S_sheet_Sheet_put_J1 B p1 p2 i3 k7 h10 Q) ?_ fun j9 => ?_
 ·rintro e h10 ⟨hag, hS⟩
  refine Run.env hag ?_; clear hag
  refine Run.seq ?_
  refine Run.seq ?_
  refine Run.ops0 (idx := [0, 1, 2, 3, 4, 5, 6, 7, 8, 9]) rfl ?_
  refine Run.go rfl rfl rfl (sem_move ((Value.pointer p1)) rfl ?_)
  refine Run.go rfl rfl rfl (sem_move ((Value.pointer p2)) rfl ?_)
  refine Run.go rfl rfl rfl (sem_move ((Value.int .i64 (i3))) rfl ?_)
  refine Run.go rfl rfl rfl (sem_callL [(Value.pointer p1), (Value.pointer p2), (Value.int .i64 (i3))] (TF.goes_23) rfl rfl (Spec.mono hS fun v h11 hv => ?_))
  obtain ⟨b12, s13, b14, rfl, hS⟩ := hv
  refine Run.go rfl rfl rfl (sem_move ((Value.tuple #[(Value.agg #[(Value.bool b12), (Value.string s13)]), (Value.bool b14)])) rfl ?_)
  refine Run.go rfl rfl rfl (sem_extract #[(Value.agg #[(Value.bool b12), (Value.string s13)]), (Value.bool b14)] ((Value.agg #[(Value.bool b12), (Value.string s13)])) rfl rfl ?_)
  refine Run.go rfl rfl rfl (sem_extract #[(Value.agg #[(Value.bool b12), (Value.string s13)]), (Value.bool b14)] ((Value.bool b14)) rfl rfl ?_)
  refine Run.go rfl rfl rfl (sem_allocN [(Value.bool false), (Value.string ByteArray.empty)] TF.zero_41 (fun k15 hb1 hb2 h16 hb3 => ?_))
  have hS := hS k15 hb1 hb2 h16 hb3
  obtain ⟨h17, hst, hS⟩ := hS
  refine Run.go rfl rfl rfl (sem_storeN ⟨k15, 0, none⟩ [(Value.bool b12), (Value.string s13)] h17 rfl rfl TF.sz_41 hst ?_)
  refine Run.go rfl rfl rfl (sem_assign ((Value.bool b14)) rfl ?_)
  refine Run.region_end ?_
  refine Run.seq ?_
  refine Run.ops0 (idx := [0, 1, 2]) rfl ?_
  obtain ⟨b18, s19, hl, hS⟩ := hS
  refine Run.go rfl rfl rfl (sem_loadN ⟨k15, 0, none⟩ [(Value.bool b18), (Value.string s19)] rfl TF.agg_41 TF.sz_41 hl ?_)
  obtain ⟨b20, s21, hl, hS⟩ := hS
  refine Run.go rfl rfl rfl (sem_loadN ⟨k7, 0, none⟩ [(Value.bool b20), (Value.string s21)] rfl TF.agg_41 TF.sz_41 hl ?_)
  obtain ⟨hT, hF⟩ := hS
  by_cases hb22 : eqL [(Value.bool b18), (Value.string s19)] [(Value.bool b20), (Value.string s21)] = true
  ·have hS := hT hb22; clear hT hF
   refine Run.go rfl rfl rfl (sem_aggEq [(Value.bool b18), (Value.string s19)] [(Value.bool b20), (Value.string s21)] _ (true) (.inl rfl) rfl rfl TF.agg_41 TF.flat_41 TF.eqg_41 ⟨⟨_, rfl⟩, ⟨_, rfl⟩, trivial⟩ ⟨⟨_, rfl⟩, ⟨_, rfl⟩, trivial⟩ (eqLT_eql hb22) ?_)
   refine Run.region_end ?_
   refine Run.condT rfl ?_
   refine Run.seq ?_
   refine Run.ops0 (idx := [0]) rfl ?_
   refine Run.go rfl rfl rfl (sem_assign ((Value.bool true)) rfl ?_)
   refine Run.region_end ?_
   refine Run.ret ⟨.inr rfl, ?_⟩
   exact hS.imp fun h' hq => ⟨(true), rfl, hq⟩
  ·have hS := hF hb22; clear hT hF
   refine Run.go rfl rfl rfl (sem_aggEq [(Value.bool b18), (Value.string s19)] [(Value.bool b20), (Value.string s21)] _ (false) (.inl rfl) rfl rfl TF.agg_41 TF.flat_41 TF.eqg_41 ⟨⟨_, rfl⟩, ⟨_, rfl⟩, trivial⟩ ⟨⟨_, rfl⟩, ⟨_, rfl⟩, trivial⟩ (eqLF_eql hb22) ?_)
   refine Run.region_end ?_
   refine Run.condF rfl ?_
   refine Run.skip ?_
   refine Run.seq ?_
   skip
   obtain ⟨A24, e25, hS⟩ := hS
   skip
   skip
   obtain ⟨p28, hl, hS⟩ := hS
   have f29 := hl
   skip
   obtain ⟨b31, s32, hl, hS⟩ := hS
   have f33 := hl
   refine Run.drawM (fun h' => cellH B h' A24 = some (Value.pointer p28) ∧ CellsAt B h' ⟨k7, 0, none⟩ 0 [(Value.bool b31), (Value.string s32)] ∧ True) [] ⟨[0, 1, 2, 4, 0, 0, 56, 127], [255, 254, 253, 251, 255, 255, 199, 191], [0, 0, 0, 0, 0, 0, 0, 0], 0⟩ (.q 0 (.q 1 (.q 2 (.q 3 (.q 4 (.q 5 (.x 6 (.q 7 .nil) .no))))))) TF.mixed (by kernel_rfl) ⟨f29, f33, trivial⟩ ?_
   refine RunT.quiet rfl rfl rfl (fun h' hC => sem_move ((Value.pointer p1)) rfl ⟨rfl, rfl⟩) ?_
   refine RunT.quiet rfl rfl rfl (fun h' hC => sem_nilCheck A24 (congrArg Value.pointer e25) ⟨rfl, rfl⟩) ?_
   refine RunT.quiet rfl rfl rfl (fun h' hC => sem_fieldAddr A24 0 rfl TF.fld_128_0 ⟨rfl, rfl⟩) ?_
   refine RunT.quiet rfl rfl rfl (fun h' hC => sem_load1 A24 ((Value.pointer p28)) rfl TF.agg_95 hC.1 ⟨rfl, rfl⟩) ?_
   refine RunT.quiet rfl rfl rfl (fun h' hC => sem_move ((Value.int .i64 (i3))) rfl ⟨rfl, rfl⟩) ?_
   refine RunT.quiet rfl rfl rfl (fun h' hC => sem_loadN ⟨k7, 0, none⟩ [(Value.bool b31), (Value.string s32)] rfl TF.agg_41 TF.sz_41 hC.2.1 ⟨rfl, rfl⟩) ?_
   refine ⟨?_, trivial⟩
   refine OpH.go rfl rfl rfl (sem_callL [(Value.pointer p28), (Value.int .i64 (i3)), (Value.agg #[(Value.bool b31), (Value.string s32)])] (TF.goes_104) rfl rfl (Spec.mono hS fun v h34 hv => ?_))
   obtain ⟨b35, rfl, hS⟩ := hv
   obtain ⟨g36, g37, hS⟩ := hS
   refine ⟨fun _ => ⟨g36, g37, trivial⟩, ?_⟩
   refine RunT.quiet rfl rfl rfl (fun h' hC => sem_assign ((Value.bool b35)) rfl ⟨rfl, rfl⟩) ?_
   refine Run.ret ⟨.inr rfl, ?_⟩
   exact hS.imp fun h' hq => ⟨(b35), rfl, hq⟩
 refine Run.seq ?_
 refine Run.ops0 (idx := [0, 1, 2, 3, 4, 5, 6, 7, 8, 9]) rfl ?_
 refine Run.go rfl rfl rfl (sem_move ((Value.pointer p1)) rfl ?_)
 obtain ⟨hT, hF⟩ := hS
 by_cases hb38 : p1 = none
 ·have hS := hT hb38; clear hT hF
  refine Run.go rfl rfl rfl (sem_ptrNilT p1 (.inl rfl) true rfl rfl TF.ptr_28 hb38 rfl ?_)
  refine Run.go rfl rfl rfl (sem_move ((Value.bool true)) rfl ?_)
  refine Run.no rfl rfl rfl ?_
  refine Run.no rfl rfl rfl ?_
  refine Run.go rfl rfl rfl (sem_pick true ((Value.bool true)) rfl rfl ?_)
  refine Run.go rfl rfl rfl (sem_move ((Value.bool true)) rfl ?_)
  refine Run.no rfl rfl rfl ?_
  refine Run.no rfl rfl rfl ?_
  refine Run.go rfl rfl rfl (sem_pick true ((Value.bool true)) rfl rfl ?_)
  refine Run.region_end ?_
  refine Run.condT rfl ?_
  refine Run.seq ?_
  refine Run.ops0 (idx := [0]) rfl ?_
  refine Run.go rfl rfl rfl (sem_assign ((Value.bool false)) rfl ?_)
  refine Run.region_end ?_
  refine Run.ret ⟨.inr rfl, ?_⟩
  exact hS.imp fun h' hq => ⟨(false), rfl, hq⟩
 ·have hS := hF hb38; clear hT hF
  refine Run.go rfl rfl rfl (sem_ptrNilF p1 (.inl rfl) false rfl rfl TF.ptr_28 hb38 rfl ?_)
  refine Run.go rfl rfl rfl (sem_move ((Value.bool false)) rfl ?_)
  refine Run.go rfl rfl rfl (sem_move ((Value.int .i64 (i3))) rfl ?_)
  obtain ⟨hT, hF⟩ := hS
  by_cases hb39 : (i3 : Int) < (0)
  ·have hS := hT hb39; clear hT hF
   refine Run.go rfl rfl rfl (sem_binI .i64 (i3) (0) (.bool true) rfl rfl (binI_lss_t hb39) ?_)
   refine Run.go rfl rfl rfl (sem_pick false ((Value.bool true)) rfl rfl ?_)
   refine Run.go rfl rfl rfl (sem_move ((Value.bool true)) rfl ?_)
   refine Run.no rfl rfl rfl ?_
   refine Run.no rfl rfl rfl ?_
   refine Run.go rfl rfl rfl (sem_pick true ((Value.bool true)) rfl rfl ?_)
   refine Run.region_end ?_
   refine Run.condT rfl ?_
   refine Run.seq ?_
   refine Run.ops0 (idx := [0]) rfl ?_
   refine Run.go rfl rfl rfl (sem_assign ((Value.bool false)) rfl ?_)
   refine Run.region_end ?_
   refine Run.ret ⟨.inr rfl, ?_⟩
   exact hS.imp fun h' hq => ⟨(false), rfl, hq⟩
  ·have hS := hF hb39; clear hT hF
   refine Run.go rfl rfl rfl (sem_binI .i64 (i3) (0) (.bool false) rfl rfl (binI_lss_f hb39) ?_)
   refine Run.go rfl rfl rfl (sem_pick false ((Value.bool false)) rfl rfl ?_)
   refine Run.go rfl rfl rfl (sem_move ((Value.bool false)) rfl ?_)
   refine Run.go rfl rfl rfl (sem_move ((Value.int .i64 (i3))) rfl ?_)
   obtain ⟨hT, hF⟩ := hS
   by_cases hb40 : (i3 : Int) ≥ (6)
   ·have hS := hT hb40; clear hT hF
    refine Run.go rfl rfl rfl (sem_binI .i64 (i3) (6) (.bool true) rfl rfl (binI_geq_t hb40) ?_)
    refine Run.go rfl rfl rfl (sem_pick false ((Value.bool true)) rfl rfl ?_)
    refine Run.region_end ?_
    refine Run.condT rfl ?_
    refine Run.seq ?_
    refine Run.ops0 (idx := [0]) rfl ?_
    refine Run.go rfl rfl rfl (sem_assign ((Value.bool false)) rfl ?_)
    refine Run.region_end ?_
    refine Run.ret ⟨.inr rfl, ?_⟩
    exact hS.imp fun h' hq => ⟨(false), rfl, hq⟩
   ·have hS := hF hb40; clear hT hF
    refine Run.go rfl rfl rfl (sem_binI .i64 (i3) (6) (.bool false) rfl rfl (binI_geq_f hb40) ?_)
    refine Run.go rfl rfl rfl (sem_pick false ((Value.bool false)) rfl rfl ?_)
    refine Run.region_end ?_
    refine Run.condF rfl ?_
    refine Run.skip ?_
    exact Run.of_fin (hS.imp fun h' hS => j9 _ _ ⟨⟨rfl, rfl, rfl, rfl, trivial⟩, hS⟩)
set_option maxHeartbeats 4000000 in
theorem C_file_Make.of {B : RO} {b1 : Bool} {s2 : ByteArray} {h : Heap} {Q : Bool → ByteArray → Heap → Prop} (hS : S_file_Make B b1 s2 h Q) : C_file_Make B b1 s2 h Q := by
 unfold S_file_Make at hS
 unfold C_file_Make
 refine Spec.of_run Try.func68 (N := 6) (rs := [ResultVar.cell 2 41]) rfl rfl rfl (Nat.le_of_ble_eq_true rfl) ?_
 refine Run.seq ?_
 refine Run.ops0 (idx := [0, 1]) rfl ?_
 refine Run.go rfl rfl rfl (sem_boxNN [(Value.bool b1), (Value.string s2)] rfl (fun k5 hb1 hb2 h6 hb3 => ?_))
 have hS := hS k5 hb1 hb2 h6 hb3
 refine Run.go rfl rfl rfl (sem_allocN [(Value.bool false), (Value.string ByteArray.empty)] TF.zero_41 (fun k7 hb1 hb2 h8 hb3 => ?_))
 have hS := hS k7 hb1 hb2 h8 hb3
 refine Run.region_end ?_
 refine Run.seq ?_
 refine Run.ops0 (idx := [0, 1, 2, 3]) rfl ?_
 refine Run.go rfl rfl rfl (sem_fieldAddr ⟨k5, 0, none⟩ 1 rfl TF.fld_41_1 ?_)
 obtain ⟨s9, hl, hS⟩ := hS
 refine Run.go rfl rfl rfl (sem_load1 ⟨k5, 1, none⟩ ((Value.string s9)) rfl TF.agg_9 hl ?_)
 refine Run.go rfl rfl rfl (sem_buildSL [(0, (Value.bool true)), (1, (Value.string s9))] [(Value.bool true), (Value.string s9)] TF.zero_41 TF.places_41 rfl rfl ?_)
 obtain ⟨h10, hst, hS⟩ := hS
 refine Run.go rfl rfl rfl (sem_storeN ⟨k7, 0, none⟩ [(Value.bool true), (Value.string s9)] h10 rfl rfl TF.sz_41 hst ?_)
 refine Run.region_end ?_
 obtain ⟨b11, s12, hl0, hS⟩ := hS
 refine Run.ret ⟨.inr rfl, ?_⟩
 exact ⟨⟨k7, 0, none⟩, (Value.agg #[(Value.bool b11), (Value.string s12)]), rfl, loadHN TF.agg_41 TF.sz_41 hl0, hS.imp fun h' hq => ⟨(b11), s12, rfl, hq⟩⟩
set_option maxHeartbeats 4000000 in
theorem C_draft_Draft_file_File_Get.of {B : RO} {p1 : Option Addr} {i2 : Int} {h : Heap} {Q : Bool → ByteArray → Bool → Heap → Prop} (hS : S_draft_Draft_file_File_Get B p1 i2 h Q) : C_draft_Draft_file_File_Get B p1 i2 h Q := by
 unfold S_draft_Draft_file_File_Get at hS
 unfold C_draft_Draft_file_File_Get
 refine Spec.of_run Try.func69 (N := 29) (rs := [ResultVar.cell 4 41, ResultVar.tmp 5]) rfl rfl rfl (Nat.le_of_ble_eq_true rfl) ?_
 refine Run.seq ?_
 refine Run.ops0 (idx := [0, 1]) rfl ?_
 refine Run.go rfl rfl rfl (sem_allocN [(Value.bool false), (Value.string ByteArray.empty)] TF.zero_41 (fun k6 hb1 hb2 h7 hb3 => ?_))
 have hS := hS k6 hb1 hb2 h7 hb3
 refine Run.go rfl rfl rfl (sem_assign ((Value.bool false)) rfl ?_)
 refine Run.region_end ?_
 refine Run.seq ?_
 refine Run.ops0 (idx := [0]) rfl ?_
 refine Run.go rfl rfl rfl (sem_allocN [(Value.bool false), (Value.string ByteArray.empty)] TF.zero_41 (fun k8 hb1 hb2 h9 hb3 => ?_))
 have hS := hS k8 hb1 hb2 h9 hb3
 refine Run.region_end ?_
 refine Run.seq ?_
 refine Run.seq ?_
 refine Run.ops0 (idx := [0, 1]) rfl ?_
 refine Run.go rfl rfl rfl (sem_move ((Value.pointer p1)) rfl ?_)
 obtain ⟨hT, hF⟩ := hS
 by_cases hb10 : p1 = none
 ·have hS := hT hb10; clear hT hF
  refine Run.go rfl rfl rfl (sem_ptrNilT p1 (.inl rfl) true rfl rfl TF.ptr_95 hb10 rfl ?_)
  refine Run.region_end ?_
  refine Run.condT rfl ?_
  refine Run.seq ?_
  refine Run.ops0 (idx := [0, 1, 2]) rfl ?_
  obtain ⟨b11, s12, hl, hS⟩ := hS
  refine Run.go rfl rfl rfl (sem_loadN ⟨k8, 0, none⟩ [(Value.bool b11), (Value.string s12)] rfl TF.agg_41 TF.sz_41 hl ?_)
  obtain ⟨h13, hst, hS⟩ := hS
  refine Run.go rfl rfl rfl (sem_storeN ⟨k6, 0, none⟩ [(Value.bool b11), (Value.string s12)] h13 rfl rfl TF.sz_41 hst ?_)
  refine Run.go rfl rfl rfl (sem_assign ((Value.bool false)) rfl ?_)
  refine Run.region_end ?_
  obtain ⟨b14, s15, hl0, hS⟩ := hS
  refine Run.ret ⟨.inr rfl, ?_⟩
  exact ⟨⟨k6, 0, none⟩, (Value.agg #[(Value.bool b14), (Value.string s15)]), rfl, loadHN TF.agg_41 TF.sz_41 hl0, hS.imp fun h' hq => ⟨(b14), s15, (false), rfl, hq⟩⟩
 ·have hS := hF hb10; clear hT hF
  refine Run.go rfl rfl rfl (sem_ptrNilF p1 (.inl rfl) false rfl rfl TF.ptr_95 hb10 rfl ?_)
  refine Run.region_end ?_
  refine Run.condF rfl ?_
  refine Run.skip ?_
  refine Run.seq ?_
  refine Run.ops0 (idx := [0, 1, 2, 3, 4, 5, 6, 7]) rfl ?_
  refine Run.go rfl rfl rfl (sem_move ((Value.pointer p1)) rfl ?_)
  refine Run.go rfl rfl rfl (sem_move ((Value.int .i64 (i2))) rfl ?_)
  refine Run.go rfl rfl rfl (sem_callL [(Value.pointer p1), (Value.int .i64 (i2))] (TF.goes_105) rfl rfl (Spec.mono hS fun v h16 hv => ?_))
  obtain ⟨i17, b18, rfl, hS⟩ := hv
  refine Run.go rfl rfl rfl (sem_move ((Value.tuple #[(Value.int .i64 (i17)), (Value.bool b18)])) rfl ?_)
  refine Run.go rfl rfl rfl (sem_extract #[(Value.int .i64 (i17)), (Value.bool b18)] ((Value.int .i64 (i17))) rfl rfl ?_)
  obtain ⟨hT, hF⟩ := hS
  cases b18
  ·have hS := hF rfl; clear hT hF
   refine Run.go rfl rfl rfl (sem_extract #[(Value.int .i64 (i17)), (Value.bool false)] (.bool false) rfl rfl ?_)
   refine Run.go rfl rfl rfl (sem_assign ((Value.int .i64 (i17))) rfl ?_)
   refine Run.go rfl rfl rfl (sem_assign ((Value.bool false)) rfl ?_)
   refine Run.region_end ?_
   refine Run.seq ?_
   refine Run.seq ?_
   refine Run.ops0 (idx := [0, 1]) rfl ?_
   refine Run.go rfl rfl rfl (sem_move ((Value.bool false)) rfl ?_)
   refine Run.go rfl rfl rfl (sem_not false rfl ?_)
   refine Run.region_end ?_
   refine Run.condT rfl ?_
   refine Run.seq ?_
   refine Run.ops0 (idx := [0, 1, 2]) rfl ?_
   obtain ⟨b19, s20, hl, hS⟩ := hS
   refine Run.go rfl rfl rfl (sem_loadN ⟨k8, 0, none⟩ [(Value.bool b19), (Value.string s20)] rfl TF.agg_41 TF.sz_41 hl ?_)
   obtain ⟨h21, hst, hS⟩ := hS
   refine Run.go rfl rfl rfl (sem_storeN ⟨k6, 0, none⟩ [(Value.bool b19), (Value.string s20)] h21 rfl rfl TF.sz_41 hst ?_)
   refine Run.go rfl rfl rfl (sem_assign ((Value.bool false)) rfl ?_)
   refine Run.region_end ?_
   obtain ⟨b22, s23, hl0, hS⟩ := hS
   refine Run.ret ⟨.inr rfl, ?_⟩
   exact ⟨⟨k6, 0, none⟩, (Value.agg #[(Value.bool b22), (Value.string s23)]), rfl, loadHN TF.agg_41 TF.sz_41 hl0, hS.imp fun h' hq => ⟨(b22), s23, (false), rfl, hq⟩⟩
  ·have hS := hT rfl; clear hT hF
   refine Run.go rfl rfl rfl (sem_extract #[(Value.int .i64 (i17)), (Value.bool true)] (.bool true) rfl rfl ?_)
   refine Run.go rfl rfl rfl (sem_assign ((Value.int .i64 (i17))) rfl ?_)
   refine Run.go rfl rfl rfl (sem_assign ((Value.bool true)) rfl ?_)
   refine Run.region_end ?_
   refine Run.seq ?_
   refine Run.seq ?_
   refine Run.ops0 (idx := [0, 1]) rfl ?_
   refine Run.go rfl rfl rfl (sem_move ((Value.bool true)) rfl ?_)
   refine Run.go rfl rfl rfl (sem_not true rfl ?_)
   refine Run.region_end ?_
   refine Run.condF rfl ?_
   refine Run.skip ?_
   refine Run.seq ?_
   refine Run.ops0 (idx := [0, 1, 2, 3, 4, 5, 6, 7, 8, 9]) rfl ?_
   refine Run.go rfl rfl rfl (sem_move ((Value.pointer p1)) rfl ?_)
   obtain ⟨A24, e25, hS⟩ := hS
   refine Run.go rfl rfl rfl (sem_nilCheck A24 (congrArg Value.pointer e25) ?_)
   refine Run.go rfl rfl rfl (sem_fieldAddr A24 0 rfl TF.fld_160_0 ?_)
   refine Run.ldSl hS fun a26 n27 c28 h29 hl hS => ?_
   refine Run.go rfl rfl rfl (sem_load1 A24 ((Value.slice a26 n27 c28)) rfl TF.agg_158 hl ?_)
   refine Run.go rfl rfl rfl (sem_move ((Value.int .i64 (i17))) rfl ?_)
   obtain ⟨A30, e31, hi0, hi1, hS⟩ := hS
   refine Run.go rfl rfl rfl (sem_indexAddrS A30 n27 c28 .i64 (i17) (congrArg (fun a => Value.slice a n27 c28) e31) rfl TF.slc_158 hi0 hi1 ?_)
   refine Run.go rfl rfl rfl (sem_fieldAddr (Addr.add A30 (Int.toNat (i17) * 3)) 1 rfl TF.fld_162_1 ?_)
   obtain ⟨b32, s33, hl, hS⟩ := hS
   refine Run.go rfl rfl rfl (sem_loadN (Addr.add (Addr.add A30 (Int.toNat (i17) * 3)) 1) [(Value.bool b32), (Value.string s33)] rfl TF.agg_41 TF.sz_41 hl ?_)
   obtain ⟨h34, hst, hS⟩ := hS
   refine Run.go rfl rfl rfl (sem_storeN ⟨k6, 0, none⟩ [(Value.bool b32), (Value.string s33)] h34 rfl rfl TF.sz_41 hst ?_)
   refine Run.go rfl rfl rfl (sem_assign ((Value.bool true)) rfl ?_)
   refine Run.region_end ?_
   obtain ⟨b35, s36, hl0, hS⟩ := hS
   refine Run.ret ⟨.inr rfl, ?_⟩
   exact ⟨⟨k6, 0, none⟩, (Value.agg #[(Value.bool b35), (Value.string s36)]), rfl, loadHN TF.agg_41 TF.sz_41 hl0, hS.imp fun h' hq => ⟨(b35), s36, (true), rfl, hq⟩⟩
set_option maxHeartbeats 4000000 in
theorem C_stylus_Stylus_Nat.of {B : RO} {p1 : Option Addr} {a2 : Option Addr} {n3 : Nat} {c4 : Nat} {h : Heap} {Q : Heap → Prop} (hS : S_stylus_Stylus_Nat B p1 a2 n3 c4 h Q) : C_stylus_Stylus_Nat B p1 a2 n3 c4 h Q := by
 unfold S_stylus_Stylus_Nat at hS
 unfold C_stylus_Stylus_Nat
 refine Spec.of_run Try.func72 (N := 42) (rs := []) rfl rfl rfl (Nat.le_of_ble_eq_true rfl) ?_
 refine Run.seq ?_
 refine Run.ops0 (idx := [0, 1, 2]) rfl ?_
 refine Run.go rfl rfl rfl (sem_move ((Value.slice a2 n3 c4)) rfl ?_)
 refine Run.go rfl rfl rfl (sem_lenSl a2 n3 c4 rfl TF.sl_184 ?_)
 refine Run.go rfl rfl rfl (sem_move ((Value.int .i64 (0))) rfl ?_)
 refine Run.region_end ?_
 refine Run.block ?_
 obtain ⟨J10, m8, h0, hS⟩ := hS
 refine Run.of_fin (h0.imp fun h' h0 => ?_)
 refine Run.loop (σ := Int × Nat) (fun x e h => J10 x.1 x.2 h ∧ Agree [(0, (Value.pointer p1)), (6, (Value.slice a2 n3 c4)), (7, (Value.int .i64 ((n3 : Nat)))), (8, (Value.int .i64 (x.1)))] e) (fun x => x.2) ((0), m8) ⟨h0, ⟨rfl, rfl, rfl, rfl, trivial⟩⟩ ?_; clear h0
 rintro ⟨i5, m7⟩ e h6 ⟨hJ, hag⟩ ih9
 have hS := hS i5 m7 h6 hJ; clear hJ
 refine Run.env hag ?_; clear hag
 refine Run.seq ?_
 refine Run.ops0 (idx := [0]) rfl ?_
 obtain ⟨hT, hF⟩ := hS
 by_cases hb11 : (i5 : Int) < ((n3 : Nat))
 ·have hS := hT hb11; clear hT hF
  refine Run.go rfl rfl rfl (sem_binI .i64 (i5) ((n3 : Nat)) (.bool true) rfl rfl (binI_lss_t hb11) ?_)
  refine Run.region_end ?_
  refine Run.seq ?_
  refine Run.condT rfl ?_
  refine Run.skip ?_
  refine Run.seq ?_
  refine Run.block ?_
  refine Run.seq ?_
  refine Run.ops0 (idx := [0, 1, 2]) rfl ?_
  obtain ⟨A12, e13, hi0, hi1, hS⟩ := hS
  refine Run.go rfl rfl rfl (sem_indexAddrS A12 n3 c4 .i64 (i5) (congrArg (fun a => Value.slice a n3 c4) e13) rfl TF.slc_184 hi0 hi1 ?_)
  obtain ⟨i14, hl, hS⟩ := hS
  refine Run.go rfl rfl rfl (sem_load1 (Addr.add A12 (Int.toNat (i5) * 1)) ((Value.int .i64 (i14))) rfl TF.agg_3 hl ?_)
  refine Run.go rfl rfl rfl (sem_assign ((Value.int .i64 (i14))) rfl ?_)
  refine Run.region_end ?_
  refine Run.seq ?_
  refine Run.seq ?_
  refine Run.ops0 (idx := [0, 1]) rfl ?_
  refine Run.go rfl rfl rfl (sem_move ((Value.int .i64 (i14))) rfl ?_)
  obtain ⟨hT, hF⟩ := hS
  by_cases hb15 : (i14 : Int) < (0)
  ·have hS := hT hb15; clear hT hF
   refine Run.go rfl rfl rfl (sem_binI .i64 (i14) (0) (.bool true) rfl rfl (binI_lss_t hb15) ?_)
   refine Run.region_end ?_
   refine Run.condT rfl ?_
   refine Run.exit rfl ?_
   refine Run.ops0 (idx := [0, 1]) rfl ?_
   refine Run.go rfl rfl rfl (sem_binI .i64 (i5) (1) ((Value.int .i64 (IntKind.wrap .i64 ((i5) + (1))))) rfl rfl rfl ?_)
   refine Run.go rfl rfl rfl (sem_move ((Value.int .i64 (IntKind.wrap .i64 ((i5) + (1))))) rfl ?_)
   refine Run.region_end ?_
   exact Run.of_fin (hS.imp fun h' ⟨m', hm, hS⟩ => ih9 ((IntKind.wrap .i64 ((i5) + (1))), m') _ _ ⟨hS, ⟨rfl, rfl, rfl, rfl, trivial⟩⟩ hm)
  ·have hS := hF hb15; clear hT hF
   refine Run.go rfl rfl rfl (sem_binI .i64 (i14) (0) (.bool false) rfl rfl (binI_lss_f hb15) ?_)
   refine Run.region_end ?_
   refine Run.condF rfl ?_
   refine Run.skip ?_
   refine Run.seqJ (fun e h18 => ∃ i17 : Int, Agree [(0, (Value.pointer p1)), (5, (Value.int .i64 (i17))), (6, (Value.slice a2 n3 c4)), (7, (Value.int .i64 ((n3 : Nat)))), (8, (Value.int .i64 (i5)))] e ∧ S_stylus_Stylus_Nat_J1 B p1 a2 n3 c4 i5 m7 J10 i17 h18 Q) ?_ fun j16 => ?_
   ·rintro e h18 ⟨i17, hag, hS⟩
    refine Run.env hag ?_; clear hag
    refine Run.ops0 (idx := [0, 1, 2, 3, 4, 5, 6, 7, 8, 9, 10, 11]) rfl ?_
    refine Run.go rfl rfl rfl (sem_move ((Value.pointer p1)) rfl ?_)
    refine Run.go rfl rfl rfl (sem_move ((Value.pointer p1)) rfl ?_)
    obtain ⟨A19, e20, hS⟩ := hS
    refine Run.go rfl rfl rfl (sem_nilCheck A19 (congrArg Value.pointer e20) ?_)
    refine Run.go rfl rfl rfl (sem_fieldAddr A19 0 rfl TF.fld_146_0 ?_)
    refine Run.ldSl hS fun a21 n22 c23 h24 hl hS => ?_
    refine Run.go rfl rfl rfl (sem_load1 A19 ((Value.slice a21 n22 c23)) rfl TF.agg_144 hl ?_)
    refine Run.go rfl rfl rfl (sem_move ((Value.int .i64 (i17))) rfl ?_)
    refine Run.go rfl rfl rfl (sem_convI .i64 .u8 (i17) rfl TF.int_3 TF.int_5 ?_)
    refine Run.go rfl rfl rfl (sem_buildSliceL [(0, (Value.int .u8 (IntKind.wrap .u8 (i17))))] [(Value.int .u8 (IntKind.wrap .u8 (i17)))] TF.slc_144 TF.zero_5 rfl (by decide) (by decide) rfl rfl (fun k25 hb1 hb2 h26 hb3 => ?_))
    have hS := hS k25 hb1 hb2 h26 hb3
    refine Run.go rfl rfl rfl (sem_appendL [(Value.slice a21 n22 c23), (Value.slice (some ⟨k25, 0, none⟩) 1 1)] rfl (semH_mono (fun v h27 hv => ?_) hS))
    obtain ⟨a28, n29, c30, rfl, hS⟩ := hv
    obtain ⟨A31, e32, hS⟩ := hS
    refine Run.go rfl rfl rfl (sem_nilCheck A31 (congrArg Value.pointer e32) ?_)
    refine Run.go rfl rfl rfl (sem_fieldAddr A31 0 rfl TF.fld_146_0 ?_)
    obtain ⟨h33, hst, hS⟩ := hS
    refine Run.go rfl rfl rfl (sem_store1 A31 ((Value.slice a28 n29 c30)) h33 rfl rfl rfl TF.sz_144 hst ?_)
    refine Run.region_end ?_
    refine Run.inBlock ?_
    refine Run.ops0 (idx := [0, 1]) rfl ?_
    refine Run.go rfl rfl rfl (sem_binI .i64 (i5) (1) ((Value.int .i64 (IntKind.wrap .i64 ((i5) + (1))))) rfl rfl rfl ?_)
    refine Run.go rfl rfl rfl (sem_move ((Value.int .i64 (IntKind.wrap .i64 ((i5) + (1))))) rfl ?_)
    refine Run.region_end ?_
    exact Run.of_fin (hS.imp fun h' ⟨m', hm, hS⟩ => ih9 ((IntKind.wrap .i64 ((i5) + (1))), m') _ _ ⟨hS, ⟨rfl, rfl, rfl, rfl, trivial⟩⟩ hm)
   refine Run.block ?_
   obtain ⟨J39, m37, h0, hS⟩ := hS
   refine Run.of_fin (h0.imp fun h' h0 => ?_)
   refine Run.loop (σ := Int × Nat) (fun x e h => J39 x.1 x.2 h ∧ Agree [(0, (Value.pointer p1)), (5, (Value.int .i64 (x.1))), (6, (Value.slice a2 n3 c4)), (7, (Value.int .i64 ((n3 : Nat)))), (8, (Value.int .i64 (i5)))] e) (fun x => x.2) ((i14), m37) ⟨h0, ⟨rfl, rfl, rfl, rfl, rfl, trivial⟩⟩ ?_; clear h0
   rintro ⟨i34, m36⟩ e h35 ⟨hJ, hag⟩ ih38
   have hS := hS i34 m36 h35 hJ; clear hJ
   refine Run.env hag ?_; clear hag
   refine Run.seq ?_
   refine Run.seq ?_
   refine Run.ops0 (idx := [0, 1]) rfl ?_
   refine Run.go rfl rfl rfl (sem_move ((Value.int .i64 (i34))) rfl ?_)
   obtain ⟨hT, hF⟩ := hS
   by_cases hb40 : (i34 : Int) ≥ (128)
   ·have hS := hT hb40; clear hT hF
    refine Run.go rfl rfl rfl (sem_binI .i64 (i34) (128) (.bool true) rfl rfl (binI_geq_t hb40) ?_)
    refine Run.region_end ?_
    refine Run.condT rfl ?_
    refine Run.skip ?_
    refine Run.block ?_
    refine Run.seq ?_
    refine Run.ops0 (idx := [0, 1, 2, 3, 4, 5, 6, 7, 8, 9, 10, 11, 12]) rfl ?_
    refine Run.go rfl rfl rfl (sem_move ((Value.pointer p1)) rfl ?_)
    refine Run.go rfl rfl rfl (sem_move ((Value.pointer p1)) rfl ?_)
    obtain ⟨A41, e42, hS⟩ := hS
    refine Run.go rfl rfl rfl (sem_nilCheck A41 (congrArg Value.pointer e42) ?_)
    refine Run.go rfl rfl rfl (sem_fieldAddr A41 0 rfl TF.fld_146_0 ?_)
    refine Run.ldSl hS fun a43 n44 c45 h46 hl hS => ?_
    refine Run.go rfl rfl rfl (sem_load1 A41 ((Value.slice a43 n44 c45)) rfl TF.agg_144 hl ?_)
    refine Run.go rfl rfl rfl (sem_move ((Value.int .i64 (i34))) rfl ?_)
    refine Run.go rfl rfl rfl (sem_convI .i64 .u8 (i34) rfl TF.int_3 TF.int_5 ?_)
    refine Run.go rfl rfl rfl (sem_binI .u8 (IntKind.wrap .u8 (i34)) (128) ((Value.int .u8 (IntKind.wrap .u8 ((BitVec.ofInt (IntKind.bits .u8) (IntKind.wrap .u8 (i34)) ||| BitVec.ofInt (IntKind.bits .u8) (128)).toNat : Int)))) rfl rfl rfl ?_)
    refine Run.go rfl rfl rfl (sem_buildSliceL [(0, (Value.int .u8 (IntKind.wrap .u8 ((BitVec.ofInt (IntKind.bits .u8) (IntKind.wrap .u8 (i34)) ||| BitVec.ofInt (IntKind.bits .u8) (128)).toNat : Int))))] [(Value.int .u8 (IntKind.wrap .u8 ((BitVec.ofInt (IntKind.bits .u8) (IntKind.wrap .u8 (i34)) ||| BitVec.ofInt (IntKind.bits .u8) (128)).toNat : Int)))] TF.slc_144 TF.zero_5 rfl (by decide) (by decide) rfl rfl (fun k47 hb1 hb2 h48 hb3 => ?_))
    have hS := hS k47 hb1 hb2 h48 hb3
    refine Run.go rfl rfl rfl (sem_appendL [(Value.slice a43 n44 c45), (Value.slice (some ⟨k47, 0, none⟩) 1 1)] rfl (semH_mono (fun v h49 hv => ?_) hS))
    obtain ⟨a50, n51, c52, rfl, hS⟩ := hv
    obtain ⟨A53, e54, hS⟩ := hS
    refine Run.go rfl rfl rfl (sem_nilCheck A53 (congrArg Value.pointer e54) ?_)
    refine Run.go rfl rfl rfl (sem_fieldAddr A53 0 rfl TF.fld_146_0 ?_)
    obtain ⟨h55, hst, hS⟩ := hS
    refine Run.go rfl rfl rfl (sem_store1 A53 ((Value.slice a50 n51 c52)) h55 rfl rfl rfl TF.sz_144 hst ?_)
    refine Run.region_end ?_
    refine Run.ops0 (idx := [0, 1, 2]) rfl ?_
    refine Run.go rfl rfl rfl (sem_move ((Value.int .i64 (i34))) rfl ?_)
    obtain ⟨hi0, hS⟩ := hS
    refine Run.go rfl rfl rfl (sem_shr .i64 .u64 (i34) (7) rfl rfl hi0 ?_)
    refine Run.go rfl rfl rfl (sem_assign ((Value.int .i64 (Int.fdiv (i34) (2 ^ (min (Int.toNat (7)) (IntKind.bits .i64)))))) rfl ?_)
    refine Run.region_end ?_
    refine Run.inBlock ?_
    exact Run.of_fin (hS.imp fun h' ⟨m', hm, hS⟩ => ih38 ((Int.fdiv (i34) (2 ^ (min (Int.toNat (7)) (IntKind.bits .i64)))), m') _ _ ⟨hS, ⟨rfl, rfl, rfl, rfl, rfl, trivial⟩⟩ hm)
   ·have hS := hF hb40; clear hT hF
    refine Run.go rfl rfl rfl (sem_binI .i64 (i34) (128) (.bool false) rfl rfl (binI_geq_f hb40) ?_)
    refine Run.region_end ?_
    refine Run.condF rfl ?_
    refine Run.exit rfl ?_
    exact Run.of_fin (hS.imp fun h' hS => j16 _ _ ⟨(i34), ⟨rfl, rfl, rfl, rfl, rfl, trivial⟩, hS⟩)
 ·have hS := hF hb11; clear hT hF
  refine Run.go rfl rfl rfl (sem_binI .i64 (i5) ((n3 : Nat)) (.bool false) rfl rfl (binI_lss_f hb11) ?_)
  refine Run.region_end ?_
  refine Run.seq ?_
  refine Run.condF rfl ?_
  refine Run.exit rfl ?_
  refine Run.fall ⟨.inl rfl, ?_⟩
  exact hS.imp fun h' hq => ⟨rfl, hq⟩
set_option maxHeartbeats 4000000 in
theorem C_stylus_Stylus_Raw.of {B : RO} {p1 : Option Addr} {s2 : ByteArray} {h : Heap} {Q : Heap → Prop} (hS : S_stylus_Stylus_Raw B p1 s2 h Q) : C_stylus_Stylus_Raw B p1 s2 h Q := by
 unfold S_stylus_Stylus_Raw at hS
 unfold C_stylus_Stylus_Raw
 refine Spec.of_run Try.func73 (N := 13) (rs := []) rfl rfl rfl (Nat.le_of_ble_eq_true rfl) ?_
 refine Run.ops0 (idx := [0, 1, 2, 3, 4, 5, 6, 7, 8, 9]) rfl ?_
 refine Run.go rfl rfl rfl (sem_move ((Value.pointer p1)) rfl ?_)
 refine Run.go rfl rfl rfl (sem_move ((Value.pointer p1)) rfl ?_)
 obtain ⟨A3, e4, hS⟩ := hS
 refine Run.go rfl rfl rfl (sem_nilCheck A3 (congrArg Value.pointer e4) ?_)
 refine Run.go rfl rfl rfl (sem_fieldAddr A3 0 rfl TF.fld_146_0 ?_)
 refine Run.ldSl hS fun a5 n6 c7 h8 hl hS => ?_
 refine Run.go rfl rfl rfl (sem_load1 A3 ((Value.slice a5 n6 c7)) rfl TF.agg_144 hl ?_)
 refine Run.go rfl rfl rfl (sem_move ((Value.string s2)) rfl ?_)
 refine Run.go rfl rfl rfl (sem_appendL [(Value.slice a5 n6 c7), (Value.string s2)] rfl (semH_mono (fun v h9 hv => ?_) hS))
 obtain ⟨a10, n11, c12, rfl, hS⟩ := hv
 obtain ⟨A13, e14, hS⟩ := hS
 refine Run.go rfl rfl rfl (sem_nilCheck A13 (congrArg Value.pointer e14) ?_)
 refine Run.go rfl rfl rfl (sem_fieldAddr A13 0 rfl TF.fld_146_0 ?_)
 obtain ⟨h15, hst, hS⟩ := hS
 refine Run.go rfl rfl rfl (sem_store1 A13 ((Value.slice a10 n11 c12)) h15 rfl rfl rfl TF.sz_144 hst ?_)
 refine Run.region_end ?_
 refine Run.fall ⟨.inl rfl, ?_⟩
 exact hS.imp fun h' hq => ⟨rfl, hq⟩
set_option maxHeartbeats 4000000 in
theorem C_stylus_Stylus_Bytes.of {B : RO} {p1 : Option Addr} {h : Heap} {Q : ByteArray → Heap → Prop} (hS : S_stylus_Stylus_Bytes B p1 h Q) : C_stylus_Stylus_Bytes B p1 h Q := by
 unfold S_stylus_Stylus_Bytes at hS
 unfold C_stylus_Stylus_Bytes
 refine Spec.of_run Try.func74 (N := 8) (rs := [ResultVar.tmp 2]) rfl rfl rfl (Nat.le_of_ble_eq_true rfl) ?_
 refine Run.seq ?_
 refine Run.ops0 (idx := [0]) rfl ?_
 refine Run.go rfl rfl rfl (sem_assign ((Value.string (ByteArray.mk #[]))) rfl ?_)
 refine Run.region_end ?_
 refine Run.seq ?_
 refine Run.ops0 (idx := [0, 1, 2, 3, 4, 5]) rfl ?_
 refine Run.go rfl rfl rfl (sem_move ((Value.pointer p1)) rfl ?_)
 obtain ⟨A3, e4, hS⟩ := hS
 refine Run.go rfl rfl rfl (sem_nilCheck A3 (congrArg Value.pointer e4) ?_)
 refine Run.go rfl rfl rfl (sem_fieldAddr A3 0 rfl TF.fld_146_0 ?_)
 refine Run.ldSl hS fun a5 n6 c7 h8 hl hS => ?_
 refine Run.go rfl rfl rfl (sem_load1 A3 ((Value.slice a5 n6 c7)) rfl TF.agg_144 hl ?_)
 refine Run.go rfl rfl rfl (sem_convW ((Value.slice a5 n6 c7)) rfl (semH_mono (fun v h10 hv => ?_) hS))
 obtain ⟨s9, rfl, hS⟩ := hv
 refine Run.go rfl rfl rfl (sem_assign ((Value.string s9)) rfl ?_)
 refine Run.region_end ?_
 refine Run.ret ⟨.inr rfl, ?_⟩
 exact hS.imp fun h' hq => ⟨s9, rfl, hq⟩
set_option maxHeartbeats 4000000 in
theorem C_tome_Tome_Set.of {B : RO} {p1 : Option Addr} {i2 : Int} {b3 : Bool} {s4 : ByteArray} {i5 : Int} {h : Heap} {Q : Bool → Heap → Prop} (hS : S_tome_Tome_Set B p1 i2 b3 s4 i5 h Q) : C_tome_Tome_Set B p1 i2 b3 s4 i5 h Q := by
 unfold S_tome_Tome_Set at hS
 unfold C_tome_Tome_Set
 refine Spec.of_run Try.func85 (N := 25) (rs := [ResultVar.tmp 8]) rfl rfl rfl (Nat.le_of_ble_eq_true rfl) ?_
 refine Run.seq ?_
 refine Run.ops0 (idx := [0, 1]) rfl ?_
 refine Run.go rfl rfl rfl (sem_boxNN [(Value.bool b3), (Value.string s4)] rfl (fun k7 hb1 hb2 h8 hb3 => ?_))
 have hS := hS k7 hb1 hb2 h8 hb3
 refine Run.go rfl rfl rfl (sem_assign ((Value.bool false)) rfl ?_)
 refine Run.region_end ?_
 refine Run.seq ?_
 skip
 obtain ⟨hT, hF⟩ := hS
 by_cases hb10 : p1 = none
 ·have hS := hT hb10; clear hT hF
  skip
  skip
  refine Run.drawM (fun h' => True) [] ⟨[0, 1, 2, 4, 12, 20, 48, 64, 192, 320, 576, 64, 64, 64, 15424, 16448, 65535], [131071, 131070, 131069, 131067, 131059, 131051, 131039, 131007, 130879, 130751, 130495, 131007, 131007, 131007, 115647, 114623, 98303], [0, 0, 0, 0, 0, 0, 0, 0, 0, 0, 0, 0, 0, 0, 0, 0, 0], 0⟩ (.q 0 (.q 1 (.q 2 (.q 3 (.x 4 (.q 5 (.q 6 (.q 7 (.q 8 (.q 9 (.q 11 (.q 13 (.x 10 (.x 12 (.x 14 (.q 15 (.q 16 .nil)) .no) .no) (.x 12 (.x 10 (.x 14 (.q 15 (.q 16 .nil)) .no) .no) .no))))))))) .no))))) TF.mixed (by kernel_rfl) trivial ?_
  refine RunT.quiet rfl rfl rfl (fun h' hC => sem_move ((Value.pointer p1)) rfl ⟨rfl, rfl⟩) ?_
  refine RunT.quiet rfl rfl rfl (fun h' hC => sem_ptrNilT p1 (.inr rfl) false rfl rfl TF.ptr_25 hb10 rfl ⟨rfl, rfl⟩) ?_
  refine RunT.quiet rfl rfl rfl (fun h' hC => sem_move ((Value.bool false)) rfl ⟨rfl, rfl⟩) ?_
  refine RunT.skip rfl rfl rfl ?_
  refine ⟨?_, trivial⟩
  refine OpH.no rfl rfl rfl ⟨fun _ => trivial, ?_⟩
  refine RunT.quiet rfl rfl rfl (fun h' hC => sem_pick false ((Value.bool false)) rfl rfl ⟨rfl, rfl⟩) ?_
  refine RunT.quiet rfl rfl rfl (fun h' hC => sem_move ((Value.bool false)) rfl ⟨rfl, rfl⟩) ?_
  refine RunT.skip rfl rfl rfl ?_
  refine RunT.skip rfl rfl rfl ?_
  refine RunT.skip rfl rfl rfl ?_
  refine RunT.skip rfl rfl rfl ?_
  refine RunT.skip rfl rfl rfl ?_
  refine RunT.joinJ (t := (.x 14 (.q 15 (.q 16 .nil)) .no)) (fun e h14 => Agree [(8, (Value.bool false)), (15, (Value.bool false))] e ∧ S_tome_Tome_Set_J1 B h14 Q) ?_ fun j13 => ?_
  ·rintro e h14 ⟨hag, hS⟩
   refine RunT.env hag ?_; clear hag
   refine ⟨?_, trivial⟩
   refine OpH.no rfl rfl rfl ⟨fun _ => trivial, ?_⟩
   refine RunT.quiet rfl rfl rfl (fun h' hC => sem_pick false ((Value.bool false)) rfl rfl ⟨rfl, rfl⟩) ?_
   refine RunT.quiet rfl rfl rfl (fun h' hC => sem_assign ((Value.bool false)) rfl ⟨rfl, rfl⟩) ?_
   refine Run.ret ⟨.inr rfl, ?_⟩
   exact hS.imp fun h' hq => ⟨(false), rfl, hq⟩
  refine ⟨?_, ?_, trivial⟩
  ·have hS := hS.1
   refine OpH.no rfl rfl rfl ⟨fun _ => trivial, ?_⟩
   refine ⟨?_, trivial⟩
   refine OpH.no rfl rfl rfl ⟨fun _ => trivial, ?_⟩
   exact j13 _ _ ⟨⟨rfl, rfl, trivial⟩, hS⟩
  ·have hS := hS.2
   refine OpH.no rfl rfl rfl ⟨fun _ => trivial, ?_⟩
   refine ⟨?_, trivial⟩
   refine OpH.no rfl rfl rfl ⟨fun _ => trivial, ?_⟩
   exact j13 _ _ ⟨⟨rfl, rfl, trivial⟩, hS⟩
 ·have hS := hF hb10; clear hT hF
  skip
  skip
  obtain ⟨b17, s18, hl, hS⟩ := hS
  have f19 := hl
  refine Run.drawM (fun h' => CellsAt B h' ⟨k7, 0, none⟩ 0 [(Value.bool b17), (Value.string s18)] ∧ True) [] ⟨[0, 1, 2, 4, 12, 20, 48, 64, 192, 320, 576, 64, 64, 64, 15424, 16448, 65535], [131071, 131070, 131069, 131067, 131059, 131051, 131039, 131007, 130879, 130751, 130495, 131007, 131007, 131007, 115647, 114623, 98303], [0, 0, 0, 0, 0, 0, 0, 0, 0, 0, 0, 0, 0, 0, 0, 0, 0], 0⟩ (.q 0 (.q 1 (.q 2 (.q 3 (.x 4 (.q 5 (.q 6 (.q 7 (.q 8 (.q 9 (.q 11 (.q 13 (.x 10 (.x 12 (.x 14 (.q 15 (.q 16 .nil)) .no) .no) (.x 12 (.x 10 (.x 14 (.q 15 (.q 16 .nil)) .no) .no) .no))))))))) .no))))) TF.mixed (by kernel_rfl) ⟨f19, trivial⟩ ?_
  refine RunT.quiet rfl rfl rfl (fun h' hC => sem_move ((Value.pointer p1)) rfl ⟨rfl, rfl⟩) ?_
  refine RunT.quiet rfl rfl rfl (fun h' hC => sem_ptrNilF p1 (.inr rfl) true rfl rfl TF.ptr_25 hb10 rfl ⟨rfl, rfl⟩) ?_
  refine RunT.quiet rfl rfl rfl (fun h' hC => sem_move ((Value.bool true)) rfl ⟨rfl, rfl⟩) ?_
  refine RunT.quiet rfl rfl rfl (fun h' hC => sem_loadN ⟨k7, 0, none⟩ [(Value.bool b17), (Value.string s18)] rfl TF.agg_41 TF.sz_41 hC.1 ⟨rfl, rfl⟩) ?_
  refine ⟨?_, trivial⟩
  refine OpH.go rfl rfl rfl (sem_callL [(Value.agg #[(Value.bool b17), (Value.string s18)])] (TF.goes_114) rfl rfl (Spec.mono hS fun v h20 hv => ?_))
  obtain ⟨b21, rfl, hS⟩ := hv
  obtain ⟨hT, hF⟩ := hS
  cases b21
  ·have hS := hF rfl; clear hT hF
   obtain ⟨g22, hS⟩ := hS
   refine ⟨fun _ => ⟨g22, trivial⟩, ?_⟩
   refine RunT.quiet rfl rfl rfl (fun h' hC => sem_pick true ((Value.bool false)) rfl rfl ⟨rfl, rfl⟩) ?_
   refine RunT.quiet rfl rfl rfl (fun h' hC => sem_move ((Value.bool false)) rfl ⟨rfl, rfl⟩) ?_
   refine RunT.skip rfl rfl rfl ?_
   refine RunT.skip rfl rfl rfl ?_
   refine RunT.skip rfl rfl rfl ?_
   refine RunT.skip rfl rfl rfl ?_
   refine RunT.skip rfl rfl rfl ?_
   refine RunT.joinJ (t := (.x 14 (.q 15 (.q 16 .nil)) .no)) (fun e h24 => Agree [(8, (Value.bool false)), (15, (Value.bool false))] e ∧ CellsAt B h24 ⟨k7, 0, none⟩ 0 [(Value.bool b17), (Value.string s18)] ∧ S_tome_Tome_Set_J2 B k7 b17 s18 h24 Q) ?_ fun j23 => ?_
   ·rintro e h24 ⟨hag, g25, hS⟩
    refine RunT.env hag ?_; clear hag
    refine ⟨?_, trivial⟩
    refine OpH.no rfl rfl rfl ⟨fun _ => ⟨g25, trivial⟩, ?_⟩
    refine RunT.quiet rfl rfl rfl (fun h' hC => sem_pick false ((Value.bool false)) rfl rfl ⟨rfl, rfl⟩) ?_
    refine RunT.quiet rfl rfl rfl (fun h' hC => sem_assign ((Value.bool false)) rfl ⟨rfl, rfl⟩) ?_
    refine Run.ret ⟨.inr rfl, ?_⟩
    exact hS.imp fun h' hq => ⟨(false), rfl, hq⟩
   refine ⟨?_, ?_, trivial⟩
   ·have hS := hS.1
    refine OpH.no rfl rfl rfl ⟨fun _ => ⟨g22, trivial⟩, ?_⟩
    refine ⟨?_, trivial⟩
    refine OpH.no rfl rfl rfl ⟨fun _ => ⟨g22, trivial⟩, ?_⟩
    exact j23 _ _ ⟨⟨rfl, rfl, trivial⟩, g22, hS⟩
   ·have hS := hS.2
    refine OpH.no rfl rfl rfl ⟨fun _ => ⟨g22, trivial⟩, ?_⟩
    refine ⟨?_, trivial⟩
    refine OpH.no rfl rfl rfl ⟨fun _ => ⟨g22, trivial⟩, ?_⟩
    exact j23 _ _ ⟨⟨rfl, rfl, trivial⟩, g22, hS⟩
  ·have hS := hT rfl; clear hT hF
   obtain ⟨g26, hS⟩ := hS
   refine ⟨fun _ => ⟨g26, trivial⟩, ?_⟩
   refine RunT.quiet rfl rfl rfl (fun h' hC => sem_pick true ((Value.bool true)) rfl rfl ⟨rfl, rfl⟩) ?_
   refine RunT.quiet rfl rfl rfl (fun h' hC => sem_move ((Value.bool true)) rfl ⟨rfl, rfl⟩) ?_
   refine RunT.quiet rfl rfl rfl (fun h' hC => sem_move ((Value.pointer p1)) rfl ⟨rfl, rfl⟩) ?_
   obtain ⟨A27, e28, hS⟩ := hS
   refine RunT.quiet rfl rfl rfl (fun h' hC => sem_nilCheck A27 (congrArg Value.pointer e28) ⟨rfl, rfl⟩) ?_
   refine RunT.quiet rfl rfl rfl (fun h' hC => sem_fieldAddr A27 0 rfl TF.fld_113_0 ⟨rfl, rfl⟩) ?_
   refine RunT.quiet rfl rfl rfl (fun h' hC => sem_move ((Value.int .i64 (i2))) rfl ⟨rfl, rfl⟩) ?_
   refine RunT.quiet rfl rfl rfl (fun h' hC => sem_move ((Value.int .i64 (i5))) rfl ⟨rfl, rfl⟩) ?_
   refine RunT.joinJ (t := (.x 14 (.q 15 (.q 16 .nil)) .no)) (fun e h39 => ∃ p36 : Option Addr, ∃ b37 : Bool, ∃ s38 : ByteArray, Agree [(8, (Value.bool false)), (15, (Value.bool true)), (19, (Value.pointer p36)), (20, (Value.int .i64 (i2))), (21, (Value.agg #[(Value.bool b37), (Value.string s38)])), (22, (Value.int .i64 (i5)))] e ∧ CellsAt B h39 ⟨k7, 0, none⟩ 0 [(Value.bool b17), (Value.string s18)] ∧ S_tome_Tome_Set_J3 B i2 i5 k7 b17 s18 p36 b37 s38 h39 Q) ?_ fun j35 => ?_
   ·rintro e h39 ⟨p36, b37, s38, hag, g40, hS⟩
    refine RunT.env hag ?_; clear hag
    refine ⟨?_, trivial⟩
    refine OpH.go rfl rfl rfl (sem_callL [(Value.pointer p36), (Value.int .i64 (i2)), (Value.agg #[(Value.bool b37), (Value.string s38)]), (Value.int .i64 (i5))] (TF.goes_115) rfl rfl (Spec.mono hS fun v h41 hv => ?_))
    obtain ⟨b42, rfl, hS⟩ := hv
    obtain ⟨g43, hS⟩ := hS
    refine ⟨fun _ => ⟨g43, trivial⟩, ?_⟩
    refine RunT.quiet rfl rfl rfl (fun h' hC => sem_pick true ((Value.bool b42)) rfl rfl ⟨rfl, rfl⟩) ?_
    refine RunT.quiet rfl rfl rfl (fun h' hC => sem_assign ((Value.bool b42)) rfl ⟨rfl, rfl⟩) ?_
    refine Run.ret ⟨.inr rfl, ?_⟩
    exact hS.imp fun h' hq => ⟨(b42), rfl, hq⟩
   refine ⟨?_, ?_, trivial⟩
   ·have hS := hS.1
    obtain ⟨p44, hl, hS⟩ := hS
    refine OpH.go rfl rfl rfl (sem_load1 A27 ((Value.pointer p44)) rfl TF.agg_110 hl ?_)
    refine ⟨fun _ => ⟨g26, trivial⟩, ?_⟩
    refine ⟨?_, trivial⟩
    obtain ⟨b45, s46, hl, hS⟩ := hS
    refine OpH.go rfl rfl rfl (sem_loadN ⟨k7, 0, none⟩ [(Value.bool b45), (Value.string s46)] rfl TF.agg_41 TF.sz_41 hl ?_)
    refine ⟨fun _ => ⟨g26, trivial⟩, ?_⟩
    exact j35 _ _ ⟨p44, (b45), s46, ⟨rfl, rfl, rfl, rfl, rfl, rfl, trivial⟩, g26, hS⟩
   ·have hS := hS.2
    obtain ⟨b47, s48, hl, hS⟩ := hS
    refine OpH.go rfl rfl rfl (sem_loadN ⟨k7, 0, none⟩ [(Value.bool b47), (Value.string s48)] rfl TF.agg_41 TF.sz_41 hl ?_)
    refine ⟨fun _ => ⟨g26, trivial⟩, ?_⟩
    refine ⟨?_, trivial⟩
    obtain ⟨p49, hl, hS⟩ := hS
    refine OpH.go rfl rfl rfl (sem_load1 A27 ((Value.pointer p49)) rfl TF.agg_110 hl ?_)
    refine ⟨fun _ => ⟨g26, trivial⟩, ?_⟩
    exact j35 _ _ ⟨p49, (b47), s48, ⟨rfl, rfl, rfl, rfl, rfl, rfl, trivial⟩, g26, hS⟩
set_option maxHeartbeats 4000000 in
theorem C_countermandref14_Sheet_Write.of {B : RO} {p1 : Option Addr} {i2 : Int} {i3 : Int} {i4 : Int} {h : Heap} {Q : Bool → Heap → Prop} (hS : S_countermandref14_Sheet_Write B p1 i2 i3 i4 h Q) : C_countermandref14_Sheet_Write B p1 i2 i3 i4 h Q := by
 unfold S_countermandref14_Sheet_Write at hS
 unfold C_countermandref14_Sheet_Write
 refine Spec.of_run Try.func86 (N := 25) (rs := [ResultVar.tmp 8]) rfl rfl rfl (Nat.le_of_ble_eq_true rfl) ?_
 refine Run.seq ?_
 refine Run.ops0 (idx := [0]) rfl ?_
 refine Run.go rfl rfl rfl (sem_assign ((Value.bool false)) rfl ?_)
 refine Run.region_end ?_
 refine Run.seq ?_
 refine Run.seq ?_
 refine Run.ops0 (idx := [0, 1]) rfl ?_
 refine Run.go rfl rfl rfl (sem_move ((Value.int .i64 (i2))) rfl ?_)
 refine Run.go rfl rfl rfl (sem_callL [(Value.int .i64 (i2))] (TF.goes_44) rfl rfl (Spec.mono hS fun v h6 hv => ?_))
 obtain ⟨b7, rfl, hS⟩ := hv
 obtain ⟨hT, hF⟩ := hS
 cases b7
 ·have hS := hF rfl; clear hT hF
  refine Run.region_end ?_
  refine Run.condF rfl ?_
  refine Run.skip ?_
  refine Run.seq ?_
  refine Run.ops0 (idx := [0, 1, 2]) rfl ?_
  refine Run.go rfl rfl rfl (sem_move ((Value.int .i64 (i2))) rfl ?_)
  refine Run.go rfl rfl rfl (sem_callL [(Value.int .i64 (i2))] (TF.goes_44) rfl rfl (Spec.mono hS fun v h8 hv => ?_))
  obtain ⟨b9, rfl, hS⟩ := hv
  refine Run.go rfl rfl rfl (sem_assign ((Value.bool b9)) rfl ?_)
  refine Run.region_end ?_
  refine Run.ret ⟨.inr rfl, ?_⟩
  exact hS.imp fun h' hq => ⟨(b9), rfl, hq⟩
 ·have hS := hT rfl; clear hT hF
  refine Run.region_end ?_
  refine Run.condT rfl ?_
  refine Run.ops0 (idx := [0, 1, 2, 3, 4, 5, 6, 7, 8, 9, 10, 11]) rfl ?_
  refine Run.go rfl rfl rfl (sem_move ((Value.pointer p1)) rfl ?_)
  refine Run.go rfl rfl rfl (sem_move ((Value.int .i64 (i2))) rfl ?_)
  refine Run.go rfl rfl rfl (sem_move ((Value.pointer p1)) rfl ?_)
  refine Run.go rfl rfl rfl (sem_move ((Value.int .i64 (i2))) rfl ?_)
  obtain ⟨A10, e11, hS⟩ := hS
  refine Run.go rfl rfl rfl (sem_nilCheck A10 (congrArg Value.pointer e11) ?_)
  refine Run.go rfl rfl rfl (sem_fieldAddr A10 12 rfl TF.fld_86_1 ?_)
  obtain ⟨hi0, hi1, hS⟩ := hS
  refine Run.go rfl rfl rfl (sem_indexAddrA (Addr.add A10 12) .i64 (i2) rfl rfl TF.arr_77 hi0 hi1 ?_)
  obtain ⟨b12, s13, hl, hS⟩ := hS
  refine Run.go rfl rfl rfl (sem_loadN (Addr.add (Addr.add A10 12) (Int.toNat (i2) * 2)) [(Value.bool b12), (Value.string s13)] rfl TF.agg_76 TF.sz_76 hl ?_)
  refine Run.go rfl rfl rfl (sem_move ((Value.int .i64 (i3))) rfl ?_)
  refine Run.go rfl rfl rfl (sem_move ((Value.int .u8 (i4))) rfl ?_)
  refine Run.go rfl rfl rfl (sem_callL [(Value.agg #[(Value.bool b12), (Value.string s13)]), (Value.int .i64 (i3)), (Value.int .u8 (i4))] (TF.goes_117) rfl rfl (Spec.mono hS fun v h14 hv => ?_))
  obtain ⟨b15, s16, rfl, hS⟩ := hv
  refine Run.go rfl rfl rfl (sem_callL [(Value.pointer p1), (Value.int .i64 (i2)), (Value.agg #[(Value.bool b15), (Value.string s16)])] (TF.goes_116) rfl rfl (Spec.mono hS fun v h17 hv => ?_))
  obtain ⟨rfl, hS⟩ := hv
  refine Run.region_end ?_
  refine Run.seq ?_
  refine Run.ops0 (idx := [0, 1, 2]) rfl ?_
  refine Run.go rfl rfl rfl (sem_move ((Value.int .i64 (i2))) rfl ?_)
  refine Run.go rfl rfl rfl (sem_callL [(Value.int .i64 (i2))] (TF.goes_44) rfl rfl (Spec.mono hS fun v h18 hv => ?_))
  obtain ⟨b19, rfl, hS⟩ := hv
  refine Run.go rfl rfl rfl (sem_assign ((Value.bool b19)) rfl ?_)
  refine Run.region_end ?_
  refine Run.ret ⟨.inr rfl, ?_⟩
  exact hS.imp fun h' hq => ⟨(b19), rfl, hq⟩
set_option maxHeartbeats 4000000 in
theorem C_countermandref14_Sheet_Cut.of {B : RO} {p1 : Option Addr} {i2 : Int} {i3 : Int} {h : Heap} {Q : Bool → Heap → Prop} (hS : S_countermandref14_Sheet_Cut B p1 i2 i3 h Q) : C_countermandref14_Sheet_Cut B p1 i2 i3 h Q := by
 unfold S_countermandref14_Sheet_Cut at hS
 unfold C_countermandref14_Sheet_Cut
 refine Spec.of_run Try.func87 (N := 22) (rs := [ResultVar.tmp 6]) rfl rfl rfl (Nat.le_of_ble_eq_true rfl) ?_
 refine Run.seq ?_
 refine Run.ops0 (idx := [0]) rfl ?_
 refine Run.go rfl rfl rfl (sem_assign ((Value.bool false)) rfl ?_)
 refine Run.region_end ?_
 refine Run.seq ?_
 refine Run.seq ?_
 refine Run.ops0 (idx := [0, 1]) rfl ?_
 refine Run.go rfl rfl rfl (sem_move ((Value.int .i64 (i2))) rfl ?_)
 refine Run.go rfl rfl rfl (sem_callL [(Value.int .i64 (i2))] (TF.goes_44) rfl rfl (Spec.mono hS fun v h5 hv => ?_))
 obtain ⟨b6, rfl, hS⟩ := hv
 obtain ⟨hT, hF⟩ := hS
 cases b6
 ·have hS := hF rfl; clear hT hF
  refine Run.region_end ?_
  refine Run.condF rfl ?_
  refine Run.skip ?_
  refine Run.seq ?_
  refine Run.ops0 (idx := [0, 1, 2]) rfl ?_
  refine Run.go rfl rfl rfl (sem_move ((Value.int .i64 (i2))) rfl ?_)
  refine Run.go rfl rfl rfl (sem_callL [(Value.int .i64 (i2))] (TF.goes_44) rfl rfl (Spec.mono hS fun v h7 hv => ?_))
  obtain ⟨b8, rfl, hS⟩ := hv
  refine Run.go rfl rfl rfl (sem_assign ((Value.bool b8)) rfl ?_)
  refine Run.region_end ?_
  refine Run.ret ⟨.inr rfl, ?_⟩
  exact hS.imp fun h' hq => ⟨(b8), rfl, hq⟩
 ·have hS := hT rfl; clear hT hF
  refine Run.region_end ?_
  refine Run.condT rfl ?_
  refine Run.ops0 (idx := [0, 1, 2, 3, 4, 5, 6, 7, 8, 9, 10]) rfl ?_
  refine Run.go rfl rfl rfl (sem_move ((Value.pointer p1)) rfl ?_)
  refine Run.go rfl rfl rfl (sem_move ((Value.int .i64 (i2))) rfl ?_)
  refine Run.go rfl rfl rfl (sem_move ((Value.pointer p1)) rfl ?_)
  refine Run.go rfl rfl rfl (sem_move ((Value.int .i64 (i2))) rfl ?_)
  obtain ⟨A9, e10, hS⟩ := hS
  refine Run.go rfl rfl rfl (sem_nilCheck A9 (congrArg Value.pointer e10) ?_)
  refine Run.go rfl rfl rfl (sem_fieldAddr A9 12 rfl TF.fld_86_1 ?_)
  obtain ⟨hi0, hi1, hS⟩ := hS
  refine Run.go rfl rfl rfl (sem_indexAddrA (Addr.add A9 12) .i64 (i2) rfl rfl TF.arr_77 hi0 hi1 ?_)
  obtain ⟨b11, s12, hl, hS⟩ := hS
  refine Run.go rfl rfl rfl (sem_loadN (Addr.add (Addr.add A9 12) (Int.toNat (i2) * 2)) [(Value.bool b11), (Value.string s12)] rfl TF.agg_76 TF.sz_76 hl ?_)
  refine Run.go rfl rfl rfl (sem_move ((Value.int .i64 (i3))) rfl ?_)
  refine Run.go rfl rfl rfl (sem_callL [(Value.agg #[(Value.bool b11), (Value.string s12)]), (Value.int .i64 (i3))] (TF.goes_118) rfl rfl (Spec.mono hS fun v h13 hv => ?_))
  obtain ⟨b14, s15, rfl, hS⟩ := hv
  refine Run.go rfl rfl rfl (sem_callL [(Value.pointer p1), (Value.int .i64 (i2)), (Value.agg #[(Value.bool b14), (Value.string s15)])] (TF.goes_116) rfl rfl (Spec.mono hS fun v h16 hv => ?_))
  obtain ⟨rfl, hS⟩ := hv
  refine Run.region_end ?_
  refine Run.seq ?_
  refine Run.ops0 (idx := [0, 1, 2]) rfl ?_
  refine Run.go rfl rfl rfl (sem_move ((Value.int .i64 (i2))) rfl ?_)
  refine Run.go rfl rfl rfl (sem_callL [(Value.int .i64 (i2))] (TF.goes_44) rfl rfl (Spec.mono hS fun v h17 hv => ?_))
  obtain ⟨b18, rfl, hS⟩ := hv
  refine Run.go rfl rfl rfl (sem_assign ((Value.bool b18)) rfl ?_)
  refine Run.region_end ?_
  refine Run.ret ⟨.inr rfl, ?_⟩
  exact hS.imp fun h' hq => ⟨(b18), rfl, hq⟩
set_option maxHeartbeats 4000000 in
theorem C_countermandref14_Sheet_Create.of {B : RO} {p1 : Option Addr} {i2 : Int} {h : Heap} {Q : Bool → Heap → Prop} (hS : S_countermandref14_Sheet_Create B p1 i2 h Q) : C_countermandref14_Sheet_Create B p1 i2 h Q := by
 unfold S_countermandref14_Sheet_Create at hS
 unfold C_countermandref14_Sheet_Create
 refine Spec.of_run Try.func88 (N := 20) (rs := [ResultVar.tmp 4]) rfl rfl rfl (Nat.le_of_ble_eq_true rfl) ?_
 refine Run.seq ?_
 refine Run.ops0 (idx := [0]) rfl ?_
 refine Run.go rfl rfl rfl (sem_assign ((Value.bool false)) rfl ?_)
 refine Run.region_end ?_
 refine Run.seq ?_
 refine Run.seq ?_
 refine Run.ops0 (idx := [0, 1]) rfl ?_
 refine Run.go rfl rfl rfl (sem_move ((Value.int .i64 (i2))) rfl ?_)
 refine Run.go rfl rfl rfl (sem_callL [(Value.int .i64 (i2))] (TF.goes_44) rfl rfl (Spec.mono hS fun v h4 hv => ?_))
 obtain ⟨b5, rfl, hS⟩ := hv
 obtain ⟨hT, hF⟩ := hS
 cases b5
 ·have hS := hF rfl; clear hT hF
  refine Run.region_end ?_
  refine Run.condF rfl ?_
  refine Run.skip ?_
  refine Run.seq ?_
  refine Run.ops0 (idx := [0, 1, 2]) rfl ?_
  refine Run.go rfl rfl rfl (sem_move ((Value.int .i64 (i2))) rfl ?_)
  refine Run.go rfl rfl rfl (sem_callL [(Value.int .i64 (i2))] (TF.goes_44) rfl rfl (Spec.mono hS fun v h6 hv => ?_))
  obtain ⟨b7, rfl, hS⟩ := hv
  refine Run.go rfl rfl rfl (sem_assign ((Value.bool b7)) rfl ?_)
  refine Run.region_end ?_
  refine Run.ret ⟨.inr rfl, ?_⟩
  exact hS.imp fun h' hq => ⟨(b7), rfl, hq⟩
 ·have hS := hT rfl; clear hT hF
  refine Run.region_end ?_
  refine Run.condT rfl ?_
  refine Run.ops0 (idx := [0, 1, 2, 3, 4, 5, 6, 7, 8, 9, 10]) rfl ?_
  refine Run.go rfl rfl rfl (sem_move ((Value.pointer p1)) rfl ?_)
  refine Run.go rfl rfl rfl (sem_move ((Value.int .i64 (i2))) rfl ?_)
  refine Run.go rfl rfl rfl (sem_move ((Value.pointer p1)) rfl ?_)
  refine Run.go rfl rfl rfl (sem_move ((Value.int .i64 (i2))) rfl ?_)
  obtain ⟨A8, e9, hS⟩ := hS
  refine Run.go rfl rfl rfl (sem_nilCheck A8 (congrArg Value.pointer e9) ?_)
  refine Run.go rfl rfl rfl (sem_fieldAddr A8 12 rfl TF.fld_86_1 ?_)
  obtain ⟨hi0, hi1, hS⟩ := hS
  refine Run.go rfl rfl rfl (sem_indexAddrA (Addr.add A8 12) .i64 (i2) rfl rfl TF.arr_77 hi0 hi1 ?_)
  refine Run.go rfl rfl rfl (sem_fieldAddr (Addr.add (Addr.add A8 12) (Int.toNat (i2) * 2)) 1 rfl TF.fld_76_1 ?_)
  obtain ⟨s10, hl, hS⟩ := hS
  refine Run.go rfl rfl rfl (sem_load1 (Addr.add (Addr.add (Addr.add A8 12) (Int.toNat (i2) * 2)) 1) ((Value.string s10)) rfl TF.agg_9 hl ?_)
  refine Run.go rfl rfl rfl (sem_buildSL [(0, (Value.bool true)), (1, (Value.string s10))] [(Value.bool true), (Value.string s10)] TF.zero_76 TF.places_76 rfl rfl ?_)
  refine Run.go rfl rfl rfl (sem_callL [(Value.pointer p1), (Value.int .i64 (i2)), (Value.agg #[(Value.bool true), (Value.string s10)])] (TF.goes_116) rfl rfl (Spec.mono hS fun v h11 hv => ?_))
  obtain ⟨rfl, hS⟩ := hv
  refine Run.region_end ?_
  refine Run.seq ?_
  refine Run.ops0 (idx := [0, 1, 2]) rfl ?_
  refine Run.go rfl rfl rfl (sem_move ((Value.int .i64 (i2))) rfl ?_)
  refine Run.go rfl rfl rfl (sem_callL [(Value.int .i64 (i2))] (TF.goes_44) rfl rfl (Spec.mono hS fun v h12 hv => ?_))
  obtain ⟨b13, rfl, hS⟩ := hv
  refine Run.go rfl rfl rfl (sem_assign ((Value.bool b13)) rfl ?_)
  refine Run.region_end ?_
  refine Run.ret ⟨.inr rfl, ?_⟩
  exact hS.imp fun h' hq => ⟨(b13), rfl, hq⟩
set_option maxHeartbeats 4000000 in
theorem C_countermandref14_Sheet_Remove.of {B : RO} {p1 : Option Addr} {i2 : Int} {h : Heap} {Q : Bool → Heap → Prop} (hS : S_countermandref14_Sheet_Remove B p1 i2 h Q) : C_countermandref14_Sheet_Remove B p1 i2 h Q := by
 unfold S_countermandref14_Sheet_Remove at hS
 unfold C_countermandref14_Sheet_Remove
 refine Spec.of_run Try.func89 (N := 13) (rs := [ResultVar.tmp 4]) rfl rfl rfl (Nat.le_of_ble_eq_true rfl) ?_
 refine Run.seq ?_
 refine Run.ops0 (idx := [0]) rfl ?_
 refine Run.go rfl rfl rfl (sem_assign ((Value.bool false)) rfl ?_)
 refine Run.region_end ?_
 refine Run.seq ?_
 refine Run.seq ?_
 refine Run.ops0 (idx := [0, 1]) rfl ?_
 refine Run.go rfl rfl rfl (sem_move ((Value.int .i64 (i2))) rfl ?_)
 refine Run.go rfl rfl rfl (sem_callL [(Value.int .i64 (i2))] (TF.goes_44) rfl rfl (Spec.mono hS fun v h4 hv => ?_))
 obtain ⟨b5, rfl, hS⟩ := hv
 obtain ⟨hT, hF⟩ := hS
 cases b5
 ·have hS := hF rfl; clear hT hF
  refine Run.region_end ?_
  refine Run.condF rfl ?_
  refine Run.skip ?_
  refine Run.seq ?_
  refine Run.ops0 (idx := [0, 1, 2]) rfl ?_
  refine Run.go rfl rfl rfl (sem_move ((Value.int .i64 (i2))) rfl ?_)
  refine Run.go rfl rfl rfl (sem_callL [(Value.int .i64 (i2))] (TF.goes_44) rfl rfl (Spec.mono hS fun v h6 hv => ?_))
  obtain ⟨b7, rfl, hS⟩ := hv
  refine Run.go rfl rfl rfl (sem_assign ((Value.bool b7)) rfl ?_)
  refine Run.region_end ?_
  refine Run.ret ⟨.inr rfl, ?_⟩
  exact hS.imp fun h' hq => ⟨(b7), rfl, hq⟩
 ·have hS := hT rfl; clear hT hF
  refine Run.region_end ?_
  refine Run.condT rfl ?_
  refine Run.ops0 (idx := [0, 1, 2, 3]) rfl ?_
  refine Run.go rfl rfl rfl (sem_move ((Value.pointer p1)) rfl ?_)
  refine Run.go rfl rfl rfl (sem_move ((Value.int .i64 (i2))) rfl ?_)
  refine Run.go rfl rfl rfl (sem_buildSL [] [(Value.bool false), (Value.string ByteArray.empty)] TF.zero_76 TF.places_76 rfl rfl ?_)
  refine Run.go rfl rfl rfl (sem_callL [(Value.pointer p1), (Value.int .i64 (i2)), (Value.agg #[(Value.bool false), (Value.string ByteArray.empty)])] (TF.goes_116) rfl rfl (Spec.mono hS fun v h8 hv => ?_))
  obtain ⟨rfl, hS⟩ := hv
  refine Run.region_end ?_
  refine Run.seq ?_
  refine Run.ops0 (idx := [0, 1, 2]) rfl ?_
  refine Run.go rfl rfl rfl (sem_move ((Value.int .i64 (i2))) rfl ?_)
  refine Run.go rfl rfl rfl (sem_callL [(Value.int .i64 (i2))] (TF.goes_44) rfl rfl (Spec.mono hS fun v h9 hv => ?_))
  obtain ⟨b10, rfl, hS⟩ := hv
  refine Run.go rfl rfl rfl (sem_assign ((Value.bool b10)) rfl ?_)
  refine Run.region_end ?_
  refine Run.ret ⟨.inr rfl, ?_⟩
  exact hS.imp fun h' hq => ⟨(b10), rfl, hq⟩
set_option maxHeartbeats 4000000 in
theorem C_countermandref14_Sheet_Rename.of {B : RO} {p1 : Option Addr} {i2 : Int} {i3 : Int} {h : Heap} {Q : Bool → Heap → Prop} (hS : S_countermandref14_Sheet_Rename B p1 i2 i3 h Q) : C_countermandref14_Sheet_Rename B p1 i2 i3 h Q := by
 unfold S_countermandref14_Sheet_Rename at hS
 unfold C_countermandref14_Sheet_Rename
 refine Spec.of_run Try.func90 (N := 40) (rs := [ResultVar.tmp 6]) rfl rfl rfl (Nat.le_of_ble_eq_true rfl) ?_
 refine Run.seq ?_
 refine Run.ops0 (idx := [0]) rfl ?_
 refine Run.go rfl rfl rfl (sem_assign ((Value.bool false)) rfl ?_)
 refine Run.region_end ?_
 refine Run.seqJ (fun e h6 => Agree [(0, (Value.pointer p1)), (1, (Value.int .i64 (i2))), (2, (Value.int .i64 (i3)))] e ∧ S_countermandref14_Sheet_Rename_J1 B p1 i2 i3 h6 Q) ?_ fun j5 => ?_
 ·rintro e h6 ⟨hag, hS⟩
  refine Run.env hag ?_; clear hag
  refine Run.seq ?_
  refine Run.seqJ (fun e h9 => ∃ b8 : Bool, Agree [(0, (Value.pointer p1)), (1, (Value.int .i64 (i2))), (2, (Value.int .i64 (i3))), (26, (Value.bool b8))] e ∧ S_countermandref14_Sheet_Rename_J2 B p1 i2 i3 b8 h9 Q) ?_ fun j7 => ?_
  ·rintro e h9 ⟨b8, hag, hS⟩
   refine Run.env hag ?_; clear hag
   obtain ⟨hT, hF⟩ := hS
   cases b8
   ·have hS := hF rfl; clear hT hF
    refine Run.condF rfl ?_
    refine Run.skip ?_
    refine Run.seq ?_
    refine Run.ops0 (idx := [0]) rfl ?_
    refine Run.go rfl rfl rfl (sem_assign ((Value.bool true)) rfl ?_)
    refine Run.region_end ?_
    refine Run.ret ⟨.inr rfl, ?_⟩
    exact hS.imp fun h' hq => ⟨(true), rfl, hq⟩
   ·have hS := hT rfl; clear hT hF
    refine Run.condT rfl ?_
    refine Run.seq ?_
    refine Run.ops0 (idx := [0, 1, 2, 3, 4, 5, 6, 7, 8]) rfl ?_
    refine Run.go rfl rfl rfl (sem_move ((Value.pointer p1)) rfl ?_)
    refine Run.go rfl rfl rfl (sem_move ((Value.int .i64 (i3))) rfl ?_)
    refine Run.go rfl rfl rfl (sem_move ((Value.pointer p1)) rfl ?_)
    refine Run.go rfl rfl rfl (sem_move ((Value.int .i64 (i2))) rfl ?_)
    obtain ⟨A10, e11, hS⟩ := hS
    refine Run.go rfl rfl rfl (sem_nilCheck A10 (congrArg Value.pointer e11) ?_)
    refine Run.go rfl rfl rfl (sem_fieldAddr A10 12 rfl TF.fld_86_1 ?_)
    obtain ⟨hi0, hi1, hS⟩ := hS
    refine Run.go rfl rfl rfl (sem_indexAddrA (Addr.add A10 12) .i64 (i2) rfl rfl TF.arr_77 hi0 hi1 ?_)
    obtain ⟨b12, s13, hl, hS⟩ := hS
    refine Run.go rfl rfl rfl (sem_loadN (Addr.add (Addr.add A10 12) (Int.toNat (i2) * 2)) [(Value.bool b12), (Value.string s13)] rfl TF.agg_76 TF.sz_76 hl ?_)
    refine Run.go rfl rfl rfl (sem_callL [(Value.pointer p1), (Value.int .i64 (i3)), (Value.agg #[(Value.bool b12), (Value.string s13)])] (TF.goes_116) rfl rfl (Spec.mono hS fun v h14 hv => ?_))
    obtain ⟨rfl, hS⟩ := hv
    refine Run.region_end ?_
    refine Run.ops0 (idx := [0, 1, 2, 3]) rfl ?_
    refine Run.go rfl rfl rfl (sem_move ((Value.pointer p1)) rfl ?_)
    refine Run.go rfl rfl rfl (sem_move ((Value.int .i64 (i2))) rfl ?_)
    refine Run.go rfl rfl rfl (sem_buildSL [] [(Value.bool false), (Value.string ByteArray.empty)] TF.zero_76 TF.places_76 rfl rfl ?_)
    refine Run.go rfl rfl rfl (sem_callL [(Value.pointer p1), (Value.int .i64 (i2)), (Value.agg #[(Value.bool false), (Value.string ByteArray.empty)])] (TF.goes_116) rfl rfl (Spec.mono hS fun v h15 hv => ?_))
    obtain ⟨rfl, hS⟩ := hv
    refine Run.region_end ?_
    refine Run.seq ?_
    refine Run.ops0 (idx := [0]) rfl ?_
    refine Run.go rfl rfl rfl (sem_assign ((Value.bool true)) rfl ?_)
    refine Run.region_end ?_
    refine Run.ret ⟨.inr rfl, ?_⟩
    exact hS.imp fun h' hq => ⟨(true), rfl, hq⟩
  refine Run.ops0 (idx := [0, 1, 2, 3, 4, 5, 6, 7, 8, 9, 10, 11]) rfl ?_
  refine Run.go rfl rfl rfl (sem_move ((Value.pointer p1)) rfl ?_)
  refine Run.go rfl rfl rfl (sem_move ((Value.int .i64 (i2))) rfl ?_)
  obtain ⟨A16, e17, hS⟩ := hS
  refine Run.go rfl rfl rfl (sem_nilCheck A16 (congrArg Value.pointer e17) ?_)
  refine Run.go rfl rfl rfl (sem_fieldAddr A16 12 rfl TF.fld_86_1 ?_)
  obtain ⟨hi0, hi1, hS⟩ := hS
  refine Run.go rfl rfl rfl (sem_indexAddrA (Addr.add A16 12) .i64 (i2) rfl rfl TF.arr_77 hi0 hi1 ?_)
  refine Run.go rfl rfl rfl (sem_fieldAddr (Addr.add (Addr.add A16 12) (Int.toNat (i2) * 2)) 0 rfl TF.fld_76_0 ?_)
  obtain ⟨b18, hl, hS⟩ := hS
  obtain ⟨hT, hF⟩ := hS
  cases b18
  ·have hS := hF rfl; clear hT hF
   refine Run.go rfl rfl rfl (sem_load1 (Addr.add (Addr.add A16 12) (Int.toNat (i2) * 2)) (.bool false) rfl TF.agg_4 hl ?_)
   refine Run.go rfl rfl rfl (sem_move ((Value.bool false)) rfl ?_)
   refine Run.no rfl rfl rfl ?_
   refine Run.no rfl rfl rfl ?_
   refine Run.no rfl rfl rfl ?_
   refine Run.go rfl rfl rfl (sem_pick false ((Value.bool false)) rfl rfl ?_)
   refine Run.region_end ?_
   exact Run.of_fin (hS.imp fun h' hS => j7 _ _ ⟨(false), ⟨rfl, rfl, rfl, rfl, trivial⟩, hS⟩)
  ·have hS := hT rfl; clear hT hF
   refine Run.go rfl rfl rfl (sem_load1 (Addr.add (Addr.add A16 12) (Int.toNat (i2) * 2)) (.bool true) rfl TF.agg_4 hl ?_)
   refine Run.go rfl rfl rfl (sem_move ((Value.bool true)) rfl ?_)
   refine Run.go rfl rfl rfl (sem_move ((Value.int .i64 (i2))) rfl ?_)
   refine Run.go rfl rfl rfl (sem_move ((Value.int .i64 (i3))) rfl ?_)
   obtain ⟨hT, hF⟩ := hS
   by_cases hb19 : (i2 : Int) = i3
   ·have hS := hT hb19; clear hT hF
    refine Run.go rfl rfl rfl (sem_binI .i64 (i2) (i3) (.bool false) rfl rfl (binI_neq_t hb19) ?_)
    refine Run.go rfl rfl rfl (sem_pick true ((Value.bool false)) rfl rfl ?_)
    refine Run.region_end ?_
    exact Run.of_fin (hS.imp fun h' hS => j7 _ _ ⟨(false), ⟨rfl, rfl, rfl, rfl, trivial⟩, hS⟩)
   ·have hS := hF hb19; clear hT hF
    refine Run.go rfl rfl rfl (sem_binI .i64 (i2) (i3) (.bool true) rfl rfl (binI_neq_f hb19) ?_)
    refine Run.go rfl rfl rfl (sem_pick true ((Value.bool true)) rfl rfl ?_)
    refine Run.region_end ?_
    exact Run.of_fin (hS.imp fun h' hS => j7 _ _ ⟨(true), ⟨rfl, rfl, rfl, rfl, trivial⟩, hS⟩)
 refine Run.seq ?_
 refine Run.ops0 (idx := [0, 1, 2, 3, 4, 5, 6, 7]) rfl ?_
 refine Run.go rfl rfl rfl (sem_move ((Value.int .i64 (i2))) rfl ?_)
 refine Run.go rfl rfl rfl (sem_callL [(Value.int .i64 (i2))] (TF.goes_44) rfl rfl (Spec.mono hS fun v h20 hv => ?_))
 obtain ⟨b21, rfl, hS⟩ := hv
 obtain ⟨hT, hF⟩ := hS
 cases b21
 ·have hS := hF rfl; clear hT hF
  refine Run.go rfl rfl rfl (sem_not false rfl ?_)
  refine Run.go rfl rfl rfl (sem_move ((Value.bool true)) rfl ?_)
  refine Run.no rfl rfl rfl ?_
  refine Run.no rfl rfl rfl ?_
  refine Run.no rfl rfl rfl ?_
  refine Run.go rfl rfl rfl (sem_pick true ((Value.bool true)) rfl rfl ?_)
  refine Run.region_end ?_
  refine Run.condT rfl ?_
  refine Run.seq ?_
  refine Run.ops0 (idx := [0]) rfl ?_
  refine Run.go rfl rfl rfl (sem_assign ((Value.bool false)) rfl ?_)
  refine Run.region_end ?_
  refine Run.ret ⟨.inr rfl, ?_⟩
  exact hS.imp fun h' hq => ⟨(false), rfl, hq⟩
 ·have hS := hT rfl; clear hT hF
  refine Run.go rfl rfl rfl (sem_not true rfl ?_)
  refine Run.go rfl rfl rfl (sem_move ((Value.bool false)) rfl ?_)
  refine Run.go rfl rfl rfl (sem_move ((Value.int .i64 (i3))) rfl ?_)
  refine Run.go rfl rfl rfl (sem_callL [(Value.int .i64 (i3))] (TF.goes_44) rfl rfl (Spec.mono hS fun v h22 hv => ?_))
  obtain ⟨b23, rfl, hS⟩ := hv
  obtain ⟨hT, hF⟩ := hS
  cases b23
  ·have hS := hF rfl; clear hT hF
   refine Run.go rfl rfl rfl (sem_not false rfl ?_)
   refine Run.go rfl rfl rfl (sem_pick false ((Value.bool true)) rfl rfl ?_)
   refine Run.region_end ?_
   refine Run.condT rfl ?_
   refine Run.seq ?_
   refine Run.ops0 (idx := [0]) rfl ?_
   refine Run.go rfl rfl rfl (sem_assign ((Value.bool false)) rfl ?_)
   refine Run.region_end ?_
   refine Run.ret ⟨.inr rfl, ?_⟩
   exact hS.imp fun h' hq => ⟨(false), rfl, hq⟩
  ·have hS := hT rfl; clear hT hF
   refine Run.go rfl rfl rfl (sem_not true rfl ?_)
   refine Run.go rfl rfl rfl (sem_pick false ((Value.bool false)) rfl rfl ?_)
   refine Run.region_end ?_
   refine Run.condF rfl ?_
   refine Run.skip ?_
   exact Run.of_fin (hS.imp fun h' hS => j5 _ _ ⟨⟨rfl, rfl, rfl, trivial⟩, hS⟩)
set_option maxHeartbeats 4000000 in
theorem C_draft_Draft_file_File_Copy.of {B : RO} {p1 : Option Addr} {h : Heap} {Q : Option Addr → Heap → Prop} (hS : S_draft_Draft_file_File_Copy B p1 h Q) : C_draft_Draft_file_File_Copy B p1 h Q := by
 unfold S_draft_Draft_file_File_Copy at hS
 unfold C_draft_Draft_file_File_Copy
 refine Spec.of_run Try.func91 (N := 12) (rs := [ResultVar.tmp 2]) rfl rfl rfl (Nat.le_of_ble_eq_true rfl) ?_
 refine Run.seq ?_
 refine Run.ops0 (idx := [0]) rfl ?_
 refine Run.go rfl rfl rfl (sem_assign ((Value.pointer none)) rfl ?_)
 refine Run.region_end ?_
 refine Run.seq ?_
 refine Run.seq ?_
 refine Run.ops0 (idx := [0, 1]) rfl ?_
 refine Run.go rfl rfl rfl (sem_move ((Value.pointer p1)) rfl ?_)
 obtain ⟨hT, hF⟩ := hS
 by_cases hb3 : p1 = none
 ·have hS := hT hb3; clear hT hF
  refine Run.go rfl rfl rfl (sem_ptrNilT p1 (.inl rfl) true rfl rfl TF.ptr_95 hb3 rfl ?_)
  refine Run.region_end ?_
  refine Run.condT rfl ?_
  refine Run.seq ?_
  refine Run.ops0 (idx := [0]) rfl ?_
  refine Run.go rfl rfl rfl (sem_assign ((Value.pointer none)) rfl ?_)
  refine Run.region_end ?_
  refine Run.ret ⟨.inr rfl, ?_⟩
  exact hS.imp fun h' hq => ⟨none, rfl, hq⟩
 ·have hS := hF hb3; clear hT hF
  refine Run.go rfl rfl rfl (sem_ptrNilF p1 (.inl rfl) false rfl rfl TF.ptr_95 hb3 rfl ?_)
  refine Run.region_end ?_
  refine Run.condF rfl ?_
  refine Run.skip ?_
  refine Run.seq ?_
  refine Run.ops0 (idx := [0, 1, 2, 3, 4, 5, 6, 7]) rfl ?_
  refine Run.go rfl rfl rfl (sem_move ((Value.pointer p1)) rfl ?_)
  obtain ⟨A4, e5, hS⟩ := hS
  refine Run.go rfl rfl rfl (sem_nilCheck A4 (congrArg Value.pointer e5) ?_)
  refine Run.go rfl rfl rfl (sem_fieldAddr A4 0 rfl TF.fld_160_0 ?_)
  refine Run.ldSl hS fun a6 n7 c8 h9 hl hS => ?_
  refine Run.go rfl rfl rfl (sem_load1 A4 ((Value.slice a6 n7 c8)) rfl TF.agg_158 hl ?_)
  refine Run.go rfl rfl rfl (sem_callL [(Value.slice a6 n7 c8)] (TF.goes_119) rfl rfl (Spec.mono hS fun v h10 hv => ?_))
  obtain ⟨a11, n12, c13, rfl, hS⟩ := hv
  refine Run.go rfl rfl rfl (sem_buildSL [(0, (Value.slice a11 n12 c13))] [(Value.slice a11 n12 c13)] TF.zero_160 TF.places_160 rfl rfl ?_)
  refine Run.go rfl rfl rfl (sem_boxNN [(Value.slice a11 n12 c13)] rfl (fun k14 hb1 hb2 h15 hb3 => ?_))
  have hS := hS k14 hb1 hb2 h15 hb3
  refine Run.go rfl rfl rfl (sem_assign ((Value.pointer (some ⟨k14, 0, none⟩))) rfl ?_)
  refine Run.region_end ?_
  refine Run.ret ⟨.inr rfl, ?_⟩
  exact hS.imp fun h' hq => ⟨(some ⟨k14, 0, none⟩), rfl, hq⟩
set_option maxHeartbeats 4000000 in
theorem C_cell_Row_file_File_Get.of {B : RO} {p1 : Option Addr} {i2 : Int} {h : Heap} {Q : Bool → ByteArray → Int → Heap → Prop} (hS : S_cell_Row_file_File_Get B p1 i2 h Q) : C_cell_Row_file_File_Get B p1 i2 h Q := by
 unfold S_cell_Row_file_File_Get at hS
 unfold C_cell_Row_file_File_Get
 refine Spec.of_run Try.func92 (N := 28) (rs := [ResultVar.cell 4 41, ResultVar.tmp 5]) rfl rfl rfl (Nat.le_of_ble_eq_true rfl) ?_
 refine Run.seq ?_
 refine Run.ops0 (idx := [0, 1]) rfl ?_
 refine Run.go rfl rfl rfl (sem_allocN [(Value.bool false), (Value.string ByteArray.empty)] TF.zero_41 (fun k6 hb1 hb2 h7 hb3 => ?_))
 have hS := hS k6 hb1 hb2 h7 hb3
 refine Run.go rfl rfl rfl (sem_assign ((Value.int .i64 (0))) rfl ?_)
 refine Run.region_end ?_
 refine Run.seq ?_
 refine Run.seq ?_
 refine Run.ops0 (idx := [0, 1, 2, 3]) rfl ?_
 refine Run.go rfl rfl rfl (sem_move ((Value.pointer p1)) rfl ?_)
 refine Run.go rfl rfl rfl (sem_move ((Value.int .i64 (i2))) rfl ?_)
 refine Run.go rfl rfl rfl (sem_callL [(Value.pointer p1), (Value.int .i64 (i2))] (TF.goes_120) rfl rfl (Spec.mono hS fun v h8 hv => ?_))
 obtain ⟨b9, rfl, hS⟩ := hv
 obtain ⟨hT, hF⟩ := hS
 cases b9
 ·have hS := hF rfl; clear hT hF
  refine Run.go rfl rfl rfl (sem_not false rfl ?_)
  refine Run.region_end ?_
  refine Run.condT rfl ?_
  refine Run.seq ?_
  refine Run.ops0 (idx := [0]) rfl ?_
  refine Run.go rfl rfl rfl (sem_allocN [(Value.bool false), (Value.string ByteArray.empty)] TF.zero_41 (fun k10 hb1 hb2 h11 hb3 => ?_))
  have hS := hS k10 hb1 hb2 h11 hb3
  refine Run.region_end ?_
  refine Run.seq ?_
  refine Run.ops0 (idx := [0, 1, 2]) rfl ?_
  obtain ⟨b12, s13, hl, hS⟩ := hS
  refine Run.go rfl rfl rfl (sem_loadN ⟨k10, 0, none⟩ [(Value.bool b12), (Value.string s13)] rfl TF.agg_41 TF.sz_41 hl ?_)
  obtain ⟨h14, hst, hS⟩ := hS
  refine Run.go rfl rfl rfl (sem_storeN ⟨k6, 0, none⟩ [(Value.bool b12), (Value.string s13)] h14 rfl rfl TF.sz_41 hst ?_)
  refine Run.go rfl rfl rfl (sem_assign ((Value.int .i64 (0))) rfl ?_)
  refine Run.region_end ?_
  obtain ⟨b15, s16, hl0, hS⟩ := hS
  refine Run.ret ⟨.inr rfl, ?_⟩
  exact ⟨⟨k6, 0, none⟩, (Value.agg #[(Value.bool b15), (Value.string s16)]), rfl, loadHN TF.agg_41 TF.sz_41 hl0, hS.imp fun h' hq => ⟨(b15), s16, (0), rfl, hq⟩⟩
 ·have hS := hT rfl; clear hT hF
  refine Run.go rfl rfl rfl (sem_not true rfl ?_)
  refine Run.region_end ?_
  refine Run.condF rfl ?_
  refine Run.skip ?_
  refine Run.seq ?_
  skip
  obtain ⟨A18, e19, hS⟩ := hS
  skip
  skip
  obtain ⟨a22, n23, c24, hl, hS⟩ := hS
  have f25 := hl
  skip
  obtain ⟨A27, e28, hi0, hi1, hS⟩ := hS
  have f30 := hi0; have f31 := hi1
  skip
  obtain ⟨b33, s34, hl, hS⟩ := hS
  have f35 := hl
  skip
  obtain ⟨A37, e38, hS⟩ := hS
  skip
  skip
  obtain ⟨a41, n42, c43, hl, hS⟩ := hS
  have f44 := hl
  skip
  obtain ⟨A46, e47, hi0, hi1, hS⟩ := hS
  have f49 := hi0; have f50 := hi1
  skip
  obtain ⟨i52, hl, hS⟩ := hS
  have f53 := hl
  refine Run.drawM (fun h' => cellH B h' A18 = some (Value.slice a22 n23 c24) ∧ CellsAt B h' (Addr.add A27 (Int.toNat (i2) * 3)) 0 [(Value.bool b33), (Value.string s34)] ∧ cellH B h' A37 = some (Value.slice a41 n42 c43) ∧ cellH B h' (Addr.add (Addr.add A46 (Int.toNat (i2) * 3)) 2) = some (Value.int .i64 (i52)) ∧ True) [] ⟨[0, 1, 2, 4, 0, 24, 32, 64, 0, 256, 512, 1024, 0, 6144, 8192, 16384, 255, 131071], [262143, 262142, 262141, 262139, 262143, 262119, 262111, 262079, 262143, 261887, 261631, 261119, 262143, 255999, 253951, 245759, 262015, 229375], [0, 0, 0, 0, 0, 0, 0, 0, 0, 0, 0, 0, 0, 0, 0, 0, 0, 0], 0⟩ (.q 0 (.q 1 (.q 2 (.q 3 (.q 4 (.q 5 (.q 6 (.q 7 (.q 8 (.q 9 (.q 10 (.q 11 (.q 12 (.q 13 (.q 14 (.q 15 (.x 16 (.q 17 .nil) .no))))))))))))))))) TF.mixed (by kernel_rfl) ⟨f25, f35, f44, f53, trivial⟩ ?_
  refine RunT.quiet rfl rfl rfl (fun h' hC => sem_move ((Value.pointer p1)) rfl ⟨rfl, rfl⟩) ?_
  refine RunT.quiet rfl rfl rfl (fun h' hC => sem_nilCheck A18 (congrArg Value.pointer e19) ⟨rfl, rfl⟩) ?_
  refine RunT.quiet rfl rfl rfl (fun h' hC => sem_fieldAddr A18 0 rfl TF.fld_168_0 ⟨rfl, rfl⟩) ?_
  refine RunT.quiet rfl rfl rfl (fun h' hC => sem_load1 A18 ((Value.slice a22 n23 c24)) rfl TF.agg_166 hC.1 ⟨rfl, rfl⟩) ?_
  refine RunT.quiet rfl rfl rfl (fun h' hC => sem_move ((Value.int .i64 (i2))) rfl ⟨rfl, rfl⟩) ?_
  refine RunT.quiet rfl rfl rfl (fun h' hC => sem_indexAddrS A27 n23 c24 .i64 (i2) (congrArg (fun a => Value.slice a n23 c24) e28) rfl TF.slc_166 f30 f31 ⟨rfl, rfl⟩) ?_
  refine RunT.quiet rfl rfl rfl (fun h' hC => sem_fieldAddr (Addr.add A27 (Int.toNat (i2) * 3)) 0 rfl TF.fld_170_0 ⟨rfl, rfl⟩) ?_
  refine RunT.quiet rfl rfl rfl (fun h' hC => sem_loadN (Addr.add A27 (Int.toNat (i2) * 3)) [(Value.bool b33), (Value.string s34)] rfl TF.agg_41 TF.sz_41 hC.2.1 ⟨rfl, rfl⟩) ?_
  refine RunT.quiet rfl rfl rfl (fun h' hC => sem_move ((Value.pointer p1)) rfl ⟨rfl, rfl⟩) ?_
  refine RunT.quiet rfl rfl rfl (fun h' hC => sem_nilCheck A37 (congrArg Value.pointer e38) ⟨rfl, rfl⟩) ?_
  refine RunT.quiet rfl rfl rfl (fun h' hC => sem_fieldAddr A37 0 rfl TF.fld_168_0 ⟨rfl, rfl⟩) ?_
  refine RunT.quiet rfl rfl rfl (fun h' hC => sem_load1 A37 ((Value.slice a41 n42 c43)) rfl TF.agg_166 hC.2.2.1 ⟨rfl, rfl⟩) ?_
  refine RunT.quiet rfl rfl rfl (fun h' hC => sem_move ((Value.int .i64 (i2))) rfl ⟨rfl, rfl⟩) ?_
  refine RunT.quiet rfl rfl rfl (fun h' hC => sem_indexAddrS A46 n42 c43 .i64 (i2) (congrArg (fun a => Value.slice a n42 c43) e47) rfl TF.slc_166 f49 f50 ⟨rfl, rfl⟩) ?_
  refine RunT.quiet rfl rfl rfl (fun h' hC => sem_fieldAddr (Addr.add A46 (Int.toNat (i2) * 3)) 2 rfl TF.fld_170_1 ⟨rfl, rfl⟩) ?_
  refine RunT.quiet rfl rfl rfl (fun h' hC => sem_load1 (Addr.add (Addr.add A46 (Int.toNat (i2) * 3)) 2) ((Value.int .i64 (i52))) rfl TF.agg_3 hC.2.2.2.1 ⟨rfl, rfl⟩) ?_
  refine ⟨?_, trivial⟩
  obtain ⟨h54, hst, hS⟩ := hS
  refine OpH.go rfl rfl rfl (sem_storeN ⟨k6, 0, none⟩ [(Value.bool b33), (Value.string s34)] h54 rfl rfl TF.sz_41 hst ?_)
  obtain ⟨g55, g56, g57, g58, hS⟩ := hS
  refine ⟨fun _ => ⟨g55, g56, g57, g58, trivial⟩, ?_⟩
  refine RunT.quiet rfl rfl rfl (fun h' hC => sem_assign ((Value.int .i64 (i52))) rfl ⟨rfl, rfl⟩) ?_
  obtain ⟨b59, s60, hl0, hS⟩ := hS
  refine Run.ret ⟨.inr rfl, ?_⟩
  exact ⟨⟨k6, 0, none⟩, (Value.agg #[(Value.bool b59), (Value.string s60)]), rfl, loadHN TF.agg_41 TF.sz_41 hl0, hS.imp fun h' hq => ⟨(b59), s60, (i52), rfl, hq⟩⟩
set_option maxHeartbeats 4000000 in
theorem C_tome_Tome_All.of {B : RO} {p1 : Option Addr} {h : Heap} {Q : Value → Heap → Prop} (hS : S_tome_Tome_All B p1 h Q) : C_tome_Tome_All B p1 h Q := by
 unfold S_tome_Tome_All at hS
 unfold C_tome_Tome_All
 refine Spec.of_run Try.func93 (N := 4) (rs := [ResultVar.tmp 2]) rfl rfl rfl (Nat.le_of_ble_eq_true rfl) ?_
 refine Run.seq ?_
 refine Run.ops0 (idx := [0, 1]) rfl ?_
 refine Run.go rfl rfl rfl (sem_box1N ((Value.pointer p1)) rfl rfl (fun k3 hb1 hb2 h4 hb3 => ?_))
 have hS := hS k3 hb1 hb2 h4 hb3
 refine Run.go rfl rfl rfl (sem_assign (Value.nilFunc) rfl ?_)
 refine Run.region_end ?_
 refine Run.seq ?_
 refine Run.ops0 (idx := [0, 1]) rfl ?_
 refine Run.go rfl rfl rfl (sem_makeFuncL [] [(Value.pointer (some ⟨k3, 0, none⟩))] rfl rfl ?_)
 refine Run.go rfl rfl rfl (sem_assign ((Value.func (.func 121) #[] #[(Value.pointer (some ⟨k3, 0, none⟩))])) rfl ?_)
 refine Run.region_end ?_
 refine Run.ret ⟨.inr rfl, ?_⟩
 exact hS.imp fun h' hq => ⟨(Value.func (.func 121) #[] #[(Value.pointer (some ⟨k3, 0, none⟩))]), rfl, hq⟩
end Go.Proofs.Ytcncdfmnpmmikaa.H
