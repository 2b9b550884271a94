/- The functions do what they ask for. No condition. -/
import Derived.Test.YthloobpjkeodgaaXfS
namespace Go.Proofs.Ythloobpjkeodgaa.H
open Go
set_option linter.unusedVariables false
set_option maxRecDepth 100000

set_option maxHeartbeats 4000000 in
theorem C_cursor_is.of {B : RO} {i1 : Int} {h : Heap} {Q : Bool → Heap → Prop} (hS : S_cursor_is B i1 h Q) : C_cursor_is B i1 h Q := by
 unfold S_cursor_is at hS
 unfold C_cursor_is
 refine Spec.of_run Try.func123 (N := 9) (rs := [ResultVar.tmp 2]) rfl rfl rfl (Nat.le_of_ble_eq_true rfl) ?_
 refine Run.seq ?_
 refine Run.ops0 (idx := [0]) rfl ?_
 refine Run.go rfl rfl rfl (sem_assign ((Value.bool false)) rfl ?_)
 refine Run.region_end ?_
 refine Run.seq ?_
 refine Run.ops0 (idx := [0, 1, 2, 3, 4, 5, 6]) rfl ?_
 refine Run.go rfl rfl rfl (sem_move ((Value.int .i64 (i1))) rfl ?_)
 obtain ⟨hT, hF⟩ := hS
 by_cases hb3 : (i1 : Int) ≥ (0)
 ·have hS := hT hb3; clear hT hF
  refine Run.go rfl rfl rfl (sem_binI .i64 (i1) (0) (.bool true) rfl rfl (binI_geq_t hb3) ?_)
  refine Run.go rfl rfl rfl (sem_move ((Value.bool true)) rfl ?_)
  refine Run.go rfl rfl rfl (sem_move ((Value.int .i64 (i1))) rfl ?_)
  refine Run.go rfl rfl rfl (sem_binI .i64 (i1) (3) ((Value.bool (decide ((i1 : Int) < (3))))) rfl rfl rfl ?_)
  refine Run.go rfl rfl rfl (sem_pick true ((Value.bool (decide ((i1 : Int) < (3))))) rfl rfl ?_)
  refine Run.go rfl rfl rfl (sem_assign ((Value.bool (decide ((i1 : Int) < (3))))) rfl ?_)
  refine Run.region_end ?_
  refine Run.ret ⟨.inr rfl, ?_⟩
  exact hS.imp fun h' hq => ⟨((decide ((i1 : Int) < (3)))), rfl, hq⟩
 ·have hS := hF hb3; clear hT hF
  refine Run.go rfl rfl rfl (sem_binI .i64 (i1) (0) (.bool false) rfl rfl (binI_geq_f hb3) ?_)
  refine Run.go rfl rfl rfl (sem_move ((Value.bool false)) rfl ?_)
  refine Run.no rfl rfl rfl ?_
  refine Run.no rfl rfl rfl ?_
  refine Run.go rfl rfl rfl (sem_pick false ((Value.bool false)) rfl rfl ?_)
  refine Run.go rfl rfl rfl (sem_assign ((Value.bool false)) rfl ?_)
  refine Run.region_end ?_
  refine Run.ret ⟨.inr rfl, ?_⟩
  exact hS.imp fun h' hq => ⟨(false), rfl, hq⟩
set_option maxHeartbeats 4000000 in
theorem C_mark_State_Copy.of {B : RO} {p1 : Option Addr} {p2 : Option Addr} {p3 : Option Addr} {i4 : Int} {i5 : Int} {i6 : Int} {i7 : Int} {h : Heap} {Q : Option Addr → Option Addr → Option Addr → Int → Int → Int → Int → Heap → Prop} (hS : S_mark_State_Copy B p1 p2 p3 i4 i5 i6 i7 h Q) : C_mark_State_Copy B p1 p2 p3 i4 i5 i6 i7 h Q := by
 unfold S_mark_State_Copy at hS
 unfold C_mark_State_Copy
 refine Spec.of_run Try.func124 (N := 15) (rs := [ResultVar.cell 2 140]) rfl rfl rfl (Nat.le_of_ble_eq_true rfl) ?_
 refine Run.seq ?_
 refine Run.ops0 (idx := [0, 1]) rfl ?_
 refine Run.go rfl rfl rfl (sem_boxNN [(Value.pointer p1), (Value.pointer p2), (Value.pointer p3), (Value.int .i64 (i4)), (Value.int .i64 (i5)), (Value.int .i64 (i6)), (Value.int .i64 (i7))] rfl (fun k15 hb1 hb2 h16 hb3 => ?_))
 have hS := hS k15 hb1 hb2 h16 hb3
 refine Run.go rfl rfl rfl (sem_allocN [(Value.pointer none), (Value.pointer none), (Value.pointer none), (Value.int .i64 (0)), (Value.int .i64 (0)), (Value.int .i64 (0)), (Value.int .i64 (0))] TF.zero_140 (fun k17 hb1 hb2 h18 hb3 => ?_))
 have hS := hS k17 hb1 hb2 h18 hb3
 refine Run.region_end ?_
 refine Run.seq ?_
 skip
 obtain ⟨p20, hl, hS⟩ := hS
 have f21 := hl
 skip
 obtain ⟨p23, hl, hS⟩ := hS
 have f24 := hl
 skip
 obtain ⟨p26, hl, hS⟩ := hS
 have f27 := hl
 skip
 obtain ⟨i29, i30, i31, i32, hl, hS⟩ := hS
 have f33 := hl
 refine Run.drawM (fun h' => cellH B h' ⟨k15, 0, none⟩ = some (Value.pointer p20) ∧ cellH B h' ⟨k15, 1, none⟩ = some (Value.pointer p23) ∧ cellH B h' ⟨k15, 2, none⟩ = some (Value.pointer p26) ∧ CellsAt B h' ⟨k15, 3, none⟩ 0 [(Value.int .i64 (i29)), (Value.int .i64 (i30)), (Value.int .i64 (i31)), (Value.int .i64 (i32))] ∧ True) [12] ⟨[0, 1, 2, 0, 8, 20, 0, 64, 160, 0, 512, 1316, 4095], [8191, 8190, 8189, 8191, 8183, 8175, 8191, 8127, 8063, 8191, 7679, 6875, 6143], [0, 1, 3, 0, 8, 31, 0, 64, 255, 0, 512, 2047, 4095], 4096⟩ (.q 0 (.q 1 (.q 3 (.q 4 (.q 6 (.q 7 (.q 9 (.q 10 (.x 2 (.x 5 (.x 8 (.q 11 (.x 12 .nil .no)) .no) .no) .no))))))))) TF.mixed (by kernel_rfl) ⟨f21, f24, f27, f33, trivial⟩ ?_
 refine RunT.quiet rfl rfl rfl (fun h' hC => sem_fieldAddr ⟨k15, 0, none⟩ 0 rfl TF.fld_140_0 ⟨rfl, rfl⟩) ?_
 refine RunT.quiet rfl rfl rfl (fun h' hC => sem_load1 ⟨k15, 0, none⟩ ((Value.pointer p20)) rfl TF.agg_135 hC.1 ⟨rfl, rfl⟩) ?_
 refine RunT.quiet rfl rfl rfl (fun h' hC => sem_fieldAddr ⟨k15, 0, none⟩ 1 rfl TF.fld_140_1 ⟨rfl, rfl⟩) ?_
 refine RunT.quiet rfl rfl rfl (fun h' hC => sem_load1 ⟨k15, 1, none⟩ ((Value.pointer p23)) rfl TF.agg_136 hC.2.1 ⟨rfl, rfl⟩) ?_
 refine RunT.quiet rfl rfl rfl (fun h' hC => sem_fieldAddr ⟨k15, 0, none⟩ 2 rfl TF.fld_140_2 ⟨rfl, rfl⟩) ?_
 refine RunT.quiet rfl rfl rfl (fun h' hC => sem_load1 ⟨k15, 2, none⟩ ((Value.pointer p26)) rfl TF.agg_137 hC.2.2.1 ⟨rfl, rfl⟩) ?_
 refine RunT.quiet rfl rfl rfl (fun h' hC => sem_fieldAddr ⟨k15, 0, none⟩ 3 rfl TF.fld_140_3 ⟨rfl, rfl⟩) ?_
 refine RunT.quiet rfl rfl rfl (fun h' hC => sem_loadN ⟨k15, 3, none⟩ [(Value.int .i64 (i29)), (Value.int .i64 (i30)), (Value.int .i64 (i31)), (Value.int .i64 (i32))] rfl TF.agg_138 TF.sz_138 hC.2.2.2.1 ⟨rfl, rfl⟩) ?_
 refine ⟨?_, trivial⟩
 refine OpH.go rfl rfl rfl (sem_callL [(Value.pointer p20)] (TF.goes_154) rfl rfl (Spec.mono hS fun v h34 hv => ?_))
 obtain ⟨p35, rfl, hS⟩ := hv
 obtain ⟨g36, g37, g38, g39, hS⟩ := hS
 refine ⟨fun _ => ⟨g36, g37, g38, g39, trivial⟩, ?_⟩
 refine ⟨?_, trivial⟩
 refine OpH.go rfl rfl rfl (sem_callL [(Value.pointer p23)] (TF.goes_155) rfl rfl (Spec.mono hS fun v h40 hv => ?_))
 obtain ⟨p41, rfl, hS⟩ := hv
 obtain ⟨g42, g43, g44, g45, hS⟩ := hS
 refine ⟨fun _ => ⟨g42, g43, g44, g45, trivial⟩, ?_⟩
 refine ⟨?_, trivial⟩
 refine OpH.go rfl rfl rfl (sem_callL [(Value.pointer p26)] (TF.goes_156) rfl rfl (Spec.mono hS fun v h46 hv => ?_))
 obtain ⟨p47, rfl, hS⟩ := hv
 obtain ⟨g48, g49, g50, g51, hS⟩ := hS
 refine ⟨fun _ => ⟨g48, g49, g50, g51, trivial⟩, ?_⟩
 refine RunT.quiet rfl rfl rfl (fun h' hC => sem_buildSL [(0, (Value.pointer p35)), (1, (Value.pointer p41)), (2, (Value.pointer p47)), (3, (Value.agg #[(Value.int .i64 (i29)), (Value.int .i64 (i30)), (Value.int .i64 (i31)), (Value.int .i64 (i32))]))] [(Value.pointer p35), (Value.pointer p41), (Value.pointer p47), (Value.int .i64 (i29)), (Value.int .i64 (i30)), (Value.int .i64 (i31)), (Value.int .i64 (i32))] TF.zero_140 TF.places_140 rfl rfl ⟨rfl, rfl⟩) ?_
 refine ⟨?_, trivial⟩
 obtain ⟨h52, hst, hS⟩ := hS
 refine OpH.go rfl rfl rfl (sem_storeN ⟨k17, 0, none⟩ [(Value.pointer p35), (Value.pointer p41), (Value.pointer p47), (Value.int .i64 (i29)), (Value.int .i64 (i30)), (Value.int .i64 (i31)), (Value.int .i64 (i32))] h52 rfl rfl TF.sz_140 hst ?_)
 refine ⟨fun hz => Bool.noConfusion hz, ?_⟩
 obtain ⟨p53, p54, p55, i56, i57, i58, i59, hl0, hS⟩ := hS
 refine Run.ret ⟨.inr rfl, ?_⟩
 exact ⟨⟨k17, 0, none⟩, (Value.agg #[(Value.pointer p53), (Value.pointer p54), (Value.pointer p55), (Value.int .i64 (i56)), (Value.int .i64 (i57)), (Value.int .i64 (i58)), (Value.int .i64 (i59))]), rfl, loadHN TF.agg_140 TF.sz_140 hl0, hS.imp fun h' hq => ⟨p53, p54, p55, (i56), (i57), (i58), (i59), rfl, hq⟩⟩
set_option maxHeartbeats 4000000 in
theorem C_slices_Delete_s_mark_Mark_mark_Mark.of {B : RO} {a1 : Option Addr} {n2 : Nat} {c3 : Nat} {i4 : Int} {i5 : Int} {h : Heap} {Q : Option Addr → Nat → Nat → Heap → Prop} (hS : S_slices_Delete_s_mark_Mark_mark_Mark B a1 n2 c3 i4 i5 h Q) : C_slices_Delete_s_mark_Mark_mark_Mark B a1 n2 c3 i4 i5 h Q := by
 unfold S_slices_Delete_s_mark_Mark_mark_Mark at hS
 unfold C_slices_Delete_s_mark_Mark_mark_Mark
 refine Spec.of_run Try.func125 (N := 33) (rs := [ResultVar.tmp 6]) rfl rfl rfl (Nat.le_of_ble_eq_true rfl) ?_
 refine Run.seq ?_
 refine Run.ops0 (idx := [0]) rfl ?_
 refine Run.go rfl rfl rfl (sem_assign ((Value.slice none 0 0)) rfl ?_)
 refine Run.region_end ?_
 refine Run.seq ?_
 refine Run.ops0 (idx := [0, 1, 2, 3, 4, 5]) rfl ?_
 refine Run.go rfl rfl rfl (sem_move ((Value.slice a1 n2 c3)) rfl ?_)
 refine Run.go rfl rfl rfl (sem_move ((Value.int .i64 (i4))) rfl ?_)
 refine Run.go rfl rfl rfl (sem_move ((Value.int .i64 (i5))) rfl ?_)
 refine Run.go rfl rfl rfl (sem_move ((Value.slice a1 n2 c3)) rfl ?_)
 refine Run.go rfl rfl rfl (sem_lenSl a1 n2 c3 rfl TF.sl_132 ?_)
 obtain ⟨hi0, hi1, hi2, hi3, hS⟩ := hS
 refine Run.go rfl rfl rfl (sem_slice3L a1 n2 c3 (i4) (i5) ((n2 : Nat)) .i64 .i64 .i64 rfl TF.slc_132 rfl rfl rfl hi0 hi1 hi2 hi3 ?_)
 refine Run.region_end ?_
 refine Run.seq ?_
 refine Run.seq ?_
 refine Run.ops0 (idx := [0, 1, 2]) rfl ?_
 refine Run.go rfl rfl rfl (sem_move ((Value.int .i64 (i4))) rfl ?_)
 refine Run.go rfl rfl rfl (sem_move ((Value.int .i64 (i5))) rfl ?_)
 obtain ⟨hT, hF⟩ := hS
 by_cases hb9 : (i4 : Int) = i5
 ·have hS := hT hb9; clear hT hF
  refine Run.go rfl rfl rfl (sem_binI .i64 (i4) (i5) (.bool true) rfl rfl (binI_eql_t hb9) ?_)
  refine Run.region_end ?_
  refine Run.condT rfl ?_
  refine Run.seq ?_
  refine Run.ops0 (idx := [0, 1]) rfl ?_
  refine Run.go rfl rfl rfl (sem_move ((Value.slice a1 n2 c3)) rfl ?_)
  refine Run.go rfl rfl rfl (sem_assign ((Value.slice a1 n2 c3)) rfl ?_)
  refine Run.region_end ?_
  refine Run.ret ⟨.inr rfl, ?_⟩
  exact hS.imp fun h' hq => ⟨a1, n2, c3, rfl, hq⟩
 ·have hS := hF hb9; clear hT hF
  refine Run.go rfl rfl rfl (sem_binI .i64 (i4) (i5) (.bool false) rfl rfl (binI_eql_f hb9) ?_)
  refine Run.region_end ?_
  refine Run.condF rfl ?_
  refine Run.skip ?_
  refine Run.seq ?_
  refine Run.ops0 (idx := [0, 1, 2]) rfl ?_
  refine Run.go rfl rfl rfl (sem_move ((Value.slice a1 n2 c3)) rfl ?_)
  refine Run.go rfl rfl rfl (sem_lenSl a1 n2 c3 rfl TF.sl_132 ?_)
  refine Run.go rfl rfl rfl (sem_assign ((Value.int .i64 ((n2 : Nat)))) rfl ?_)
  refine Run.region_end ?_
  refine Run.seq ?_
  skip
  skip
  obtain ⟨hi0, hi1, hi2, hS⟩ := hS
  have f13 := hi0; have f14 := hi1; have f15 := hi2
  skip
  skip
  obtain ⟨hi0, hi1, hi2, hS⟩ := hS
  have f19 := hi0; have f20 := hi1; have f21 := hi2
  refine Run.drawM (fun h' => True) [] ⟨[0, 0, 3, 0, 0, 24, 36, 127], [255, 255, 252, 255, 255, 231, 219, 182], [0, 0, 0, 0, 0, 0, 0, 0], 0⟩ (.q 0 (.q 1 (.q 2 (.q 3 (.q 4 (.q 5 (.x 6 (.q 7 .nil) .no))))))) TF.mixed (by kernel_rfl) trivial ?_
  refine RunT.quiet rfl rfl rfl (fun h' hC => sem_move ((Value.slice a1 n2 c3)) rfl ⟨rfl, rfl⟩) ?_
  refine RunT.quiet rfl rfl rfl (fun h' hC => sem_move ((Value.int .i64 (i4))) rfl ⟨rfl, rfl⟩) ?_
  refine RunT.quiet rfl rfl rfl (fun h' hC => sem_sliceSlI a1 n2 c3 (0) (i4) rfl TF.slc_132 rfl ⟨_, rfl⟩ f13 f14 f15 ⟨rfl, rfl⟩) ?_
  refine RunT.quiet rfl rfl rfl (fun h' hC => sem_move ((Value.slice a1 n2 c3)) rfl ⟨rfl, rfl⟩) ?_
  refine RunT.quiet rfl rfl rfl (fun h' hC => sem_move ((Value.int .i64 (i5))) rfl ⟨rfl, rfl⟩) ?_
  refine RunT.quiet rfl rfl rfl (fun h' hC => sem_sliceSlI a1 n2 c3 (i5) ((n2 : Nat)) rfl TF.slc_132 ⟨_, rfl⟩ rfl f19 f20 f21 ⟨rfl, rfl⟩) ?_
  refine ⟨?_, trivial⟩
  refine OpH.go rfl rfl rfl (sem_appendL [(Value.slice (if c3 = Int.toNat (0) then a1 else Option.map (·.add (Int.toNat (0) * 12)) a1) (Int.toNat (i4) - Int.toNat (0)) (c3 - Int.toNat (0))), (Value.slice (if c3 = Int.toNat (i5) then a1 else Option.map (·.add (Int.toNat (i5) * 12)) a1) (Int.toNat ((n2 : Nat)) - Int.toNat (i5)) (c3 - Int.toNat (i5)))] rfl (semH_mono (fun v h22 hv => ?_) hS))
  obtain ⟨a23, n24, c25, rfl, hS⟩ := hv
  refine ⟨fun _ => trivial, ?_⟩
  refine RunT.quiet rfl rfl rfl (fun h' hC => sem_assign ((Value.slice a23 n24 c25)) rfl ⟨rfl, rfl⟩) ?_
  refine Run.seq ?_
  refine Run.ops0 (idx := [0, 1, 2, 3, 4, 5]) rfl ?_
  refine Run.go rfl rfl rfl (sem_move ((Value.slice a23 n24 c25)) rfl ?_)
  refine Run.go rfl rfl rfl (sem_move ((Value.slice a23 n24 c25)) rfl ?_)
  refine Run.go rfl rfl rfl (sem_lenSl a23 n24 c25 rfl TF.sl_132 ?_)
  refine Run.go rfl rfl rfl (sem_move ((Value.int .i64 ((n2 : Nat)))) rfl ?_)
  obtain ⟨hi0, hi1, hi2, hS⟩ := hS
  refine Run.go rfl rfl rfl (sem_sliceSlI a23 n24 c25 ((n24 : Nat)) ((n2 : Nat)) rfl TF.slc_132 ⟨_, rfl⟩ ⟨_, rfl⟩ hi0 hi1 hi2 ?_)
  refine Run.go rfl rfl rfl (sem_clearL [(Value.slice (if c25 = Int.toNat ((n24 : Nat)) then a23 else Option.map (·.add (Int.toNat ((n24 : Nat)) * 12)) a23) (Int.toNat ((n2 : Nat)) - Int.toNat ((n24 : Nat))) (c25 - Int.toNat ((n24 : Nat))))] rfl (semH_mono (fun v h26 hv => ?_) hS))
  obtain ⟨rfl, hS⟩ := hv
  refine Run.region_end ?_
  refine Run.seq ?_
  refine Run.ops0 (idx := [0, 1]) rfl ?_
  refine Run.go rfl rfl rfl (sem_move ((Value.slice a23 n24 c25)) rfl ?_)
  refine Run.go rfl rfl rfl (sem_assign ((Value.slice a23 n24 c25)) rfl ?_)
  refine Run.region_end ?_
  refine Run.ret ⟨.inr rfl, ?_⟩
  exact hS.imp fun h' hq => ⟨a23, n24, c25, rfl, hq⟩
set_option maxHeartbeats 4000000 in
theorem C_countermandref13_Numbers.of {B : RO} {a1 : Option Addr} {n2 : Nat} {c3 : Nat} {h : Heap} {Q : Option Addr → Nat → Nat → Heap → Prop} (hS : S_countermandref13_Numbers B a1 n2 c3 h Q) : C_countermandref13_Numbers B a1 n2 c3 h Q := by
 unfold S_countermandref13_Numbers at hS
 unfold C_countermandref13_Numbers
 refine Spec.of_run Try.func126 (N := 56) (rs := [ResultVar.tmp 2]) rfl rfl rfl (Nat.le_of_ble_eq_true rfl) ?_
 refine Run.seq ?_
 refine Run.ops0 (idx := [0]) rfl ?_
 refine Run.go rfl rfl rfl (sem_assign ((Value.slice none 0 0)) rfl ?_)
 refine Run.region_end ?_
 refine Run.seq ?_
 refine Run.ops0 (idx := [0]) rfl ?_
 refine Run.go rfl rfl rfl (sem_assign ((Value.slice none 0 0)) rfl ?_)
 refine Run.region_end ?_
 refine Run.seq ?_
 refine Run.seq ?_
 refine Run.ops0 (idx := [0, 1, 2]) rfl ?_
 refine Run.go rfl rfl rfl (sem_move ((Value.slice a1 n2 c3)) rfl ?_)
 refine Run.go rfl rfl rfl (sem_lenSl a1 n2 c3 rfl TF.sl_142 ?_)
 refine Run.go rfl rfl rfl (sem_move ((Value.int .i64 (0))) rfl ?_)
 refine Run.region_end ?_
 refine Run.block ?_
 obtain ⟨J15, m13, h0, hS⟩ := hS
 refine Run.of_fin (h0.imp fun h' h0 => ?_)
 refine Run.loop (σ := (Option Addr) × Nat × Nat × Int × Nat) (fun x e h => J15 x.1 x.2.1 x.2.2.1 x.2.2.2.1 x.2.2.2.2 h ∧ Agree [(3, (Value.slice x.1 x.2.1 x.2.2.1)), (7, (Value.slice a1 n2 c3)), (8, (Value.int .i64 ((n2 : Nat)))), (9, (Value.int .i64 (x.2.2.2.1)))] e) (fun x => x.2.2.2.2) (none, 0, 0, (0), m13) ⟨h0, ⟨rfl, rfl, rfl, rfl, trivial⟩⟩ ?_; clear h0
 rintro ⟨a7, n8, c9, i10, m12⟩ e h11 ⟨hJ, hag⟩ ih14
 have hS := hS a7 n8 c9 i10 m12 h11 hJ; clear hJ
 refine Run.env hag ?_; clear hag
 refine Run.seq ?_
 refine Run.ops0 (idx := [0]) rfl ?_
 obtain ⟨hT, hF⟩ := hS
 by_cases hb16 : (i10 : Int) < ((n2 : Nat))
 ·have hS := hT hb16; clear hT hF
  refine Run.go rfl rfl rfl (sem_binI .i64 (i10) ((n2 : Nat)) (.bool true) rfl rfl (binI_lss_t hb16) ?_)
  refine Run.region_end ?_
  refine Run.seq ?_
  refine Run.condT rfl ?_
  refine Run.skip ?_
  refine Run.seq ?_
  refine Run.block ?_
  refine Run.seq ?_
  refine Run.ops0 (idx := [0, 1, 2, 3]) rfl ?_
  obtain ⟨A17, e18, hi0, hi1, hS⟩ := hS
  refine Run.go rfl rfl rfl (sem_indexAddrS A17 n2 c3 .i64 (i10) (congrArg (fun a => Value.slice a n2 c3) e18) rfl TF.slc_142 hi0 hi1 ?_)
  obtain ⟨i19, i20, hl, hS⟩ := hS
  refine Run.go rfl rfl rfl (sem_loadN (Addr.add A17 (Int.toNat (i10) * 2)) [(Value.int .i64 (i19)), (Value.int .i64 (i20))] rfl TF.agg_148 TF.sz_148 hl ?_)
  refine Run.go rfl rfl rfl (sem_allocN [(Value.int .i64 (0)), (Value.int .i64 (0))] TF.zero_148 (fun k21 hb1 hb2 h22 hb3 => ?_))
  have hS := hS k21 hb1 hb2 h22 hb3
  obtain ⟨h23, hst, hS⟩ := hS
  refine Run.go rfl rfl rfl (sem_storeN ⟨k21, 0, none⟩ [(Value.int .i64 (i19)), (Value.int .i64 (i20))] h23 rfl rfl TF.sz_148 hst ?_)
  refine Run.region_end ?_
  refine Run.seq ?_
  refine Run.ops0 (idx := [0]) rfl ?_
  refine Run.go rfl rfl rfl (sem_assign ((Value.int .i64 (0))) rfl ?_)
  refine Run.region_end ?_
  refine Run.seqJ (fun e h26 => ∃ i25 : Int, Agree [(3, (Value.slice a7 n8 c9)), (5, (Value.pointer (some ⟨k21, 0, none⟩))), (6, (Value.int .i64 (i25))), (7, (Value.slice a1 n2 c3)), (8, (Value.int .i64 ((n2 : Nat)))), (9, (Value.int .i64 (i10)))] e ∧ S_countermandref13_Numbers_J1 B a1 n2 c3 a7 n8 c9 i10 m12 J15 k21 i25 h26 Q) ?_ fun j24 => ?_
  ·rintro e h26 ⟨i25, hag, hS⟩
   refine Run.env hag ?_; clear hag
   refine Run.seqJ (fun e h29 => ∃ b28 : Bool, Agree [(3, (Value.slice a7 n8 c9)), (5, (Value.pointer (some ⟨k21, 0, none⟩))), (6, (Value.int .i64 (i25))), (7, (Value.slice a1 n2 c3)), (8, (Value.int .i64 ((n2 : Nat)))), (9, (Value.int .i64 (i10))), (40, (Value.bool b28))] e ∧ S_countermandref13_Numbers_J2 B a1 n2 c3 a7 n8 c9 i10 m12 J15 k21 i25 b28 h29 Q) ?_ fun j27 => ?_
   ·rintro e h29 ⟨b28, hag, hS⟩
    refine Run.env hag ?_; clear hag
    obtain ⟨hT, hF⟩ := hS
    cases b28
    ·have hS := hF rfl; clear hT hF
     refine Run.condF rfl ?_
     refine Run.skip ?_
     refine Run.inBlock ?_
     refine Run.ops0 (idx := [0, 1]) rfl ?_
     refine Run.go rfl rfl rfl (sem_binI .i64 (i10) (1) ((Value.int .i64 (IntKind.wrap .i64 ((i10) + (1))))) rfl rfl rfl ?_)
     refine Run.go rfl rfl rfl (sem_move ((Value.int .i64 (IntKind.wrap .i64 ((i10) + (1))))) rfl ?_)
     refine Run.region_end ?_
     exact Run.of_fin (hS.imp fun h' ⟨m', hm, hS⟩ => ih14 (a7, n8, c9, (IntKind.wrap .i64 ((i10) + (1))), m') _ _ ⟨hS, ⟨rfl, rfl, rfl, rfl, trivial⟩⟩ hm)
    ·have hS := hT rfl; clear hT hF
     refine Run.condT rfl ?_
     skip
     skip
     obtain ⟨hi0, hi1, hi2, hS⟩ := hS
     have f33 := hi0; have f34 := hi1; have f35 := hi2
     skip
     obtain ⟨i37, hl, hS⟩ := hS
     have f38 := hl
     skip
     skip
     obtain ⟨hi0, hi1, hi2, hS⟩ := hS
     have f42 := hi0; have f43 := hi1; have f44 := hi2
     refine Run.drawM (fun h' => cellH B h' ⟨k21, 0, none⟩ = some (Value.int .i64 (i37)) ∧ True) [] ⟨[0, 0, 0, 6, 9, 0, 32, 64, 144, 0, 0, 1536, 2304, 8191], [16383, 16383, 16383, 16377, 16374, 16383, 16351, 16319, 16239, 16383, 16383, 14847, 14079, 11773], [0, 0, 0, 0, 0, 0, 0, 0, 0, 0, 0, 0, 0, 0], 0⟩ (.q 1 (.q 2 (.q 3 (.q 5 (.q 6 (.q 9 (.q 10 (.q 11 (.x 0 (.x 4 (.x 7 (.x 8 (.x 12 (.q 13 .nil) .no) .no) .no) (.x 7 (.x 4 (.x 8 (.x 12 (.q 13 .nil) .no) .no) .no) .no)) (.x 7 (.x 0 (.x 4 (.x 8 (.x 12 (.q 13 .nil) .no) .no) .no) .no) .no)))))))))) TF.mixed (by kernel_rfl) ⟨f38, trivial⟩ ?_
     refine RunT.quiet rfl rfl rfl (fun h' hC => sem_move ((Value.slice a7 n8 c9)) rfl ⟨rfl, rfl⟩) ?_
     refine RunT.quiet rfl rfl rfl (fun h' hC => sem_move ((Value.int .i64 (i25))) rfl ⟨rfl, rfl⟩) ?_
     refine RunT.quiet rfl rfl rfl (fun h' hC => sem_sliceSlI a7 n8 c9 (0) (i25) rfl TF.slc_26 rfl ⟨_, rfl⟩ f33 f34 f35 ⟨rfl, rfl⟩) ?_
     refine RunT.quiet rfl rfl rfl (fun h' hC => sem_fieldAddr ⟨k21, 0, none⟩ 0 rfl TF.fld_148_0 ⟨rfl, rfl⟩) ?_
     refine RunT.quiet rfl rfl rfl (fun h' hC => sem_load1 ⟨k21, 0, none⟩ ((Value.int .i64 (i37))) rfl TF.agg_3 hC.1 ⟨rfl, rfl⟩) ?_
     refine RunT.quiet rfl rfl rfl (fun h' hC => sem_move ((Value.slice a7 n8 c9)) rfl ⟨rfl, rfl⟩) ?_
     refine RunT.quiet rfl rfl rfl (fun h' hC => sem_move ((Value.int .i64 (i25))) rfl ⟨rfl, rfl⟩) ?_
     refine RunT.quiet rfl rfl rfl (fun h' hC => sem_sliceSlI a7 n8 c9 (i25) ((n8 : Nat)) rfl TF.slc_26 ⟨_, rfl⟩ rfl f42 f43 f44 ⟨rfl, rfl⟩) ?_
     refine RunT.joinJ (t := (.x 8 (.x 12 (.q 13 .nil) .no) .no)) (fun e h82 => ∃ a76 : Option Addr, ∃ n77 : Nat, ∃ c78 : Nat, ∃ a79 : Option Addr, ∃ n80 : Nat, ∃ c81 : Nat, Agree [(3, (Value.slice a7 n8 c9)), (7, (Value.slice a1 n2 c3)), (8, (Value.int .i64 ((n2 : Nat)))), (9, (Value.int .i64 (i10))), (45, (Value.slice a76 n77 c78)), (48, (Value.slice a79 n80 c81)), (52, (Value.slice (if c9 = Int.toNat (i25) then a7 else Option.map (·.add (Int.toNat (i25) * 1)) a7) (Int.toNat ((n8 : Nat)) - Int.toNat (i25)) (c9 - Int.toNat (i25))))] e ∧ cellH B h82 ⟨k21, 0, none⟩ = some (Value.int .i64 (i37)) ∧ S_countermandref13_Numbers_J3 B a1 n2 c3 a7 n8 c9 i10 m12 J15 k21 i25 i37 a76 n77 c78 a79 n80 c81 h82 Q) ?_ fun j75 => ?_
     ·rintro e h82 ⟨a76, n77, c78, a79, n80, c81, hag, g83, hS⟩
      refine RunT.env hag ?_; clear hag
      refine ⟨?_, trivial⟩
      refine OpH.go rfl rfl rfl (sem_appendL [(Value.slice a76 n77 c78), (Value.slice a79 n80 c81)] rfl (semH_mono (fun v h84 hv => ?_) hS))
      obtain ⟨a85, n86, c87, rfl, hS⟩ := hv
      obtain ⟨g88, hS⟩ := hS
      refine ⟨fun _ => ⟨g88, trivial⟩, ?_⟩
      refine ⟨?_, trivial⟩
      refine OpH.go rfl rfl rfl (sem_appendL [(Value.slice a85 n86 c87), (Value.slice (if c9 = Int.toNat (i25) then a7 else Option.map (·.add (Int.toNat (i25) * 1)) a7) (Int.toNat ((n8 : Nat)) - Int.toNat (i25)) (c9 - Int.toNat (i25)))] rfl (semH_mono (fun v h89 hv => ?_) hS))
      obtain ⟨a90, n91, c92, rfl, hS⟩ := hv
      obtain ⟨g93, hS⟩ := hS
      refine ⟨fun _ => ⟨g93, trivial⟩, ?_⟩
      refine RunT.quiet rfl rfl rfl (fun h' hC => sem_assign ((Value.slice a90 n91 c92)) rfl ⟨rfl, rfl⟩) ?_
      refine Run.inBlock ?_
      refine Run.ops0 (idx := [0, 1]) rfl ?_
      refine Run.go rfl rfl rfl (sem_binI .i64 (i10) (1) ((Value.int .i64 (IntKind.wrap .i64 ((i10) + (1))))) rfl rfl rfl ?_)
      refine Run.go rfl rfl rfl (sem_move ((Value.int .i64 (IntKind.wrap .i64 ((i10) + (1))))) rfl ?_)
      refine Run.region_end ?_
      exact Run.of_fin (hS.imp fun h' ⟨m', hm, hS⟩ => ih14 (a90, n91, c92, (IntKind.wrap .i64 ((i10) + (1))), m') _ _ ⟨hS, ⟨rfl, rfl, rfl, rfl, trivial⟩⟩ hm)
     refine ⟨?_, ?_, trivial⟩
     ·have hS := hS.1
      refine OpH.go rfl rfl rfl (sem_buildSlice0N TF.slc_26 (fun k94 hb1 hb2 h95 hb3 => ?_))
      have hS := hS k94 hb1 hb2 h95 hb3
      obtain ⟨g96, hS⟩ := hS
      refine ⟨fun _ => ⟨g96, trivial⟩, ?_⟩
      refine ⟨?_, ?_, trivial⟩
      ·have hS := hS.1
       refine OpH.go rfl rfl rfl (sem_appendL [(Value.slice (some ⟨k94, 0, none⟩) 0 0), (Value.slice (if c9 = Int.toNat (0) then a7 else Option.map (·.add (Int.toNat (0) * 1)) a7) (Int.toNat (i25) - Int.toNat (0)) (c9 - Int.toNat (0)))] rfl (semH_mono (fun v h97 hv => ?_) hS))
       obtain ⟨a98, n99, c100, rfl, hS⟩ := hv
       obtain ⟨g101, hS⟩ := hS
       refine ⟨fun _ => ⟨g101, trivial⟩, ?_⟩
       refine ⟨?_, trivial⟩
       refine OpH.go rfl rfl rfl (sem_buildSliceL [(0, (Value.int .i64 (i37)))] [(Value.int .i64 (i37))] TF.slc_26 TF.zero_3 rfl (by decide) (by decide) rfl rfl (fun k102 hb1 hb2 h103 hb3 => ?_))
       have hS := hS k102 hb1 hb2 h103 hb3
       obtain ⟨g104, hS⟩ := hS
       refine ⟨fun _ => ⟨g104, trivial⟩, ?_⟩
       exact j75 _ _ ⟨a98, n99, c100, (some ⟨k102, 0, none⟩), 1, 1, ⟨rfl, rfl, rfl, rfl, rfl, rfl, rfl, trivial⟩, g104, hS⟩
      ·have hS := hS.2
       refine OpH.go rfl rfl rfl (sem_buildSliceL [(0, (Value.int .i64 (i37)))] [(Value.int .i64 (i37))] TF.slc_26 TF.zero_3 rfl (by decide) (by decide) rfl rfl (fun k105 hb1 hb2 h106 hb3 => ?_))
       have hS := hS k105 hb1 hb2 h106 hb3
       obtain ⟨g107, hS⟩ := hS
       refine ⟨fun _ => ⟨g107, trivial⟩, ?_⟩
       refine ⟨?_, trivial⟩
       refine OpH.go rfl rfl rfl (sem_appendL [(Value.slice (some ⟨k94, 0, none⟩) 0 0), (Value.slice (if c9 = Int.toNat (0) then a7 else Option.map (·.add (Int.toNat (0) * 1)) a7) (Int.toNat (i25) - Int.toNat (0)) (c9 - Int.toNat (0)))] rfl (semH_mono (fun v h108 hv => ?_) hS))
       obtain ⟨a109, n110, c111, rfl, hS⟩ := hv
       obtain ⟨g112, hS⟩ := hS
       refine ⟨fun _ => ⟨g112, trivial⟩, ?_⟩
       exact j75 _ _ ⟨a109, n110, c111, (some ⟨k105, 0, none⟩), 1, 1, ⟨rfl, rfl, rfl, rfl, rfl, rfl, rfl, trivial⟩, g112, hS⟩
     ·have hS := hS.2
      refine OpH.go rfl rfl rfl (sem_buildSliceL [(0, (Value.int .i64 (i37)))] [(Value.int .i64 (i37))] TF.slc_26 TF.zero_3 rfl (by decide) (by decide) rfl rfl (fun k113 hb1 hb2 h114 hb3 => ?_))
      have hS := hS k113 hb1 hb2 h114 hb3
      obtain ⟨g115, hS⟩ := hS
      refine ⟨fun _ => ⟨g115, trivial⟩, ?_⟩
      refine ⟨?_, trivial⟩
      refine OpH.go rfl rfl rfl (sem_buildSlice0N TF.slc_26 (fun k116 hb1 hb2 h117 hb3 => ?_))
      have hS := hS k116 hb1 hb2 h117 hb3
      obtain ⟨g118, hS⟩ := hS
      refine ⟨fun _ => ⟨g118, trivial⟩, ?_⟩
      refine ⟨?_, trivial⟩
      refine OpH.go rfl rfl rfl (sem_appendL [(Value.slice (some ⟨k116, 0, none⟩) 0 0), (Value.slice (if c9 = Int.toNat (0) then a7 else Option.map (·.add (Int.toNat (0) * 1)) a7) (Int.toNat (i25) - Int.toNat (0)) (c9 - Int.toNat (0)))] rfl (semH_mono (fun v h119 hv => ?_) hS))
      obtain ⟨a120, n121, c122, rfl, hS⟩ := hv
      obtain ⟨g123, hS⟩ := hS
      refine ⟨fun _ => ⟨g123, trivial⟩, ?_⟩
      exact j75 _ _ ⟨a120, n121, c122, (some ⟨k113, 0, none⟩), 1, 1, ⟨rfl, rfl, rfl, rfl, rfl, rfl, rfl, trivial⟩, g123, hS⟩
   refine Run.drawM (fun h' => h' = h26) [] ⟨[0, 0, 2, 5, 8, 16, 16, 112, 144, 16, 528, 1296, 2064], [8191, 8191, 8189, 8186, 8183, 8175, 8175, 8079, 8047, 8175, 7663, 6895, 6127], [0, 0, 0, 0, 0, 0, 0, 0, 0, 0, 0, 0, 0], 0⟩ (.q 0 (.q 1 (.q 2 (.q 3 (.q 4 (.q 5 (.q 6 (.q 7 (.q 8 (.q 9 (.q 10 (.q 11 (.q 12 .nil))))))))))))) TF.mixed (by kernel_rfl) rfl ?_
   refine RunT.quiet rfl rfl rfl (quiet_eq (sem_move ((Value.int .i64 (i25))) rfl ⟨rfl, rfl⟩)) ?_
   refine RunT.quiet rfl rfl rfl (quiet_eq (sem_move ((Value.slice a7 n8 c9)) rfl ⟨rfl, rfl⟩)) ?_
   refine RunT.quiet rfl rfl rfl (quiet_eq (sem_lenSl a7 n8 c9 rfl TF.sl_26 ⟨rfl, rfl⟩)) ?_
   obtain ⟨hT, hF⟩ := hS
   by_cases hb124 : (i25 : Int) = (n8 : Nat)
   ·have hS := hT hb124; clear hT hF
    refine RunT.quiet rfl rfl rfl (quiet_eq (sem_binI .i64 (i25) ((n8 : Nat)) (.bool true) rfl rfl (binI_eql_t hb124) ⟨rfl, rfl⟩)) ?_
    refine RunT.quiet rfl rfl rfl (quiet_eq (sem_move ((Value.bool true)) rfl ⟨rfl, rfl⟩)) ?_
    refine RunT.skip rfl rfl rfl ?_
    refine RunT.skip rfl rfl rfl ?_
    refine RunT.skip rfl rfl rfl ?_
    refine RunT.skip rfl rfl rfl ?_
    refine RunT.skip rfl rfl rfl ?_
    refine RunT.skip rfl rfl rfl ?_
    refine RunT.skip rfl rfl rfl ?_
    refine RunT.quiet rfl rfl rfl (quiet_eq (sem_pick true ((Value.bool true)) rfl rfl ⟨rfl, rfl⟩)) ?_
    exact Run.of_fin (hS.imp fun h' hS => j27 _ _ ⟨(true), ⟨rfl, rfl, rfl, rfl, rfl, rfl, rfl, trivial⟩, hS⟩)
   ·have hS := hF hb124; clear hT hF
    refine RunT.quiet rfl rfl rfl (quiet_eq (sem_binI .i64 (i25) ((n8 : Nat)) (.bool false) rfl rfl (binI_eql_f hb124) ⟨rfl, rfl⟩)) ?_
    refine RunT.quiet rfl rfl rfl (quiet_eq (sem_move ((Value.bool false)) rfl ⟨rfl, rfl⟩)) ?_
    refine RunT.quiet rfl rfl rfl (quiet_eq (sem_move ((Value.slice a7 n8 c9)) rfl ⟨rfl, rfl⟩)) ?_
    refine RunT.quiet rfl rfl rfl (quiet_eq (sem_move ((Value.int .i64 (i25))) rfl ⟨rfl, rfl⟩)) ?_
    obtain ⟨A125, e126, hi0, hi1, hS⟩ := hS
    refine RunT.quiet rfl rfl rfl (quiet_eq (sem_indexAddrS A125 n8 c9 .i64 (i25) (congrArg (fun a => Value.slice a n8 c9) e126) rfl TF.slc_26 hi0 hi1 ⟨rfl, rfl⟩)) ?_
    obtain ⟨i127, hl, hS⟩ := hS
    refine RunT.quiet rfl rfl rfl (quiet_eq (sem_load1 (Addr.add A125 (Int.toNat (i25) * 1)) ((Value.int .i64 (i127))) rfl TF.agg_3 hl ⟨rfl, rfl⟩)) ?_
    refine RunT.quiet rfl rfl rfl (quiet_eq (sem_fieldAddr ⟨k21, 0, none⟩ 0 rfl TF.fld_148_0 ⟨rfl, rfl⟩)) ?_
    obtain ⟨i128, hl, hS⟩ := hS
    refine RunT.quiet rfl rfl rfl (quiet_eq (sem_load1 ⟨k21, 0, none⟩ ((Value.int .i64 (i128))) rfl TF.agg_3 hl ⟨rfl, rfl⟩)) ?_
    obtain ⟨hT, hF⟩ := hS
    by_cases hb129 : (i127 : Int) = i128
    ·have hS := hT hb129; clear hT hF
     refine RunT.quiet rfl rfl rfl (quiet_eq (sem_binI .i64 (i127) (i128) (.bool false) rfl rfl (binI_neq_t hb129) ⟨rfl, rfl⟩)) ?_
     refine RunT.quiet rfl rfl rfl (quiet_eq (sem_pick false ((Value.bool false)) rfl rfl ⟨rfl, rfl⟩)) ?_
     exact Run.of_fin (hS.imp fun h' hS => j27 _ _ ⟨(false), ⟨rfl, rfl, rfl, rfl, rfl, rfl, rfl, trivial⟩, hS⟩)
    ·have hS := hF hb129; clear hT hF
     refine RunT.quiet rfl rfl rfl (quiet_eq (sem_binI .i64 (i127) (i128) (.bool true) rfl rfl (binI_neq_f hb129) ⟨rfl, rfl⟩)) ?_
     refine RunT.quiet rfl rfl rfl (quiet_eq (sem_pick false ((Value.bool true)) rfl rfl ⟨rfl, rfl⟩)) ?_
     exact Run.of_fin (hS.imp fun h' hS => j27 _ _ ⟨(true), ⟨rfl, rfl, rfl, rfl, rfl, rfl, rfl, trivial⟩, hS⟩)
  refine Run.block ?_
  obtain ⟨J135, m133, h0, hS⟩ := hS
  refine Run.of_fin (h0.imp fun h' h0 => ?_)
  refine Run.loop (σ := Int × Nat) (fun x e h => J135 x.1 x.2 h ∧ Agree [(3, (Value.slice a7 n8 c9)), (5, (Value.pointer (some ⟨k21, 0, none⟩))), (6, (Value.int .i64 (x.1))), (7, (Value.slice a1 n2 c3)), (8, (Value.int .i64 ((n2 : Nat)))), (9, (Value.int .i64 (i10)))] e) (fun x => x.2) ((0), m133) ⟨h0, ⟨rfl, rfl, rfl, rfl, rfl, rfl, trivial⟩⟩ ?_; clear h0
  rintro ⟨i130, m132⟩ e h131 ⟨hJ, hag⟩ ih134
  have hS := hS i130 m132 h131 hJ; clear hJ
  refine Run.env hag ?_; clear hag
  refine Run.seq ?_
  refine Run.seq ?_
  refine Run.drawM (fun h' => h' = h131) [] ⟨[0, 0, 2, 5, 8, 16, 16, 112, 144, 16, 528, 1296, 2064], [8191, 8191, 8189, 8186, 8183, 8175, 8175, 8079, 8047, 8175, 7663, 6895, 6127], [0, 0, 0, 0, 0, 0, 0, 0, 0, 0, 0, 0, 0], 0⟩ (.q 0 (.q 1 (.q 2 (.q 3 (.q 4 (.q 5 (.q 6 (.q 7 (.q 8 (.q 9 (.q 10 (.q 11 (.q 12 .nil))))))))))))) TF.mixed (by kernel_rfl) rfl ?_
  refine RunT.quiet rfl rfl rfl (quiet_eq (sem_move ((Value.int .i64 (i130))) rfl ⟨rfl, rfl⟩)) ?_
  refine RunT.quiet rfl rfl rfl (quiet_eq (sem_move ((Value.slice a7 n8 c9)) rfl ⟨rfl, rfl⟩)) ?_
  refine RunT.quiet rfl rfl rfl (quiet_eq (sem_lenSl a7 n8 c9 rfl TF.sl_26 ⟨rfl, rfl⟩)) ?_
  obtain ⟨hT, hF⟩ := hS
  by_cases hb136 : (i130 : Int) < ((n8 : Nat))
  ·have hS := hT hb136; clear hT hF
   refine RunT.quiet rfl rfl rfl (quiet_eq (sem_binI .i64 (i130) ((n8 : Nat)) (.bool true) rfl rfl (binI_lss_t hb136) ⟨rfl, rfl⟩)) ?_
   refine RunT.quiet rfl rfl rfl (quiet_eq (sem_move ((Value.bool true)) rfl ⟨rfl, rfl⟩)) ?_
   refine RunT.quiet rfl rfl rfl (quiet_eq (sem_move ((Value.slice a7 n8 c9)) rfl ⟨rfl, rfl⟩)) ?_
   refine RunT.quiet rfl rfl rfl (quiet_eq (sem_move ((Value.int .i64 (i130))) rfl ⟨rfl, rfl⟩)) ?_
   obtain ⟨A137, e138, hi0, hi1, hS⟩ := hS
   refine RunT.quiet rfl rfl rfl (quiet_eq (sem_indexAddrS A137 n8 c9 .i64 (i130) (congrArg (fun a => Value.slice a n8 c9) e138) rfl TF.slc_26 hi0 hi1 ⟨rfl, rfl⟩)) ?_
   obtain ⟨i139, hl, hS⟩ := hS
   refine RunT.quiet rfl rfl rfl (quiet_eq (sem_load1 (Addr.add A137 (Int.toNat (i130) * 1)) ((Value.int .i64 (i139))) rfl TF.agg_3 hl ⟨rfl, rfl⟩)) ?_
   refine RunT.quiet rfl rfl rfl (quiet_eq (sem_fieldAddr ⟨k21, 0, none⟩ 0 rfl TF.fld_148_0 ⟨rfl, rfl⟩)) ?_
   obtain ⟨i140, hl, hS⟩ := hS
   refine RunT.quiet rfl rfl rfl (quiet_eq (sem_load1 ⟨k21, 0, none⟩ ((Value.int .i64 (i140))) rfl TF.agg_3 hl ⟨rfl, rfl⟩)) ?_
   obtain ⟨hT, hF⟩ := hS
   by_cases hb141 : (i139 : Int) < (i140)
   ·have hS := hT hb141; clear hT hF
    refine RunT.quiet rfl rfl rfl (quiet_eq (sem_binI .i64 (i139) (i140) (.bool true) rfl rfl (binI_lss_t hb141) ⟨rfl, rfl⟩)) ?_
    refine RunT.quiet rfl rfl rfl (quiet_eq (sem_pick true ((Value.bool true)) rfl rfl ⟨rfl, rfl⟩)) ?_
    refine Run.condT rfl ?_
    refine Run.skip ?_
    refine Run.block ?_
    refine Run.ops0 (idx := [0, 1, 2]) rfl ?_
    refine Run.go rfl rfl rfl (sem_move ((Value.int .i64 (i130))) rfl ?_)
    refine Run.go rfl rfl rfl (sem_binI .i64 (i130) (1) ((Value.int .i64 (IntKind.wrap .i64 ((i130) + (1))))) rfl rfl rfl ?_)
    refine Run.go rfl rfl rfl (sem_assign ((Value.int .i64 (IntKind.wrap .i64 ((i130) + (1))))) rfl ?_)
    refine Run.region_end ?_
    refine Run.inBlock ?_
    exact Run.of_fin (hS.imp fun h' ⟨m', hm, hS⟩ => ih134 ((IntKind.wrap .i64 ((i130) + (1))), m') _ _ ⟨hS, ⟨rfl, rfl, rfl, rfl, rfl, rfl, trivial⟩⟩ hm)
   ·have hS := hF hb141; clear hT hF
    refine RunT.quiet rfl rfl rfl (quiet_eq (sem_binI .i64 (i139) (i140) (.bool false) rfl rfl (binI_lss_f hb141) ⟨rfl, rfl⟩)) ?_
    refine RunT.quiet rfl rfl rfl (quiet_eq (sem_pick true ((Value.bool false)) rfl rfl ⟨rfl, rfl⟩)) ?_
    refine Run.condF rfl ?_
    refine Run.exit rfl ?_
    exact Run.of_fin (hS.imp fun h' hS => j24 _ _ ⟨(i130), ⟨rfl, rfl, rfl, rfl, rfl, rfl, trivial⟩, hS⟩)
  ·have hS := hF hb136; clear hT hF
   refine RunT.quiet rfl rfl rfl (quiet_eq (sem_binI .i64 (i130) ((n8 : Nat)) (.bool false) rfl rfl (binI_lss_f hb136) ⟨rfl, rfl⟩)) ?_
   refine RunT.quiet rfl rfl rfl (quiet_eq (sem_move ((Value.bool false)) rfl ⟨rfl, rfl⟩)) ?_
   refine RunT.skip rfl rfl rfl ?_
   refine RunT.skip rfl rfl rfl ?_
   refine RunT.skip rfl rfl rfl ?_
   refine RunT.skip rfl rfl rfl ?_
   refine RunT.skip rfl rfl rfl ?_
   refine RunT.skip rfl rfl rfl ?_
   refine RunT.skip rfl rfl rfl ?_
   refine RunT.quiet rfl rfl rfl (quiet_eq (sem_pick false ((Value.bool false)) rfl rfl ⟨rfl, rfl⟩)) ?_
   refine Run.condF rfl ?_
   refine Run.exit rfl ?_
   exact Run.of_fin (hS.imp fun h' hS => j24 _ _ ⟨(i130), ⟨rfl, rfl, rfl, rfl, rfl, rfl, trivial⟩, hS⟩)
 ·have hS := hF hb16; clear hT hF
  refine Run.go rfl rfl rfl (sem_binI .i64 (i10) ((n2 : Nat)) (.bool false) rfl rfl (binI_lss_f hb16) ?_)
  refine Run.region_end ?_
  refine Run.seq ?_
  refine Run.condF rfl ?_
  refine Run.exit rfl ?_
  refine Run.seq ?_
  refine Run.ops0 (idx := [0, 1]) rfl ?_
  refine Run.go rfl rfl rfl (sem_move ((Value.slice a7 n8 c9)) rfl ?_)
  refine Run.go rfl rfl rfl (sem_assign ((Value.slice a7 n8 c9)) rfl ?_)
  refine Run.region_end ?_
  refine Run.ret ⟨.inr rfl, ?_⟩
  exact hS.imp fun h' hq => ⟨a7, n8, c9, rfl, hq⟩
set_option maxHeartbeats 4000000 in
theorem C_draft_Draft_int_All.of {B : RO} {p1 : Option Addr} {h : Heap} {Q : Value → Heap → Prop} (hS : S_draft_Draft_int_All B p1 h Q) : C_draft_Draft_int_All B p1 h Q := by
 unfold S_draft_Draft_int_All at hS
 unfold C_draft_Draft_int_All
 refine Spec.of_run Try.func127 (N := 4) (rs := [ResultVar.tmp 2]) rfl rfl rfl (Nat.le_of_ble_eq_true rfl) ?_
 refine Run.seq ?_
 refine Run.ops0 (idx := [0, 1]) rfl ?_
 refine Run.go rfl rfl rfl (sem_box1N ((Value.pointer p1)) rfl rfl (fun k3 hb1 hb2 h4 hb3 => ?_))
 have hS := hS k3 hb1 hb2 h4 hb3
 refine Run.go rfl rfl rfl (sem_assign (Value.nilFunc) rfl ?_)
 refine Run.region_end ?_
 refine Run.seq ?_
 refine Run.ops0 (idx := [0, 1]) rfl ?_
 refine Run.go rfl rfl rfl (sem_makeFuncL [] [(Value.pointer (some ⟨k3, 0, none⟩))] rfl rfl ?_)
 refine Run.go rfl rfl rfl (sem_assign ((Value.func (.func 157) #[] #[(Value.pointer (some ⟨k3, 0, none⟩))])) rfl ?_)
 refine Run.region_end ?_
 refine Run.ret ⟨.inr rfl, ?_⟩
 exact hS.imp fun h' hq => ⟨(Value.func (.func 157) #[] #[(Value.pointer (some ⟨k3, 0, none⟩))]), rfl, hq⟩
set_option maxHeartbeats 4000000 in
theorem C_countermandref13_Get.of {B : RO} {a1 : Option Addr} {n2 : Nat} {c3 : Nat} {i4 : Int} {h : Heap} {Q : Int → Bool → Heap → Prop} (hS : S_countermandref13_Get B a1 n2 c3 i4 h Q) : C_countermandref13_Get B a1 n2 c3 i4 h Q := by
 unfold S_countermandref13_Get at hS
 unfold C_countermandref13_Get
 refine Spec.of_run Try.func128 (N := 26) (rs := [ResultVar.tmp 4, ResultVar.tmp 5]) rfl rfl rfl (Nat.le_of_ble_eq_true rfl) ?_
 refine Run.seq ?_
 refine Run.ops0 (idx := [0, 1]) rfl ?_
 refine Run.go rfl rfl rfl (sem_assign ((Value.int .i64 (0))) rfl ?_)
 refine Run.go rfl rfl rfl (sem_assign ((Value.bool false)) rfl ?_)
 refine Run.region_end ?_
 refine Run.seq ?_
 refine Run.seq ?_
 refine Run.ops0 (idx := [0, 1, 2, 3]) rfl ?_
 refine Run.go rfl rfl rfl (sem_move ((Value.slice a1 n2 c3)) rfl ?_)
 refine Run.go rfl rfl rfl (sem_lenSl a1 n2 c3 rfl TF.sl_142 ?_)
 refine Run.go rfl rfl rfl (sem_binI .i64 ((n2 : Nat)) (1) ((Value.int .i64 (IntKind.wrap .i64 (((n2 : Nat)) - (1))))) rfl rfl rfl ?_)
 refine Run.go rfl rfl rfl (sem_assign ((Value.int .i64 (IntKind.wrap .i64 (((n2 : Nat)) - (1))))) rfl ?_)
 refine Run.region_end ?_
 refine Run.block ?_
 obtain ⟨J12, m10, h0, hS⟩ := hS
 refine Run.of_fin (h0.imp fun h' h0 => ?_)
 refine Run.loop (σ := Int × Nat) (fun x e h => J12 x.1 x.2 h ∧ Agree [(0, (Value.slice a1 n2 c3)), (1, (Value.int .i64 (i4))), (6, (Value.int .i64 (x.1)))] e) (fun x => x.2) ((IntKind.wrap .i64 (((n2 : Nat)) - (1))), m10) ⟨h0, ⟨rfl, rfl, rfl, trivial⟩⟩ ?_; clear h0
 rintro ⟨i7, m9⟩ e h8 ⟨hJ, hag⟩ ih11
 have hS := hS i7 m9 h8 hJ; clear hJ
 refine Run.env hag ?_; clear hag
 refine Run.seq ?_
 refine Run.seq ?_
 refine Run.ops0 (idx := [0, 1]) rfl ?_
 refine Run.go rfl rfl rfl (sem_move ((Value.int .i64 (i7))) rfl ?_)
 obtain ⟨hT, hF⟩ := hS
 by_cases hb13 : (i7 : Int) ≥ (0)
 ·have hS := hT hb13; clear hT hF
  refine Run.go rfl rfl rfl (sem_binI .i64 (i7) (0) (.bool true) rfl rfl (binI_geq_t hb13) ?_)
  refine Run.region_end ?_
  refine Run.condT rfl ?_
  refine Run.skip ?_
  refine Run.seq ?_
  refine Run.block ?_
  refine Run.seq ?_
  refine Run.ops0 (idx := [0, 1, 2, 3, 4, 5, 6]) rfl ?_
  refine Run.go rfl rfl rfl (sem_move ((Value.slice a1 n2 c3)) rfl ?_)
  refine Run.go rfl rfl rfl (sem_move ((Value.int .i64 (i7))) rfl ?_)
  obtain ⟨A14, e15, hi0, hi1, hS⟩ := hS
  refine Run.go rfl rfl rfl (sem_indexAddrS A14 n2 c3 .i64 (i7) (congrArg (fun a => Value.slice a n2 c3) e15) rfl TF.slc_142 hi0 hi1 ?_)
  refine Run.go rfl rfl rfl (sem_fieldAddr (Addr.add A14 (Int.toNat (i7) * 2)) 0 rfl TF.fld_148_0 ?_)
  obtain ⟨i16, hl, hS⟩ := hS
  refine Run.go rfl rfl rfl (sem_load1 (Addr.add A14 (Int.toNat (i7) * 2)) ((Value.int .i64 (i16))) rfl TF.agg_3 hl ?_)
  refine Run.go rfl rfl rfl (sem_move ((Value.int .i64 (i4))) rfl ?_)
  obtain ⟨hT, hF⟩ := hS
  by_cases hb17 : (i16 : Int) = i4
  ·have hS := hT hb17; clear hT hF
   refine Run.go rfl rfl rfl (sem_binI .i64 (i16) (i4) (.bool true) rfl rfl (binI_eql_t hb17) ?_)
   refine Run.region_end ?_
   refine Run.condT rfl ?_
   refine Run.seq ?_
   refine Run.ops0 (idx := [0, 1, 2, 3, 4, 5, 6]) rfl ?_
   refine Run.go rfl rfl rfl (sem_move ((Value.slice a1 n2 c3)) rfl ?_)
   refine Run.go rfl rfl rfl (sem_move ((Value.int .i64 (i7))) rfl ?_)
   obtain ⟨A18, e19, hi0, hi1, hS⟩ := hS
   refine Run.go rfl rfl rfl (sem_indexAddrS A18 n2 c3 .i64 (i7) (congrArg (fun a => Value.slice a n2 c3) e19) rfl TF.slc_142 hi0 hi1 ?_)
   refine Run.go rfl rfl rfl (sem_fieldAddr (Addr.add A18 (Int.toNat (i7) * 2)) 1 rfl TF.fld_148_1 ?_)
   obtain ⟨i20, hl, hS⟩ := hS
   refine Run.go rfl rfl rfl (sem_load1 (Addr.add (Addr.add A18 (Int.toNat (i7) * 2)) 1) ((Value.int .i64 (i20))) rfl TF.agg_3 hl ?_)
   refine Run.go rfl rfl rfl (sem_assign ((Value.int .i64 (i20))) rfl ?_)
   refine Run.go rfl rfl rfl (sem_assign ((Value.bool true)) rfl ?_)
   refine Run.region_end ?_
   refine Run.ret ⟨.inr rfl, ?_⟩
   exact hS.imp fun h' hq => ⟨(i20), (true), rfl, hq⟩
  ·have hS := hF hb17; clear hT hF
   refine Run.go rfl rfl rfl (sem_binI .i64 (i16) (i4) (.bool false) rfl rfl (binI_eql_f hb17) ?_)
   refine Run.region_end ?_
   refine Run.condF rfl ?_
   refine Run.skip ?_
   refine Run.inBlock ?_
   refine Run.ops0 (idx := [0, 1, 2]) rfl ?_
   refine Run.go rfl rfl rfl (sem_move ((Value.int .i64 (i7))) rfl ?_)
   refine Run.go rfl rfl rfl (sem_binI .i64 (i7) (1) ((Value.int .i64 (IntKind.wrap .i64 ((i7) - (1))))) rfl rfl rfl ?_)
   refine Run.go rfl rfl rfl (sem_assign ((Value.int .i64 (IntKind.wrap .i64 ((i7) - (1))))) rfl ?_)
   refine Run.region_end ?_
   exact Run.of_fin (hS.imp fun h' ⟨m', hm, hS⟩ => ih11 ((IntKind.wrap .i64 ((i7) - (1))), m') _ _ ⟨hS, ⟨rfl, rfl, rfl, trivial⟩⟩ hm)
 ·have hS := hF hb13; clear hT hF
  refine Run.go rfl rfl rfl (sem_binI .i64 (i7) (0) (.bool false) rfl rfl (binI_geq_f hb13) ?_)
  refine Run.region_end ?_
  refine Run.condF rfl ?_
  refine Run.exit rfl ?_
  refine Run.seq ?_
  refine Run.ops0 (idx := [0, 1]) rfl ?_
  refine Run.go rfl rfl rfl (sem_assign ((Value.int .i64 (0))) rfl ?_)
  refine Run.go rfl rfl rfl (sem_assign ((Value.bool false)) rfl ?_)
  refine Run.region_end ?_
  refine Run.ret ⟨.inr rfl, ?_⟩
  exact hS.imp fun h' hq => ⟨(0), (false), rfl, hq⟩
set_option maxHeartbeats 4000000 in
theorem C_cursor_Cursor_Read.of {B : RO} {p1 : Option Addr} {i2 : Int} {h : Heap} {Q : Int → Heap → Prop} (hS : S_cursor_Cursor_Read B p1 i2 h Q) : C_cursor_Cursor_Read B p1 i2 h Q := by
 unfold S_cursor_Cursor_Read at hS
 unfold C_cursor_Cursor_Read
 refine Spec.of_run Try.func129 (N := 18) (rs := [ResultVar.tmp 4]) rfl rfl rfl (Nat.le_of_ble_eq_true rfl) ?_
 refine Run.seq ?_
 refine Run.ops0 (idx := [0]) rfl ?_
 refine Run.go rfl rfl rfl (sem_assign ((Value.int .i64 (0))) rfl ?_)
 refine Run.region_end ?_
 refine Run.seqJ (fun e h5 => Agree [(0, (Value.pointer p1)), (1, (Value.int .i64 (i2)))] e ∧ S_cursor_Cursor_Read_J1 B p1 i2 h5 Q) ?_ fun j4 => ?_
 ·rintro e h5 ⟨hag, hS⟩
  refine Run.env hag ?_; clear hag
  refine Run.seq ?_
  refine Run.ops0 (idx := [0, 1, 2, 3, 4, 5, 6]) rfl ?_
  refine Run.go rfl rfl rfl (sem_move ((Value.pointer p1)) rfl ?_)
  refine Run.go rfl rfl rfl (sem_move ((Value.int .i64 (i2))) rfl ?_)
  obtain ⟨A6, e7, hS⟩ := hS
  refine Run.go rfl rfl rfl (sem_nilCheck A6 (congrArg Value.pointer e7) ?_)
  refine Run.go rfl rfl rfl (sem_fieldAddr A6 0 rfl TF.fld_224_0 ?_)
  obtain ⟨hi0, hi1, hS⟩ := hS
  refine Run.go rfl rfl rfl (sem_indexAddrA A6 .i64 (i2) rfl rfl TF.arr_222 hi0 hi1 ?_)
  obtain ⟨i8, hl, hS⟩ := hS
  refine Run.go rfl rfl rfl (sem_load1 (Addr.add A6 (Int.toNat (i2) * 1)) ((Value.int .i64 (i8))) rfl TF.agg_3 hl ?_)
  refine Run.go rfl rfl rfl (sem_assign ((Value.int .i64 (i8))) rfl ?_)
  refine Run.region_end ?_
  refine Run.ret ⟨.inr rfl, ?_⟩
  exact hS.imp fun h' hq => ⟨(i8), rfl, hq⟩
 refine Run.seq ?_
 refine Run.ops0 (idx := [0, 1, 2, 3, 4, 5, 6]) rfl ?_
 refine Run.go rfl rfl rfl (sem_move ((Value.pointer p1)) rfl ?_)
 obtain ⟨hT, hF⟩ := hS
 by_cases hb9 : p1 = none
 ·have hS := hT hb9; clear hT hF
  refine Run.go rfl rfl rfl (sem_ptrNilT p1 (.inl rfl) true rfl rfl TF.ptr_137 hb9 rfl ?_)
  refine Run.go rfl rfl rfl (sem_move ((Value.bool true)) rfl ?_)
  refine Run.no rfl rfl rfl ?_
  refine Run.no rfl rfl rfl ?_
  refine Run.no rfl rfl rfl ?_
  refine Run.go rfl rfl rfl (sem_pick true ((Value.bool true)) rfl rfl ?_)
  refine Run.region_end ?_
  refine Run.condT rfl ?_
  refine Run.seq ?_
  refine Run.ops0 (idx := [0]) rfl ?_
  refine Run.go rfl rfl rfl (sem_assign ((Value.int .i64 (0))) rfl ?_)
  refine Run.region_end ?_
  refine Run.ret ⟨.inr rfl, ?_⟩
  exact hS.imp fun h' hq => ⟨(0), rfl, hq⟩
 ·have hS := hF hb9; clear hT hF
  refine Run.go rfl rfl rfl (sem_ptrNilF p1 (.inl rfl) false rfl rfl TF.ptr_137 hb9 rfl ?_)
  refine Run.go rfl rfl rfl (sem_move ((Value.bool false)) rfl ?_)
  refine Run.go rfl rfl rfl (sem_move ((Value.int .i64 (i2))) rfl ?_)
  refine Run.go rfl rfl rfl (sem_callL [(Value.int .i64 (i2))] (TF.goes_123) rfl rfl (Spec.mono hS fun v h10 hv => ?_))
  obtain ⟨b11, rfl, hS⟩ := hv
  obtain ⟨hT, hF⟩ := hS
  cases b11
  ·have hS := hF rfl; clear hT hF
   refine Run.go rfl rfl rfl (sem_not false rfl ?_)
   refine Run.go rfl rfl rfl (sem_pick false ((Value.bool true)) rfl rfl ?_)
   refine Run.region_end ?_
   refine Run.condT rfl ?_
   refine Run.seq ?_
   refine Run.ops0 (idx := [0]) rfl ?_
   refine Run.go rfl rfl rfl (sem_assign ((Value.int .i64 (0))) rfl ?_)
   refine Run.region_end ?_
   refine Run.ret ⟨.inr rfl, ?_⟩
   exact hS.imp fun h' hq => ⟨(0), rfl, hq⟩
  ·have hS := hT rfl; clear hT hF
   refine Run.go rfl rfl rfl (sem_not true rfl ?_)
   refine Run.go rfl rfl rfl (sem_pick false ((Value.bool false)) rfl rfl ?_)
   refine Run.region_end ?_
   refine Run.condF rfl ?_
   refine Run.skip ?_
   exact Run.of_fin (hS.imp fun h' hS => j4 _ _ ⟨⟨rfl, rfl, trivial⟩, hS⟩)
set_option maxHeartbeats 4000000 in
theorem C_slices_BinarySearchFunc_s_draft_entry_int_draft_entry_int_int.of {B : RO} {a1 : Option Addr} {n2 : Nat} {c3 : Nat} {i4 : Int} {v5 : Value} {h : Heap} {Q : Int → Bool → Heap → Prop} (hS : S_slices_BinarySearchFunc_s_draft_entry_int_draft_entry_int_int B a1 n2 c3 i4 v5 h Q) : C_slices_BinarySearchFunc_s_draft_entry_int_draft_entry_int_int B a1 n2 c3 i4 v5 h Q := by
 unfold S_slices_BinarySearchFunc_s_draft_entry_int_draft_entry_int_int at hS
 unfold C_slices_BinarySearchFunc_s_draft_entry_int_draft_entry_int_int
 refine Spec.of_run Try.func150 (N := 49) (rs := [ResultVar.tmp 6, ResultVar.tmp 7]) rfl rfl rfl (Nat.le_of_ble_eq_true rfl) ?_
 refine Run.seq ?_
 refine Run.ops0 (idx := [0, 1]) rfl ?_
 refine Run.go rfl rfl rfl (sem_assign ((Value.int .i64 (0))) rfl ?_)
 refine Run.go rfl rfl rfl (sem_assign ((Value.bool false)) rfl ?_)
 refine Run.region_end ?_
 refine Run.seq ?_
 refine Run.ops0 (idx := [0, 1, 2]) rfl ?_
 refine Run.go rfl rfl rfl (sem_move ((Value.slice a1 n2 c3)) rfl ?_)
 refine Run.go rfl rfl rfl (sem_lenSl a1 n2 c3 rfl TF.sl_218 ?_)
 refine Run.go rfl rfl rfl (sem_assign ((Value.int .i64 ((n2 : Nat)))) rfl ?_)
 refine Run.region_end ?_
 refine Run.seq ?_
 refine Run.ops0 (idx := [0, 1, 2]) rfl ?_
 refine Run.go rfl rfl rfl (sem_move ((Value.int .i64 ((n2 : Nat)))) rfl ?_)
 refine Run.go rfl rfl rfl (sem_assign ((Value.int .i64 (0))) rfl ?_)
 refine Run.go rfl rfl rfl (sem_assign ((Value.int .i64 ((n2 : Nat)))) rfl ?_)
 refine Run.region_end ?_
 refine Run.seqJ (fun e h10 => ∃ i9 : Int, Agree [(0, (Value.slice a1 n2 c3)), (1, (Value.int .i64 (i4))), (2, v5), (8, (Value.int .i64 ((n2 : Nat)))), (9, (Value.int .i64 (i9)))] e ∧ S_slices_BinarySearchFunc_s_draft_entry_int_draft_entry_int_int_J1 B a1 n2 c3 i4 v5 i9 h10 Q) ?_ fun j8 => ?_
 ·rintro e h10 ⟨i9, hag, hS⟩
  refine Run.env hag ?_; clear hag
  refine Run.seq ?_
  refine Run.ops0 (idx := [0, 1, 2, 3, 4, 5, 6, 7, 8, 9, 10, 11, 12, 13, 14, 15]) rfl ?_
  refine Run.go rfl rfl rfl (sem_move ((Value.int .i64 (i9))) rfl ?_)
  refine Run.go rfl rfl rfl (sem_move ((Value.int .i64 (i9))) rfl ?_)
  refine Run.go rfl rfl rfl (sem_move ((Value.int .i64 ((n2 : Nat)))) rfl ?_)
  obtain ⟨hT, hF⟩ := hS
  by_cases hb11 : (i9 : Int) < ((n2 : Nat))
  ·have hS := hT hb11; clear hT hF
   refine Run.go rfl rfl rfl (sem_binI .i64 (i9) ((n2 : Nat)) (.bool true) rfl rfl (binI_lss_t hb11) ?_)
   refine Run.go rfl rfl rfl (sem_move ((Value.bool true)) rfl ?_)
   refine Run.go rfl rfl rfl (sem_move (v5) rfl ?_)
   refine Run.go rfl rfl rfl (sem_move ((Value.slice a1 n2 c3)) rfl ?_)
   refine Run.go rfl rfl rfl (sem_move ((Value.int .i64 (i9))) rfl ?_)
   obtain ⟨A12, e13, hi0, hi1, hS⟩ := hS
   refine Run.go rfl rfl rfl (sem_indexAddrS A12 n2 c3 .i64 (i9) (congrArg (fun a => Value.slice a n2 c3) e13) rfl TF.slc_218 hi0 hi1 ?_)
   obtain ⟨i14, i15, hl, hS⟩ := hS
   refine Run.go rfl rfl rfl (sem_loadN (Addr.add A12 (Int.toNat (i9) * 2)) [(Value.int .i64 (i14)), (Value.int .i64 (i15))] rfl TF.agg_228 TF.sz_228 hl ?_)
   refine Run.go rfl rfl rfl (sem_move ((Value.int .i64 (i4))) rfl ?_)
   refine Run.go rfl rfl rfl (sem_callV (v5) [(Value.agg #[(Value.int .i64 (i14)), (Value.int .i64 (i15))]), (Value.int .i64 (i4))] rfl rfl hS (fun nx h' ha => ha.mono fun v h16 hv => ?_))
   obtain ⟨i17, rfl, hS⟩ := hv
   refine Run.go rfl rfl rfl (sem_binI .i64 (i17) (0) ((Value.bool ((i17 : Int) == (0)))) rfl rfl rfl ?_)
   refine Run.go rfl rfl rfl (sem_pick true ((Value.bool ((i17 : Int) == (0)))) rfl rfl ?_)
   refine Run.go rfl rfl rfl (sem_assign ((Value.int .i64 (i9))) rfl ?_)
   refine Run.go rfl rfl rfl (sem_assign ((Value.bool ((i17 : Int) == (0)))) rfl ?_)
   refine Run.region_end ?_
   refine Run.ret ⟨.inr rfl, ?_⟩
   exact hS.imp fun h' hq => ⟨(i9), (((i17 : Int) == (0))), rfl, hq⟩
  ·have hS := hF hb11; clear hT hF
   refine Run.go rfl rfl rfl (sem_binI .i64 (i9) ((n2 : Nat)) (.bool false) rfl rfl (binI_lss_f hb11) ?_)
   refine Run.go rfl rfl rfl (sem_move ((Value.bool false)) rfl ?_)
   refine Run.no rfl rfl rfl ?_
   refine Run.no rfl rfl rfl ?_
   refine Run.no rfl rfl rfl ?_
   refine Run.no rfl rfl rfl ?_
   refine Run.no rfl rfl rfl ?_
   refine Run.no rfl rfl rfl ?_
   refine Run.no rfl rfl rfl ?_
   refine Run.no rfl rfl rfl ?_
   refine Run.go rfl rfl rfl (sem_pick false ((Value.bool false)) rfl rfl ?_)
   refine Run.go rfl rfl rfl (sem_assign ((Value.int .i64 (i9))) rfl ?_)
   refine Run.go rfl rfl rfl (sem_assign ((Value.bool false)) rfl ?_)
   refine Run.region_end ?_
   refine Run.ret ⟨.inr rfl, ?_⟩
   exact hS.imp fun h' hq => ⟨(i9), (false), rfl, hq⟩
 refine Run.block ?_
 obtain ⟨J24, m22, h0, hS⟩ := hS
 refine Run.of_fin (h0.imp fun h' h0 => ?_)
 refine Run.loop (σ := Int × Int × Nat) (fun x e h => J24 x.1 x.2.1 x.2.2 h ∧ Agree [(0, (Value.slice a1 n2 c3)), (1, (Value.int .i64 (i4))), (2, v5), (8, (Value.int .i64 ((n2 : Nat)))), (9, (Value.int .i64 (x.1))), (10, (Value.int .i64 (x.2.1)))] e) (fun x => x.2.2) ((0), ((n2 : Nat)), m22) ⟨h0, ⟨rfl, rfl, rfl, rfl, rfl, rfl, trivial⟩⟩ ?_; clear h0
 rintro ⟨i18, i19, m21⟩ e h20 ⟨hJ, hag⟩ ih23
 have hS := hS i18 i19 m21 h20 hJ; clear hJ
 refine Run.env hag ?_; clear hag
 refine Run.seq ?_
 refine Run.seq ?_
 refine Run.ops0 (idx := [0, 1, 2]) rfl ?_
 refine Run.go rfl rfl rfl (sem_move ((Value.int .i64 (i18))) rfl ?_)
 refine Run.go rfl rfl rfl (sem_move ((Value.int .i64 (i19))) rfl ?_)
 obtain ⟨hT, hF⟩ := hS
 by_cases hb25 : (i18 : Int) < (i19)
 ·have hS := hT hb25; clear hT hF
  refine Run.go rfl rfl rfl (sem_binI .i64 (i18) (i19) (.bool true) rfl rfl (binI_lss_t hb25) ?_)
  refine Run.region_end ?_
  refine Run.condT rfl ?_
  refine Run.skip ?_
  refine Run.block ?_
  refine Run.seq ?_
  refine Run.ops0 (idx := [0, 1, 2, 3, 4, 5, 6]) rfl ?_
  refine Run.go rfl rfl rfl (sem_move ((Value.int .i64 (i18))) rfl ?_)
  refine Run.go rfl rfl rfl (sem_move ((Value.int .i64 (i19))) rfl ?_)
  refine Run.go rfl rfl rfl (sem_binI .i64 (i18) (i19) ((Value.int .i64 (IntKind.wrap .i64 ((i18) + (i19))))) rfl rfl rfl ?_)
  refine Run.go rfl rfl rfl (sem_convI .i64 .u64 (IntKind.wrap .i64 ((i18) + (i19))) rfl TF.int_3 TF.int_241 ?_)
  obtain ⟨hi0, hS⟩ := hS
  refine Run.go rfl rfl rfl (sem_shr .u64 .u64 (IntKind.wrap .u64 (IntKind.wrap .i64 ((i18) + (i19)))) (1) rfl rfl hi0 ?_)
  refine Run.go rfl rfl rfl (sem_convI .u64 .i64 (Int.fdiv (IntKind.wrap .u64 (IntKind.wrap .i64 ((i18) + (i19)))) (2 ^ (min (Int.toNat (1)) (IntKind.bits .u64)))) rfl TF.int_241 TF.int_3 ?_)
  refine Run.go rfl rfl rfl (sem_assign ((Value.int .i64 (IntKind.wrap .i64 (Int.fdiv (IntKind.wrap .u64 (IntKind.wrap .i64 ((i18) + (i19)))) (2 ^ (min (Int.toNat (1)) (IntKind.bits .u64))))))) rfl ?_)
  refine Run.region_end ?_
  refine Run.seq ?_
  refine Run.ops0 (idx := [0, 1, 2, 3, 4, 5, 6, 7]) rfl ?_
  refine Run.go rfl rfl rfl (sem_move (v5) rfl ?_)
  refine Run.go rfl rfl rfl (sem_move ((Value.slice a1 n2 c3)) rfl ?_)
  refine Run.go rfl rfl rfl (sem_move ((Value.int .i64 (IntKind.wrap .i64 (Int.fdiv (IntKind.wrap .u64 (IntKind.wrap .i64 ((i18) + (i19)))) (2 ^ (min (Int.toNat (1)) (IntKind.bits .u64))))))) rfl ?_)
  obtain ⟨A26, e27, hi0, hi1, hS⟩ := hS
  refine Run.go rfl rfl rfl (sem_indexAddrS A26 n2 c3 .i64 (IntKind.wrap .i64 (Int.fdiv (IntKind.wrap .u64 (IntKind.wrap .i64 ((i18) + (i19)))) (2 ^ (min (Int.toNat (1)) (IntKind.bits .u64))))) (congrArg (fun a => Value.slice a n2 c3) e27) rfl TF.slc_218 hi0 hi1 ?_)
  obtain ⟨i28, i29, hl, hS⟩ := hS
  refine Run.go rfl rfl rfl (sem_loadN (Addr.add A26 (Int.toNat (IntKind.wrap .i64 (Int.fdiv (IntKind.wrap .u64 (IntKind.wrap .i64 ((i18) + (i19)))) (2 ^ (min (Int.toNat (1)) (IntKind.bits .u64))))) * 2)) [(Value.int .i64 (i28)), (Value.int .i64 (i29))] rfl TF.agg_228 TF.sz_228 hl ?_)
  refine Run.go rfl rfl rfl (sem_move ((Value.int .i64 (i4))) rfl ?_)
  refine Run.go rfl rfl rfl (sem_callV (v5) [(Value.agg #[(Value.int .i64 (i28)), (Value.int .i64 (i29))]), (Value.int .i64 (i4))] rfl rfl hS (fun nx h' ha => ha.mono fun v h30 hv => ?_))
  obtain ⟨i31, rfl, hS⟩ := hv
  obtain ⟨hT, hF⟩ := hS
  by_cases hb32 : (i31 : Int) < (0)
  ·have hS := hT hb32; clear hT hF
   refine Run.go rfl rfl rfl (sem_binI .i64 (i31) (0) (.bool true) rfl rfl (binI_lss_t hb32) ?_)
   refine Run.region_end ?_
   refine Run.condT rfl ?_
   refine Run.ops0 (idx := [0, 1, 2]) rfl ?_
   refine Run.go rfl rfl rfl (sem_move ((Value.int .i64 (IntKind.wrap .i64 (Int.fdiv (IntKind.wrap .u64 (IntKind.wrap .i64 ((i18) + (i19)))) (2 ^ (min (Int.toNat (1)) (IntKind.bits .u64))))))) rfl ?_)
   refine Run.go rfl rfl rfl (sem_binI .i64 (IntKind.wrap .i64 (Int.fdiv (IntKind.wrap .u64 (IntKind.wrap .i64 ((i18) + (i19)))) (2 ^ (min (Int.toNat (1)) (IntKind.bits .u64))))) (1) ((Value.int .i64 (IntKind.wrap .i64 ((IntKind.wrap .i64 (Int.fdiv (IntKind.wrap .u64 (IntKind.wrap .i64 ((i18) + (i19)))) (2 ^ (min (Int.toNat (1)) (IntKind.bits .u64))))) + (1))))) rfl rfl rfl ?_)
   refine Run.go rfl rfl rfl (sem_assign ((Value.int .i64 (IntKind.wrap .i64 ((IntKind.wrap .i64 (Int.fdiv (IntKind.wrap .u64 (IntKind.wrap .i64 ((i18) + (i19)))) (2 ^ (min (Int.toNat (1)) (IntKind.bits .u64))))) + (1))))) rfl ?_)
   refine Run.region_end ?_
   refine Run.inBlock ?_
   exact Run.of_fin (hS.imp fun h' ⟨m', hm, hS⟩ => ih23 ((IntKind.wrap .i64 ((IntKind.wrap .i64 (Int.fdiv (IntKind.wrap .u64 (IntKind.wrap .i64 ((i18) + (i19)))) (2 ^ (min (Int.toNat (1)) (IntKind.bits .u64))))) + (1))), (i19), m') _ _ ⟨hS, ⟨rfl, rfl, rfl, rfl, rfl, rfl, trivial⟩⟩ hm)
  ·have hS := hF hb32; clear hT hF
   refine Run.go rfl rfl rfl (sem_binI .i64 (i31) (0) (.bool false) rfl rfl (binI_lss_f hb32) ?_)
   refine Run.region_end ?_
   refine Run.condF rfl ?_
   refine Run.ops0 (idx := [0, 1]) rfl ?_
   refine Run.go rfl rfl rfl (sem_move ((Value.int .i64 (IntKind.wrap .i64 (Int.fdiv (IntKind.wrap .u64 (IntKind.wrap .i64 ((i18) + (i19)))) (2 ^ (min (Int.toNat (1)) (IntKind.bits .u64))))))) rfl ?_)
   refine Run.go rfl rfl rfl (sem_assign ((Value.int .i64 (IntKind.wrap .i64 (Int.fdiv (IntKind.wrap .u64 (IntKind.wrap .i64 ((i18) + (i19)))) (2 ^ (min (Int.toNat (1)) (IntKind.bits .u64))))))) rfl ?_)
   refine Run.region_end ?_
   refine Run.inBlock ?_
   exact Run.of_fin (hS.imp fun h' ⟨m', hm, hS⟩ => ih23 ((i18), (IntKind.wrap .i64 (Int.fdiv (IntKind.wrap .u64 (IntKind.wrap .i64 ((i18) + (i19)))) (2 ^ (min (Int.toNat (1)) (IntKind.bits .u64))))), m') _ _ ⟨hS, ⟨rfl, rfl, rfl, rfl, rfl, rfl, trivial⟩⟩ hm)
 ·have hS := hF hb25; clear hT hF
  refine Run.go rfl rfl rfl (sem_binI .i64 (i18) (i19) (.bool false) rfl rfl (binI_lss_f hb25) ?_)
  refine Run.region_end ?_
  refine Run.condF rfl ?_
  refine Run.exit rfl ?_
  exact Run.of_fin (hS.imp fun h' hS => j8 _ _ ⟨(i18), ⟨rfl, rfl, rfl, rfl, rfl, trivial⟩, hS⟩)
set_option maxHeartbeats 4000000 in
theorem C_draft_by_int.of {B : RO} {i1 : Int} {i2 : Int} {i3 : Int} {h : Heap} {Q : Int → Heap → Prop} (hS : S_draft_by_int B i1 i2 i3 h Q) : C_draft_by_int B i1 i2 i3 h Q := by
 unfold S_draft_by_int at hS
 unfold C_draft_by_int
 refine Spec.of_run Try.func151 (N := 15) (rs := [ResultVar.tmp 4]) rfl rfl rfl (Nat.le_of_ble_eq_true rfl) ?_
 refine Run.seq ?_
 refine Run.ops0 (idx := [0, 1]) rfl ?_
 refine Run.go rfl rfl rfl (sem_boxNN [(Value.int .i64 (i1)), (Value.int .i64 (i2))] rfl (fun k5 hb1 hb2 h6 hb3 => ?_))
 have hS := hS k5 hb1 hb2 h6 hb3
 refine Run.go rfl rfl rfl (sem_assign ((Value.int .i64 (0))) rfl ?_)
 refine Run.region_end ?_
 refine Run.seq ?_
 refine Run.block ?_
 refine Run.seq ?_
 refine Run.ops0 (idx := [0, 1, 2, 3, 4]) rfl ?_
 refine Run.go rfl rfl rfl (sem_fieldAddr ⟨k5, 0, none⟩ 0 rfl TF.fld_228_0 ?_)
 obtain ⟨i7, hl, hS⟩ := hS
 refine Run.go rfl rfl rfl (sem_load1 ⟨k5, 0, none⟩ ((Value.int .i64 (i7))) rfl TF.agg_3 hl ?_)
 refine Run.go rfl rfl rfl (sem_move ((Value.int .i64 (i3))) rfl ?_)
 obtain ⟨hT, hF⟩ := hS
 by_cases hb8 : (i7 : Int) < (i3)
 ·have hS := hT hb8; clear hT hF
  refine Run.go rfl rfl rfl (sem_binI .i64 (i7) (i3) (.bool true) rfl rfl (binI_lss_t hb8) ?_)
  refine Run.go rfl rfl rfl (sem_assign ((Value.bool true)) rfl ?_)
  refine Run.region_end ?_
  refine Run.condT rfl ?_
  refine Run.seq ?_
  refine Run.ops0 (idx := [0]) rfl ?_
  refine Run.go rfl rfl rfl (sem_assign ((Value.int .i64 ((-1)))) rfl ?_)
  refine Run.region_end ?_
  refine Run.ret ⟨.inr rfl, ?_⟩
  exact hS.imp fun h' hq => ⟨((-1)), rfl, hq⟩
 ·have hS := hF hb8; clear hT hF
  refine Run.go rfl rfl rfl (sem_binI .i64 (i7) (i3) (.bool false) rfl rfl (binI_lss_f hb8) ?_)
  refine Run.go rfl rfl rfl (sem_assign ((Value.bool false)) rfl ?_)
  refine Run.region_end ?_
  refine Run.condF rfl ?_
  refine Run.seq ?_
  refine Run.ops0 (idx := [0, 1, 2, 3, 4]) rfl ?_
  refine Run.go rfl rfl rfl (sem_fieldAddr ⟨k5, 0, none⟩ 0 rfl TF.fld_228_0 ?_)
  obtain ⟨i9, hl, hS⟩ := hS
  refine Run.go rfl rfl rfl (sem_load1 ⟨k5, 0, none⟩ ((Value.int .i64 (i9))) rfl TF.agg_3 hl ?_)
  refine Run.go rfl rfl rfl (sem_move ((Value.int .i64 (i3))) rfl ?_)
  obtain ⟨hT, hF⟩ := hS
  by_cases hb10 : (i9 : Int) > (i3)
  ·have hS := hT hb10; clear hT hF
   refine Run.go rfl rfl rfl (sem_binI .i64 (i9) (i3) (.bool true) rfl rfl (binI_gtr_t hb10) ?_)
   refine Run.go rfl rfl rfl (sem_assign ((Value.bool true)) rfl ?_)
   refine Run.region_end ?_
   refine Run.condT rfl ?_
   refine Run.seq ?_
   refine Run.ops0 (idx := [0]) rfl ?_
   refine Run.go rfl rfl rfl (sem_assign ((Value.int .i64 (1))) rfl ?_)
   refine Run.region_end ?_
   refine Run.ret ⟨.inr rfl, ?_⟩
   exact hS.imp fun h' hq => ⟨(1), rfl, hq⟩
  ·have hS := hF hb10; clear hT hF
   refine Run.go rfl rfl rfl (sem_binI .i64 (i9) (i3) (.bool false) rfl rfl (binI_gtr_f hb10) ?_)
   refine Run.go rfl rfl rfl (sem_assign ((Value.bool false)) rfl ?_)
   refine Run.region_end ?_
   refine Run.condF rfl ?_
   refine Run.skip ?_
   refine Run.inBlock ?_
   refine Run.seq ?_
   refine Run.ops0 (idx := [0]) rfl ?_
   refine Run.go rfl rfl rfl (sem_assign ((Value.int .i64 (0))) rfl ?_)
   refine Run.region_end ?_
   refine Run.ret ⟨.inr rfl, ?_⟩
   exact hS.imp fun h' hq => ⟨(0), rfl, hq⟩
set_option maxHeartbeats 4000000 in
theorem C_slices_rotateRight_draft_entry_int.of {B : RO} {a1 : Option Addr} {n2 : Nat} {c3 : Nat} {i4 : Int} {h : Heap} {Q : Heap → Prop} (hS : S_slices_rotateRight_draft_entry_int B a1 n2 c3 i4 h Q) : C_slices_rotateRight_draft_entry_int B a1 n2 c3 i4 h Q := by
 unfold S_slices_rotateRight_draft_entry_int at hS
 unfold C_slices_rotateRight_draft_entry_int
 refine Spec.of_run Try.func153 (N := 10) (rs := []) rfl rfl rfl (Nat.le_of_ble_eq_true rfl) ?_
 refine Run.ops0 (idx := [0, 1, 2, 3, 4, 5]) rfl ?_
 refine Run.go rfl rfl rfl (sem_move ((Value.slice a1 n2 c3)) rfl ?_)
 refine Run.go rfl rfl rfl (sem_move ((Value.slice a1 n2 c3)) rfl ?_)
 refine Run.go rfl rfl rfl (sem_lenSl a1 n2 c3 rfl TF.sl_218 ?_)
 refine Run.go rfl rfl rfl (sem_move ((Value.int .i64 (i4))) rfl ?_)
 refine Run.go rfl rfl rfl (sem_binI .i64 ((n2 : Nat)) (i4) ((Value.int .i64 (IntKind.wrap .i64 (((n2 : Nat)) - (i4))))) rfl rfl rfl ?_)
 refine Run.go rfl rfl rfl (sem_callL [(Value.slice a1 n2 c3), (Value.int .i64 (IntKind.wrap .i64 (((n2 : Nat)) - (i4))))] (TF.goes_164) rfl rfl (Spec.mono hS fun v h5 hv => ?_))
 obtain ⟨rfl, hS⟩ := hv
 refine Run.region_end ?_
 refine Run.fall ⟨.inl rfl, ?_⟩
 exact hS.imp fun h' hq => ⟨rfl, hq⟩
set_option maxHeartbeats 4000000 in
theorem C_draft_Draft_int_Copy.of {B : RO} {p1 : Option Addr} {h : Heap} {Q : Option Addr → Heap → Prop} (hS : S_draft_Draft_int_Copy B p1 h Q) : C_draft_Draft_int_Copy B p1 h Q := by
 unfold S_draft_Draft_int_Copy at hS
 unfold C_draft_Draft_int_Copy
 refine Spec.of_run Try.func154 (N := 12) (rs := [ResultVar.tmp 2]) rfl rfl rfl (Nat.le_of_ble_eq_true rfl) ?_
 refine Run.seq ?_
 refine Run.ops0 (idx := [0]) rfl ?_
 refine Run.go rfl rfl rfl (sem_assign ((Value.pointer none)) rfl ?_)
 refine Run.region_end ?_
 refine Run.seq ?_
 refine Run.seq ?_
 refine Run.ops0 (idx := [0, 1]) rfl ?_
 refine Run.go rfl rfl rfl (sem_move ((Value.pointer p1)) rfl ?_)
 obtain ⟨hT, hF⟩ := hS
 by_cases hb3 : p1 = none
 ·have hS := hT hb3; clear hT hF
  refine Run.go rfl rfl rfl (sem_ptrNilT p1 (.inl rfl) true rfl rfl TF.ptr_135 hb3 rfl ?_)
  refine Run.region_end ?_
  refine Run.condT rfl ?_
  refine Run.seq ?_
  refine Run.ops0 (idx := [0]) rfl ?_
  refine Run.go rfl rfl rfl (sem_assign ((Value.pointer none)) rfl ?_)
  refine Run.region_end ?_
  refine Run.ret ⟨.inr rfl, ?_⟩
  exact hS.imp fun h' hq => ⟨none, rfl, hq⟩
 ·have hS := hF hb3; clear hT hF
  refine Run.go rfl rfl rfl (sem_ptrNilF p1 (.inl rfl) false rfl rfl TF.ptr_135 hb3 rfl ?_)
  refine Run.region_end ?_
  refine Run.condF rfl ?_
  refine Run.skip ?_
  refine Run.seq ?_
  refine Run.ops0 (idx := [0, 1, 2, 3, 4, 5, 6, 7]) rfl ?_
  refine Run.go rfl rfl rfl (sem_move ((Value.pointer p1)) rfl ?_)
  obtain ⟨A4, e5, hS⟩ := hS
  refine Run.go rfl rfl rfl (sem_nilCheck A4 (congrArg Value.pointer e5) ?_)
  refine Run.go rfl rfl rfl (sem_fieldAddr A4 0 rfl TF.fld_220_0 ?_)
  refine Run.ldSl hS fun a6 n7 c8 h9 hl hS => ?_
  refine Run.go rfl rfl rfl (sem_load1 A4 ((Value.slice a6 n7 c8)) rfl TF.agg_218 hl ?_)
  refine Run.go rfl rfl rfl (sem_callL [(Value.slice a6 n7 c8)] (TF.goes_165) rfl rfl (Spec.mono hS fun v h10 hv => ?_))
  obtain ⟨a11, n12, c13, rfl, hS⟩ := hv
  refine Run.go rfl rfl rfl (sem_buildSL [(0, (Value.slice a11 n12 c13))] [(Value.slice a11 n12 c13)] TF.zero_220 TF.places_220 rfl rfl ?_)
  refine Run.go rfl rfl rfl (sem_boxNN [(Value.slice a11 n12 c13)] rfl (fun k14 hb1 hb2 h15 hb3 => ?_))
  have hS := hS k14 hb1 hb2 h15 hb3
  refine Run.go rfl rfl rfl (sem_assign ((Value.pointer (some ⟨k14, 0, none⟩))) rfl ?_)
  refine Run.region_end ?_
  refine Run.ret ⟨.inr rfl, ?_⟩
  exact hS.imp fun h' hq => ⟨(some ⟨k14, 0, none⟩), rfl, hq⟩
set_option maxHeartbeats 4000000 in
theorem C_sheet_Sheet_Copy.of {B : RO} {p1 : Option Addr} {h : Heap} {Q : Option Addr → Heap → Prop} (hS : S_sheet_Sheet_Copy B p1 h Q) : C_sheet_Sheet_Copy B p1 h Q := by
 unfold S_sheet_Sheet_Copy at hS
 unfold C_sheet_Sheet_Copy
 refine Spec.of_run Try.func155 (N := 12) (rs := [ResultVar.tmp 2]) rfl rfl rfl (Nat.le_of_ble_eq_true rfl) ?_
 refine Run.seq ?_
 refine Run.ops0 (idx := [0]) rfl ?_
 refine Run.go rfl rfl rfl (sem_assign ((Value.pointer none)) rfl ?_)
 refine Run.region_end ?_
 refine Run.seq ?_
 refine Run.seq ?_
 refine Run.ops0 (idx := [0, 1]) rfl ?_
 refine Run.go rfl rfl rfl (sem_move ((Value.pointer p1)) rfl ?_)
 obtain ⟨hT, hF⟩ := hS
 by_cases hb3 : p1 = none
 ·have hS := hT hb3; clear hT hF
  refine Run.go rfl rfl rfl (sem_ptrNilT p1 (.inl rfl) true rfl rfl TF.ptr_136 hb3 rfl ?_)
  refine Run.region_end ?_
  refine Run.condT rfl ?_
  refine Run.seq ?_
  refine Run.ops0 (idx := [0]) rfl ?_
  refine Run.go rfl rfl rfl (sem_assign ((Value.pointer none)) rfl ?_)
  refine Run.region_end ?_
  refine Run.ret ⟨.inr rfl, ?_⟩
  exact hS.imp fun h' hq => ⟨none, rfl, hq⟩
 ·have hS := hF hb3; clear hT hF
  refine Run.go rfl rfl rfl (sem_ptrNilF p1 (.inl rfl) false rfl rfl TF.ptr_136 hb3 rfl ?_)
  refine Run.region_end ?_
  refine Run.condF rfl ?_
  refine Run.skip ?_
  refine Run.seq ?_
  refine Run.ops0 (idx := [0, 1, 2, 3, 4, 5, 6, 7]) rfl ?_
  refine Run.go rfl rfl rfl (sem_move ((Value.pointer p1)) rfl ?_)
  obtain ⟨A4, e5, hS⟩ := hS
  refine Run.go rfl rfl rfl (sem_nilCheck A4 (congrArg Value.pointer e5) ?_)
  refine Run.go rfl rfl rfl (sem_fieldAddr A4 0 rfl TF.fld_262_0 ?_)
  obtain ⟨p6, hl, hS⟩ := hS
  refine Run.go rfl rfl rfl (sem_load1 A4 ((Value.pointer p6)) rfl TF.agg_105 hl ?_)
  refine Run.go rfl rfl rfl (sem_callL [(Value.pointer p6)] (TF.goes_166) rfl rfl (Spec.mono hS fun v h7 hv => ?_))
  obtain ⟨p8, rfl, hS⟩ := hv
  refine Run.go rfl rfl rfl (sem_buildSL [(0, (Value.pointer p8))] [(Value.pointer p8)] TF.zero_262 TF.places_262 rfl rfl ?_)
  refine Run.go rfl rfl rfl (sem_boxNN [(Value.pointer p8)] rfl (fun k9 hb1 hb2 h10 hb3 => ?_))
  have hS := hS k9 hb1 hb2 h10 hb3
  refine Run.go rfl rfl rfl (sem_assign ((Value.pointer (some ⟨k9, 0, none⟩))) rfl ?_)
  refine Run.region_end ?_
  refine Run.ret ⟨.inr rfl, ?_⟩
  exact hS.imp fun h' hq => ⟨(some ⟨k9, 0, none⟩), rfl, hq⟩
set_option maxHeartbeats 4000000 in
theorem C_cursor_Cursor_Copy.of {B : RO} {p1 : Option Addr} {h : Heap} {Q : Option Addr → Heap → Prop} (hS : S_cursor_Cursor_Copy B p1 h Q) : C_cursor_Cursor_Copy B p1 h Q := by
 unfold S_cursor_Cursor_Copy at hS
 unfold C_cursor_Cursor_Copy
 refine Spec.of_run Try.func156 (N := 9) (rs := [ResultVar.tmp 2]) rfl rfl rfl (Nat.le_of_ble_eq_true rfl) ?_
 refine Run.seq ?_
 refine Run.ops0 (idx := [0]) rfl ?_
 refine Run.go rfl rfl rfl (sem_assign ((Value.pointer none)) rfl ?_)
 refine Run.region_end ?_
 refine Run.seq ?_
 refine Run.seq ?_
 refine Run.ops0 (idx := [0, 1]) rfl ?_
 refine Run.go rfl rfl rfl (sem_move ((Value.pointer p1)) rfl ?_)
 obtain ⟨hT, hF⟩ := hS
 by_cases hb3 : p1 = none
 ·have hS := hT hb3; clear hT hF
  refine Run.go rfl rfl rfl (sem_ptrNilT p1 (.inl rfl) true rfl rfl TF.ptr_137 hb3 rfl ?_)
  refine Run.region_end ?_
  refine Run.condT rfl ?_
  refine Run.seq ?_
  refine Run.ops0 (idx := [0]) rfl ?_
  refine Run.go rfl rfl rfl (sem_assign ((Value.pointer none)) rfl ?_)
  refine Run.region_end ?_
  refine Run.ret ⟨.inr rfl, ?_⟩
  exact hS.imp fun h' hq => ⟨none, rfl, hq⟩
 ·have hS := hF hb3; clear hT hF
  refine Run.go rfl rfl rfl (sem_ptrNilF p1 (.inl rfl) false rfl rfl TF.ptr_137 hb3 rfl ?_)
  refine Run.region_end ?_
  refine Run.condF rfl ?_
  refine Run.skip ?_
  refine Run.seq ?_
  refine Run.ops0 (idx := [0, 1, 2, 3, 4]) rfl ?_
  refine Run.go rfl rfl rfl (sem_move ((Value.pointer p1)) rfl ?_)
  obtain ⟨A4, e5, hS⟩ := hS
  refine Run.go rfl rfl rfl (sem_nilCheck A4 (congrArg Value.pointer e5) ?_)
  obtain ⟨i6, i7, i8, hl, hS⟩ := hS
  refine Run.go rfl rfl rfl (sem_loadN A4 [(Value.int .i64 (i6)), (Value.int .i64 (i7)), (Value.int .i64 (i8))] rfl TF.agg_224 TF.sz_224 hl ?_)
  refine Run.go rfl rfl rfl (sem_allocN [(Value.int .i64 (0)), (Value.int .i64 (0)), (Value.int .i64 (0))] TF.zero_224 (fun k9 hb1 hb2 h10 hb3 => ?_))
  have hS := hS k9 hb1 hb2 h10 hb3
  obtain ⟨h11, hst, hS⟩ := hS
  refine Run.go rfl rfl rfl (sem_storeN ⟨k9, 0, none⟩ [(Value.int .i64 (i6)), (Value.int .i64 (i7)), (Value.int .i64 (i8))] h11 rfl rfl TF.sz_224 hst ?_)
  refine Run.region_end ?_
  refine Run.seq ?_
  refine Run.ops0 (idx := [0]) rfl ?_
  refine Run.go rfl rfl rfl (sem_assign ((Value.pointer (some ⟨k9, 0, none⟩))) rfl ?_)
  refine Run.region_end ?_
  refine Run.ret ⟨.inr rfl, ?_⟩
  exact hS.imp fun h' hq => ⟨(some ⟨k9, 0, none⟩), rfl, hq⟩
set_option maxHeartbeats 4000000 in
theorem C_draft_Draft_int_All_1.of {B : RO} {v1 : Value} {A2 : Addr} {h : Heap} {Q : Heap → Prop} (hS : S_draft_Draft_int_All_1 B v1 A2 h Q) : C_draft_Draft_int_All_1 B v1 A2 h Q := by
 unfold S_draft_Draft_int_All_1 at hS
 unfold C_draft_Draft_int_All_1
 refine Spec.of_run Try.func157 (N := 24) (rs := []) rfl rfl rfl (Nat.le_of_ble_eq_true rfl) ?_
 refine Run.seq ?_
 refine Run.seq ?_
 refine Run.ops0 (idx := [0, 1]) rfl ?_
 obtain ⟨p3, hl, hS⟩ := hS
 refine Run.go rfl rfl rfl (sem_load1 A2 ((Value.pointer p3)) rfl TF.agg_135 hl ?_)
 obtain ⟨hT, hF⟩ := hS
 by_cases hb4 : p3 = none
 ·have hS := hT hb4; clear hT hF
  refine Run.go rfl rfl rfl (sem_ptrNilT p3 (.inl rfl) true rfl rfl TF.ptr_135 hb4 rfl ?_)
  refine Run.region_end ?_
  refine Run.condT rfl ?_
  refine Run.ret ⟨.inr rfl, ?_⟩
  exact hS.imp fun h' hq => ⟨rfl, hq⟩
 ·have hS := hF hb4; clear hT hF
  refine Run.go rfl rfl rfl (sem_ptrNilF p3 (.inl rfl) false rfl rfl TF.ptr_135 hb4 rfl ?_)
  refine Run.region_end ?_
  refine Run.condF rfl ?_
  refine Run.skip ?_
  refine Run.seq ?_
  refine Run.ops0 (idx := [0, 1, 2, 3, 4, 5]) rfl ?_
  obtain ⟨p5, hl, hS⟩ := hS
  refine Run.go rfl rfl rfl (sem_load1 A2 ((Value.pointer p5)) rfl TF.agg_135 hl ?_)
  obtain ⟨A6, e7, hS⟩ := hS
  refine Run.go rfl rfl rfl (sem_nilCheck A6 (congrArg Value.pointer e7) ?_)
  refine Run.go rfl rfl rfl (sem_fieldAddr A6 0 rfl TF.fld_220_0 ?_)
  refine Run.ldSl hS fun a8 n9 c10 h11 hl hS => ?_
  refine Run.go rfl rfl rfl (sem_load1 A6 ((Value.slice a8 n9 c10)) rfl TF.agg_218 hl ?_)
  refine Run.go rfl rfl rfl (sem_lenSl a8 n9 c10 rfl TF.sl_218 ?_)
  refine Run.go rfl rfl rfl (sem_move ((Value.int .i64 (0))) rfl ?_)
  refine Run.region_end ?_
  refine Run.block ?_
  obtain ⟨J17, m15, h0, hS⟩ := hS
  refine Run.of_fin (h0.imp fun h' h0 => ?_)
  refine Run.loop (σ := Int × Nat) (fun x e h => J17 x.1 x.2 h ∧ Agree [(0, v1), (10, (Value.slice a8 n9 c10)), (11, (Value.int .i64 ((n9 : Nat)))), (12, (Value.int .i64 (x.1)))] e) (fun x => x.2) ((0), m15) ⟨h0, ⟨rfl, rfl, rfl, rfl, trivial⟩⟩ ?_; clear h0
  rintro ⟨i12, m14⟩ e h13 ⟨hJ, hag⟩ ih16
  have hS := hS i12 m14 h13 hJ; clear hJ
  refine Run.env hag ?_; clear hag
  refine Run.seq ?_
  refine Run.ops0 (idx := [0]) rfl ?_
  obtain ⟨hT, hF⟩ := hS
  by_cases hb18 : (i12 : Int) < ((n9 : Nat))
  ·have hS := hT hb18; clear hT hF
   refine Run.go rfl rfl rfl (sem_binI .i64 (i12) ((n9 : Nat)) (.bool true) rfl rfl (binI_lss_t hb18) ?_)
   refine Run.region_end ?_
   refine Run.seq ?_
   refine Run.condT rfl ?_
   refine Run.skip ?_
   refine Run.seq ?_
   refine Run.block ?_
   refine Run.seq ?_
   refine Run.ops0 (idx := [0, 1, 2, 3]) rfl ?_
   obtain ⟨A19, e20, hi0, hi1, hS⟩ := hS
   refine Run.go rfl rfl rfl (sem_indexAddrS A19 n9 c10 .i64 (i12) (congrArg (fun a => Value.slice a n9 c10) e20) rfl TF.slc_218 hi0 hi1 ?_)
   obtain ⟨i21, i22, hl, hS⟩ := hS
   refine Run.go rfl rfl rfl (sem_loadN (Addr.add A19 (Int.toNat (i12) * 2)) [(Value.int .i64 (i21)), (Value.int .i64 (i22))] rfl TF.agg_228 TF.sz_228 hl ?_)
   refine Run.go rfl rfl rfl (sem_allocN [(Value.int .i64 (0)), (Value.int .i64 (0))] TF.zero_228 (fun k23 hb1 hb2 h24 hb3 => ?_))
   have hS := hS k23 hb1 hb2 h24 hb3
   obtain ⟨h25, hst, hS⟩ := hS
   refine Run.go rfl rfl rfl (sem_storeN ⟨k23, 0, none⟩ [(Value.int .i64 (i21)), (Value.int .i64 (i22))] h25 rfl rfl TF.sz_228 hst ?_)
   refine Run.region_end ?_
   refine Run.seq ?_
   refine Run.ops0 (idx := [0, 1, 2, 3, 4, 5, 6]) rfl ?_
   refine Run.go rfl rfl rfl (sem_move (v1) rfl ?_)
   refine Run.go rfl rfl rfl (sem_fieldAddr ⟨k23, 0, none⟩ 0 rfl TF.fld_228_0 ?_)
   obtain ⟨i26, hl, hS⟩ := hS
   refine Run.go rfl rfl rfl (sem_load1 ⟨k23, 0, none⟩ ((Value.int .i64 (i26))) rfl TF.agg_3 hl ?_)
   refine Run.go rfl rfl rfl (sem_fieldAddr ⟨k23, 0, none⟩ 1 rfl TF.fld_228_1 ?_)
   obtain ⟨i27, hl, hS⟩ := hS
   refine Run.go rfl rfl rfl (sem_load1 ⟨k23, 1, none⟩ ((Value.int .i64 (i27))) rfl TF.agg_3 hl ?_)
   refine Run.go rfl rfl rfl (sem_callV (v1) [(Value.int .i64 (i26)), (Value.int .i64 (i27))] rfl rfl hS (fun nx h' ha => ha.mono fun v h28 hv => ?_))
   obtain ⟨b29, rfl, hS⟩ := hv
   obtain ⟨hT, hF⟩ := hS
   cases b29
   ·have hS := hF rfl; clear hT hF
    refine Run.go rfl rfl rfl (sem_not false rfl ?_)
    refine Run.region_end ?_
    refine Run.condT rfl ?_
    refine Run.ret ⟨.inr rfl, ?_⟩
    exact hS.imp fun h' hq => ⟨rfl, hq⟩
   ·have hS := hT rfl; clear hT hF
    refine Run.go rfl rfl rfl (sem_not true rfl ?_)
    refine Run.region_end ?_
    refine Run.condF rfl ?_
    refine Run.skip ?_
    refine Run.inBlock ?_
    refine Run.ops0 (idx := [0, 1]) rfl ?_
    refine Run.go rfl rfl rfl (sem_binI .i64 (i12) (1) ((Value.int .i64 (IntKind.wrap .i64 ((i12) + (1))))) rfl rfl rfl ?_)
    refine Run.go rfl rfl rfl (sem_move ((Value.int .i64 (IntKind.wrap .i64 ((i12) + (1))))) rfl ?_)
    refine Run.region_end ?_
    exact Run.of_fin (hS.imp fun h' ⟨m', hm, hS⟩ => ih16 ((IntKind.wrap .i64 ((i12) + (1))), m') _ _ ⟨hS, ⟨rfl, rfl, rfl, rfl, trivial⟩⟩ hm)
  ·have hS := hF hb18; clear hT hF
   refine Run.go rfl rfl rfl (sem_binI .i64 (i12) ((n9 : Nat)) (.bool false) rfl rfl (binI_lss_f hb18) ?_)
   refine Run.region_end ?_
   refine Run.seq ?_
   refine Run.condF rfl ?_
   refine Run.exit rfl ?_
   refine Run.fall ⟨.inl rfl, ?_⟩
   exact hS.imp fun h' hq => ⟨rfl, hq⟩
set_option maxHeartbeats 4000000 in
theorem C_slices_rotateLeft_draft_entry_int.of {B : RO} {a1 : Option Addr} {n2 : Nat} {c3 : Nat} {i4 : Int} {h : Heap} {Q : Heap → Prop} (hS : S_slices_rotateLeft_draft_entry_int B a1 n2 c3 i4 h Q) : C_slices_rotateLeft_draft_entry_int B a1 n2 c3 i4 h Q := by
 unfold S_slices_rotateLeft_draft_entry_int at hS
 unfold C_slices_rotateLeft_draft_entry_int
 refine Spec.of_run Try.func164 (N := 14) (rs := []) rfl rfl rfl (Nat.le_of_ble_eq_true rfl) ?_
 refine Run.seq ?_
 refine Run.ops0 (idx := [0, 1, 2, 3]) rfl ?_
 refine Run.go rfl rfl rfl (sem_move ((Value.slice a1 n2 c3)) rfl ?_)
 refine Run.go rfl rfl rfl (sem_move ((Value.int .i64 (i4))) rfl ?_)
 obtain ⟨hi0, hi1, hi2, hS⟩ := hS
 refine Run.go rfl rfl rfl (sem_sliceSlI a1 n2 c3 (0) (i4) rfl TF.slc_218 rfl ⟨_, rfl⟩ hi0 hi1 hi2 ?_)
 refine Run.go rfl rfl rfl (sem_callL [(Value.slice (if c3 = Int.toNat (0) then a1 else Option.map (·.add (Int.toNat (0) * 2)) a1) (Int.toNat (i4) - Int.toNat (0)) (c3 - Int.toNat (0)))] (TF.goes_168) rfl rfl (Spec.mono hS fun v h5 hv => ?_))
 obtain ⟨rfl, hS⟩ := hv
 refine Run.region_end ?_
 refine Run.seq ?_
 refine Run.ops0 (idx := [0, 1, 2, 3]) rfl ?_
 refine Run.go rfl rfl rfl (sem_move ((Value.slice a1 n2 c3)) rfl ?_)
 refine Run.go rfl rfl rfl (sem_move ((Value.int .i64 (i4))) rfl ?_)
 obtain ⟨hi0, hi1, hi2, hS⟩ := hS
 refine Run.go rfl rfl rfl (sem_sliceSlI a1 n2 c3 (i4) ((n2 : Nat)) rfl TF.slc_218 ⟨_, rfl⟩ rfl hi0 hi1 hi2 ?_)
 refine Run.go rfl rfl rfl (sem_callL [(Value.slice (if c3 = Int.toNat (i4) then a1 else Option.map (·.add (Int.toNat (i4) * 2)) a1) (Int.toNat ((n2 : Nat)) - Int.toNat (i4)) (c3 - Int.toNat (i4)))] (TF.goes_168) rfl rfl (Spec.mono hS fun v h6 hv => ?_))
 obtain ⟨rfl, hS⟩ := hv
 refine Run.region_end ?_
 refine Run.ops0 (idx := [0, 1]) rfl ?_
 refine Run.go rfl rfl rfl (sem_move ((Value.slice a1 n2 c3)) rfl ?_)
 refine Run.go rfl rfl rfl (sem_callL [(Value.slice a1 n2 c3)] (TF.goes_168) rfl rfl (Spec.mono hS fun v h7 hv => ?_))
 obtain ⟨rfl, hS⟩ := hv
 refine Run.region_end ?_
 refine Run.fall ⟨.inl rfl, ?_⟩
 exact hS.imp fun h' hq => ⟨rfl, hq⟩
set_option maxHeartbeats 4000000 in
theorem C_slices_Clone_s_draft_entry_int_draft_entry_int.of {B : RO} {a1 : Option Addr} {n2 : Nat} {c3 : Nat} {h : Heap} {Q : Option Addr → Nat → Nat → Heap → Prop} (hS : S_slices_Clone_s_draft_entry_int_draft_entry_int B a1 n2 c3 h Q) : C_slices_Clone_s_draft_entry_int_draft_entry_int B a1 n2 c3 h Q := by
 unfold S_slices_Clone_s_draft_entry_int_draft_entry_int at hS
 unfold C_slices_Clone_s_draft_entry_int_draft_entry_int
 refine Spec.of_run Try.func165 (N := 8) (rs := [ResultVar.tmp 2]) rfl rfl rfl (Nat.le_of_ble_eq_true rfl) ?_
 refine Run.seq ?_
 refine Run.ops0 (idx := [0]) rfl ?_
 refine Run.go rfl rfl rfl (sem_assign ((Value.slice none 0 0)) rfl ?_)
 refine Run.region_end ?_
 refine Run.seq ?_
 refine Run.seq ?_
 refine Run.ops0 (idx := [0, 1]) rfl ?_
 refine Run.go rfl rfl rfl (sem_move ((Value.slice a1 n2 c3)) rfl ?_)
 obtain ⟨hT, hF⟩ := hS
 by_cases hb7 : a1 = none
 ·have hS := hT hb7; clear hT hF
  refine Run.go rfl rfl rfl (sem_slNilT (a1) (n2) (c3) (.inl rfl) true rfl rfl TF.sl_218 hb7 rfl ?_)
  refine Run.region_end ?_
  refine Run.condT rfl ?_
  refine Run.seq ?_
  refine Run.ops0 (idx := [0]) rfl ?_
  refine Run.go rfl rfl rfl (sem_assign ((Value.slice none 0 0)) rfl ?_)
  refine Run.region_end ?_
  refine Run.ret ⟨.inr rfl, ?_⟩
  exact hS.imp fun h' hq => ⟨none, 0, 0, rfl, hq⟩
 ·have hS := hF hb7; clear hT hF
  refine Run.go rfl rfl rfl (sem_slNilF (a1) (n2) (c3) (.inl rfl) false rfl rfl TF.sl_218 hb7 rfl ?_)
  refine Run.region_end ?_
  refine Run.condF rfl ?_
  refine Run.skip ?_
  refine Run.seq ?_
  refine Run.ops0 (idx := [0, 1, 2, 3]) rfl ?_
  refine Run.go rfl rfl rfl (sem_buildSlice0N TF.slc_218 (fun k8 hb1 hb2 h9 hb3 => ?_))
  have hS := hS k8 hb1 hb2 h9 hb3
  refine Run.go rfl rfl rfl (sem_move ((Value.slice a1 n2 c3)) rfl ?_)
  refine Run.go rfl rfl rfl (sem_appendL [(Value.slice (some ⟨k8, 0, none⟩) 0 0), (Value.slice a1 n2 c3)] rfl (semH_mono (fun v h10 hv => ?_) hS))
  obtain ⟨a11, n12, c13, rfl, hS⟩ := hv
  refine Run.go rfl rfl rfl (sem_assign ((Value.slice a11 n12 c13)) rfl ?_)
  refine Run.region_end ?_
  refine Run.ret ⟨.inr rfl, ?_⟩
  exact hS.imp fun h' hq => ⟨a11, n12, c13, rfl, hq⟩
set_option maxHeartbeats 4000000 in
theorem C_draft_Draft_file_File_Copy.of {B : RO} {p1 : Option Addr} {h : Heap} {Q : Option Addr → Heap → Prop} (hS : S_draft_Draft_file_File_Copy B p1 h Q) : C_draft_Draft_file_File_Copy B p1 h Q := by
 unfold S_draft_Draft_file_File_Copy at hS
 unfold C_draft_Draft_file_File_Copy
 refine Spec.of_run Try.func166 (N := 12) (rs := [ResultVar.tmp 2]) rfl rfl rfl (Nat.le_of_ble_eq_true rfl) ?_
 refine Run.seq ?_
 refine Run.ops0 (idx := [0]) rfl ?_
 refine Run.go rfl rfl rfl (sem_assign ((Value.pointer none)) rfl ?_)
 refine Run.region_end ?_
 refine Run.seq ?_
 refine Run.seq ?_
 refine Run.ops0 (idx := [0, 1]) rfl ?_
 refine Run.go rfl rfl rfl (sem_move ((Value.pointer p1)) rfl ?_)
 obtain ⟨hT, hF⟩ := hS
 by_cases hb3 : p1 = none
 ·have hS := hT hb3; clear hT hF
  refine Run.go rfl rfl rfl (sem_ptrNilT p1 (.inl rfl) true rfl rfl TF.ptr_105 hb3 rfl ?_)
  refine Run.region_end ?_
  refine Run.condT rfl ?_
  refine Run.seq ?_
  refine Run.ops0 (idx := [0]) rfl ?_
  refine Run.go rfl rfl rfl (sem_assign ((Value.pointer none)) rfl ?_)
  refine Run.region_end ?_
  refine Run.ret ⟨.inr rfl, ?_⟩
  exact hS.imp fun h' hq => ⟨none, rfl, hq⟩
 ·have hS := hF hb3; clear hT hF
  refine Run.go rfl rfl rfl (sem_ptrNilF p1 (.inl rfl) false rfl rfl TF.ptr_105 hb3 rfl ?_)
  refine Run.region_end ?_
  refine Run.condF rfl ?_
  refine Run.skip ?_
  refine Run.seq ?_
  refine Run.ops0 (idx := [0, 1, 2, 3, 4, 5, 6, 7]) rfl ?_
  refine Run.go rfl rfl rfl (sem_move ((Value.pointer p1)) rfl ?_)
  obtain ⟨A4, e5, hS⟩ := hS
  refine Run.go rfl rfl rfl (sem_nilCheck A4 (congrArg Value.pointer e5) ?_)
  refine Run.go rfl rfl rfl (sem_fieldAddr A4 0 rfl TF.fld_193_0 ?_)
  refine Run.ldSl hS fun a6 n7 c8 h9 hl hS => ?_
  refine Run.go rfl rfl rfl (sem_load1 A4 ((Value.slice a6 n7 c8)) rfl TF.agg_191 hl ?_)
  refine Run.go rfl rfl rfl (sem_callL [(Value.slice a6 n7 c8)] (TF.goes_169) rfl rfl (Spec.mono hS fun v h10 hv => ?_))
  obtain ⟨a11, n12, c13, rfl, hS⟩ := hv
  refine Run.go rfl rfl rfl (sem_buildSL [(0, (Value.slice a11 n12 c13))] [(Value.slice a11 n12 c13)] TF.zero_193 TF.places_193 rfl rfl ?_)
  refine Run.go rfl rfl rfl (sem_boxNN [(Value.slice a11 n12 c13)] rfl (fun k14 hb1 hb2 h15 hb3 => ?_))
  have hS := hS k14 hb1 hb2 h15 hb3
  refine Run.go rfl rfl rfl (sem_assign ((Value.pointer (some ⟨k14, 0, none⟩))) rfl ?_)
  refine Run.region_end ?_
  refine Run.ret ⟨.inr rfl, ?_⟩
  exact hS.imp fun h' hq => ⟨(some ⟨k14, 0, none⟩), rfl, hq⟩
set_option maxHeartbeats 4000000 in
theorem C_slices_Reverse_s_draft_entry_int_draft_entry_int.of {B : RO} {a1 : Option Addr} {n2 : Nat} {c3 : Nat} {h : Heap} {Q : Heap → Prop} (hS : S_slices_Reverse_s_draft_entry_int_draft_entry_int B a1 n2 c3 h Q) : C_slices_Reverse_s_draft_entry_int_draft_entry_int B a1 n2 c3 h Q := by
 unfold S_slices_Reverse_s_draft_entry_int_draft_entry_int at hS
 unfold C_slices_Reverse_s_draft_entry_int_draft_entry_int
 refine Spec.of_run Try.func168 (N := 28) (rs := []) rfl rfl rfl (Nat.le_of_ble_eq_true rfl) ?_
 refine Run.seq ?_
 refine Run.ops0 (idx := [0, 1, 2, 3, 4]) rfl ?_
 refine Run.go rfl rfl rfl (sem_move ((Value.slice a1 n2 c3)) rfl ?_)
 refine Run.go rfl rfl rfl (sem_lenSl a1 n2 c3 rfl TF.sl_218 ?_)
 refine Run.go rfl rfl rfl (sem_binI .i64 ((n2 : Nat)) (1) ((Value.int .i64 (IntKind.wrap .i64 (((n2 : Nat)) - (1))))) rfl rfl rfl ?_)
 refine Run.go rfl rfl rfl (sem_assign ((Value.int .i64 (0))) rfl ?_)
 refine Run.go rfl rfl rfl (sem_assign ((Value.int .i64 (IntKind.wrap .i64 (((n2 : Nat)) - (1))))) rfl ?_)
 refine Run.region_end ?_
 refine Run.block ?_
 obtain ⟨J10, m8, h0, hS⟩ := hS
 refine Run.of_fin (h0.imp fun h' h0 => ?_)
 refine Run.loop (σ := Int × Int × Nat) (fun x e h => J10 x.1 x.2.1 x.2.2 h ∧ Agree [(0, (Value.slice a1 n2 c3)), (2, (Value.int .i64 (x.1))), (3, (Value.int .i64 (x.2.1)))] e) (fun x => x.2.2) ((0), (IntKind.wrap .i64 (((n2 : Nat)) - (1))), m8) ⟨h0, ⟨rfl, rfl, rfl, trivial⟩⟩ ?_; clear h0
 rintro ⟨i4, i5, m7⟩ e h6 ⟨hJ, hag⟩ ih9
 have hS := hS i4 i5 m7 h6 hJ; clear hJ
 refine Run.env hag ?_; clear hag
 refine Run.seq ?_
 refine Run.seq ?_
 refine Run.ops0 (idx := [0, 1, 2]) rfl ?_
 refine Run.go rfl rfl rfl (sem_move ((Value.int .i64 (i4))) rfl ?_)
 refine Run.go rfl rfl rfl (sem_move ((Value.int .i64 (i5))) rfl ?_)
 obtain ⟨hT, hF⟩ := hS
 by_cases hb11 : (i4 : Int) < (i5)
 ·have hS := hT hb11; clear hT hF
  refine Run.go rfl rfl rfl (sem_binI .i64 (i4) (i5) (.bool true) rfl rfl (binI_lss_t hb11) ?_)
  refine Run.region_end ?_
  refine Run.condT rfl ?_
  refine Run.skip ?_
  refine Run.seq ?_
  refine Run.block ?_
  skip
  skip
  skip
  skip
  skip
  skip
  obtain ⟨A18, e19, hi0, hi1, hS⟩ := hS
  have f21 := hi0; have f22 := hi1
  obtain ⟨i23, i24, hl, hS⟩ := hS
  have f25 := hl
  skip
  skip
  obtain ⟨A28, e29, hi0, hi1, hS⟩ := hS
  have f31 := hi0; have f32 := hi1
  obtain ⟨i33, i34, hl, hS⟩ := hS
  have f35 := hl
  obtain ⟨A36, e37, hi0, hi1, hS⟩ := hS
  have f39 := hi0; have f40 := hi1
  refine Run.drawM (fun h' => CellsAt B h' (Addr.add A18 (Int.toNat (i5) * 2)) 0 [(Value.int .i64 (i23)), (Value.int .i64 (i24))] ∧ CellsAt B h' (Addr.add A28 (Int.toNat (i4) * 2)) 0 [(Value.int .i64 (i33)), (Value.int .i64 (i34))] ∧ True) [15] ⟨[0, 0, 0, 0, 0, 0, 48, 64, 0, 0, 768, 1024, 2291, 6387, 16383, 32767], [65535, 65535, 65535, 65535, 65535, 65535, 65487, 65471, 65535, 65535, 64767, 64511, 65532, 61311, 65523, 47103], [0, 0, 0, 0, 0, 0, 48, 112, 0, 0, 768, 1792, 4083, 8179, 16383, 32767], 32768⟩ (.q 0 (.q 1 (.q 2 (.q 3 (.q 4 (.q 5 (.q 6 (.q 7 (.q 8 (.q 9 (.q 10 (.q 11 (.q 12 (.x 13 (.q 14 (.x 15 .nil .no)) .no)))))))))))))) TF.mixed (by kernel_rfl) ⟨f25, f35, trivial⟩ ?_
  refine RunT.quiet rfl rfl rfl (fun h' hC => sem_move ((Value.slice a1 n2 c3)) rfl ⟨rfl, rfl⟩) ?_
  refine RunT.quiet rfl rfl rfl (fun h' hC => sem_move ((Value.int .i64 (i4))) rfl ⟨rfl, rfl⟩) ?_
  refine RunT.quiet rfl rfl rfl (fun h' hC => sem_move ((Value.slice a1 n2 c3)) rfl ⟨rfl, rfl⟩) ?_
  refine RunT.quiet rfl rfl rfl (fun h' hC => sem_move ((Value.int .i64 (i5))) rfl ⟨rfl, rfl⟩) ?_
  refine RunT.quiet rfl rfl rfl (fun h' hC => sem_move ((Value.slice a1 n2 c3)) rfl ⟨rfl, rfl⟩) ?_
  refine RunT.quiet rfl rfl rfl (fun h' hC => sem_move ((Value.int .i64 (i5))) rfl ⟨rfl, rfl⟩) ?_
  refine RunT.quiet rfl rfl rfl (fun h' hC => sem_indexAddrS A18 n2 c3 .i64 (i5) (congrArg (fun a => Value.slice a n2 c3) e19) rfl TF.slc_218 f21 f22 ⟨rfl, rfl⟩) ?_
  refine RunT.quiet rfl rfl rfl (fun h' hC => sem_loadN (Addr.add A18 (Int.toNat (i5) * 2)) [(Value.int .i64 (i23)), (Value.int .i64 (i24))] rfl TF.agg_228 TF.sz_228 hC.1 ⟨rfl, rfl⟩) ?_
  refine RunT.quiet rfl rfl rfl (fun h' hC => sem_move ((Value.slice a1 n2 c3)) rfl ⟨rfl, rfl⟩) ?_
  refine RunT.quiet rfl rfl rfl (fun h' hC => sem_move ((Value.int .i64 (i4))) rfl ⟨rfl, rfl⟩) ?_
  refine RunT.quiet rfl rfl rfl (fun h' hC => sem_indexAddrS A28 n2 c3 .i64 (i4) (congrArg (fun a => Value.slice a n2 c3) e29) rfl TF.slc_218 f31 f32 ⟨rfl, rfl⟩) ?_
  refine RunT.quiet rfl rfl rfl (fun h' hC => sem_loadN (Addr.add A28 (Int.toNat (i4) * 2)) [(Value.int .i64 (i33)), (Value.int .i64 (i34))] rfl TF.agg_228 TF.sz_228 hC.2.1 ⟨rfl, rfl⟩) ?_
  refine RunT.quiet rfl rfl rfl (fun h' hC => sem_indexAddrS A36 n2 c3 .i64 (i4) (congrArg (fun a => Value.slice a n2 c3) e37) rfl TF.slc_218 f39 f40 ⟨rfl, rfl⟩) ?_
  refine ⟨?_, trivial⟩
  obtain ⟨h41, hst, hS⟩ := hS
  refine OpH.go rfl rfl rfl (sem_storeN (Addr.add A36 (Int.toNat (i4) * 2)) [(Value.int .i64 (i23)), (Value.int .i64 (i24))] h41 rfl rfl TF.sz_228 hst ?_)
  obtain ⟨g42, g43, hS⟩ := hS
  refine ⟨fun _ => ⟨g42, g43, trivial⟩, ?_⟩
  obtain ⟨A44, e45, hi0, hi1, hS⟩ := hS
  refine RunT.quiet rfl rfl rfl (fun h' hC => sem_indexAddrS A44 n2 c3 .i64 (i5) (congrArg (fun a => Value.slice a n2 c3) e45) rfl TF.slc_218 hi0 hi1 ⟨rfl, rfl⟩) ?_
  refine ⟨?_, trivial⟩
  obtain ⟨h46, hst, hS⟩ := hS
  refine OpH.go rfl rfl rfl (sem_storeN (Addr.add A44 (Int.toNat (i5) * 2)) [(Value.int .i64 (i33)), (Value.int .i64 (i34))] h46 rfl rfl TF.sz_228 hst ?_)
  refine ⟨fun hz => Bool.noConfusion hz, ?_⟩
  refine Run.inBlock ?_
  refine Run.ops0 (idx := [0, 1, 2, 3, 4, 5]) rfl ?_
  refine Run.go rfl rfl rfl (sem_move ((Value.int .i64 (i4))) rfl ?_)
  refine Run.go rfl rfl rfl (sem_binI .i64 (i4) (1) ((Value.int .i64 (IntKind.wrap .i64 ((i4) + (1))))) rfl rfl rfl ?_)
  refine Run.go rfl rfl rfl (sem_move ((Value.int .i64 (i5))) rfl ?_)
  refine Run.go rfl rfl rfl (sem_binI .i64 (i5) (1) ((Value.int .i64 (IntKind.wrap .i64 ((i5) - (1))))) rfl rfl rfl ?_)
  refine Run.go rfl rfl rfl (sem_assign ((Value.int .i64 (IntKind.wrap .i64 ((i4) + (1))))) rfl ?_)
  refine Run.go rfl rfl rfl (sem_assign ((Value.int .i64 (IntKind.wrap .i64 ((i5) - (1))))) rfl ?_)
  refine Run.region_end ?_
  exact Run.of_fin (hS.imp fun h' ⟨m', hm, hS⟩ => ih9 ((IntKind.wrap .i64 ((i4) + (1))), (IntKind.wrap .i64 ((i5) - (1))), m') _ _ ⟨hS, ⟨rfl, rfl, rfl, trivial⟩⟩ hm)
 ·have hS := hF hb11; clear hT hF
  refine Run.go rfl rfl rfl (sem_binI .i64 (i4) (i5) (.bool false) rfl rfl (binI_lss_f hb11) ?_)
  refine Run.region_end ?_
  refine Run.condF rfl ?_
  refine Run.exit rfl ?_
  refine Run.fall ⟨.inl rfl, ?_⟩
  exact hS.imp fun h' hq => ⟨rfl, hq⟩
set_option maxHeartbeats 4000000 in
theorem C_slices_Clone_s_draft_entry_file_File_draft_entry_file_File.of {B : RO} {a1 : Option Addr} {n2 : Nat} {c3 : Nat} {h : Heap} {Q : Option Addr → Nat → Nat → Heap → Prop} (hS : S_slices_Clone_s_draft_entry_file_File_draft_entry_file_File B a1 n2 c3 h Q) : C_slices_Clone_s_draft_entry_file_File_draft_entry_file_File B a1 n2 c3 h Q := by
 unfold S_slices_Clone_s_draft_entry_file_File_draft_entry_file_File at hS
 unfold C_slices_Clone_s_draft_entry_file_File_draft_entry_file_File
 refine Spec.of_run Try.func169 (N := 8) (rs := [ResultVar.tmp 2]) rfl rfl rfl (Nat.le_of_ble_eq_true rfl) ?_
 refine Run.seq ?_
 refine Run.ops0 (idx := [0]) rfl ?_
 refine Run.go rfl rfl rfl (sem_assign ((Value.slice none 0 0)) rfl ?_)
 refine Run.region_end ?_
 refine Run.seq ?_
 refine Run.seq ?_
 refine Run.ops0 (idx := [0, 1]) rfl ?_
 refine Run.go rfl rfl rfl (sem_move ((Value.slice a1 n2 c3)) rfl ?_)
 obtain ⟨hT, hF⟩ := hS
 by_cases hb7 : a1 = none
 ·have hS := hT hb7; clear hT hF
  refine Run.go rfl rfl rfl (sem_slNilT (a1) (n2) (c3) (.inl rfl) true rfl rfl TF.sl_191 hb7 rfl ?_)
  refine Run.region_end ?_
  refine Run.condT rfl ?_
  refine Run.seq ?_
  refine Run.ops0 (idx := [0]) rfl ?_
  refine Run.go rfl rfl rfl (sem_assign ((Value.slice none 0 0)) rfl ?_)
  refine Run.region_end ?_
  refine Run.ret ⟨.inr rfl, ?_⟩
  exact hS.imp fun h' hq => ⟨none, 0, 0, rfl, hq⟩
 ·have hS := hF hb7; clear hT hF
  refine Run.go rfl rfl rfl (sem_slNilF (a1) (n2) (c3) (.inl rfl) false rfl rfl TF.sl_191 hb7 rfl ?_)
  refine Run.region_end ?_
  refine Run.condF rfl ?_
  refine Run.skip ?_
  refine Run.seq ?_
  refine Run.ops0 (idx := [0, 1, 2, 3]) rfl ?_
  refine Run.go rfl rfl rfl (sem_buildSlice0N TF.slc_191 (fun k8 hb1 hb2 h9 hb3 => ?_))
  have hS := hS k8 hb1 hb2 h9 hb3
  refine Run.go rfl rfl rfl (sem_move ((Value.slice a1 n2 c3)) rfl ?_)
  refine Run.go rfl rfl rfl (sem_appendL [(Value.slice (some ⟨k8, 0, none⟩) 0 0), (Value.slice a1 n2 c3)] rfl (semH_mono (fun v h10 hv => ?_) hS))
  obtain ⟨a11, n12, c13, rfl, hS⟩ := hv
  refine Run.go rfl rfl rfl (sem_assign ((Value.slice a11 n12 c13)) rfl ?_)
  refine Run.region_end ?_
  refine Run.ret ⟨.inr rfl, ?_⟩
  exact hS.imp fun h' hq => ⟨a11, n12, c13, rfl, hq⟩
end Go.Proofs.Ythloobpjkeodgaa.H
