/- The functions do what they ask for. No condition. -/
import Derived.Test.YtcncdfmnpmmikaaXmS
namespace Go.Proofs.Ytcncdfmnpmmikaa.H
open Go
set_option linter.unusedVariables false
set_option maxRecDepth 100000

set_option maxHeartbeats 4000000 in
theorem C_countermandlaw17_MarkCopies.of {B : RO} {i1 : Int} {i2 : Int} {i3 : Int} {i4 : Int} {i5 : Int} {i6 : Int} {i7 : Int} {i8 : Int} {h : Heap} {Q : Bool → Heap → Prop} (hS : S_countermandlaw17_MarkCopies B i1 i2 i3 i4 i5 i6 i7 i8 h Q) : C_countermandlaw17_MarkCopies B i1 i2 i3 i4 i5 i6 i7 i8 h Q := by
 unfold S_countermandlaw17_MarkCopies at hS
 unfold C_countermandlaw17_MarkCopies
 refine Spec.of_run Try.func3 (N := 110) (rs := [ResultVar.tmp 10]) rfl rfl rfl (Nat.le_of_ble_eq_true rfl) ?_
 refine Run.seq ?_
 refine Run.ops0 (idx := [0, 1]) rfl ?_
 refine Run.go rfl rfl rfl (sem_boxNN [(Value.int .i64 (i1)), (Value.int .i64 (i2)), (Value.int .i64 (i3)), (Value.int .i64 (i4))] rfl (fun k10 hb1 hb2 h11 hb3 => ?_))
 have hS := hS k10 hb1 hb2 h11 hb3
 refine Run.go rfl rfl rfl (sem_assign ((Value.bool false)) rfl ?_)
 refine Run.region_end ?_
 refine Run.seq ?_
 refine Run.seq ?_
 refine Run.ops0 (idx := [0, 1]) rfl ?_
 refine Run.go rfl rfl rfl (sem_callL [] (TF.goes_14) rfl rfl (Spec.mono hS fun v h12 hv => ?_))
 obtain ⟨b13, rfl, hS⟩ := hv
 obtain ⟨hT, hF⟩ := hS
 cases b13
 ·have hS := hF rfl; clear hT hF
  refine Run.go rfl rfl rfl (sem_not false rfl ?_)
  refine Run.region_end ?_
  refine Run.condT rfl ?_
  refine Run.seq ?_
  refine Run.ops0 (idx := [0]) rfl ?_
  refine Run.go rfl rfl rfl (sem_assign ((Value.bool false)) rfl ?_)
  refine Run.region_end ?_
  refine Run.ret ⟨.inr rfl, ?_⟩
  exact hS.imp fun h' hq => ⟨(false), rfl, hq⟩
 ·have hS := hT rfl; clear hT hF
  refine Run.go rfl rfl rfl (sem_not true rfl ?_)
  refine Run.region_end ?_
  refine Run.condF rfl ?_
  refine Run.skip ?_
  refine Run.seq ?_
  refine Run.ops0 (idx := [0, 1]) rfl ?_
  refine Run.go rfl rfl rfl (sem_callL [] (TF.goes_15) rfl rfl (Spec.mono hS fun v h14 hv => ?_))
  obtain ⟨p15, rfl, hS⟩ := hv
  refine Run.go rfl rfl rfl (sem_assign ((Value.pointer p15)) rfl ?_)
  refine Run.region_end ?_
  refine Run.seq ?_
  refine Run.ops0 (idx := [0, 1, 2, 3]) rfl ?_
  obtain ⟨i16, i17, i18, i19, hl, hS⟩ := hS
  refine Run.go rfl rfl rfl (sem_loadN ⟨k10, 0, none⟩ [(Value.int .i64 (i16)), (Value.int .i64 (i17)), (Value.int .i64 (i18)), (Value.int .i64 (i19))] rfl TF.agg_23 TF.sz_23 hl ?_)
  refine Run.go rfl rfl rfl (sem_callL [(Value.agg #[(Value.int .i64 (i16)), (Value.int .i64 (i17)), (Value.int .i64 (i18)), (Value.int .i64 (i19))])] (TF.goes_16) rfl rfl (Spec.mono hS fun v h20 hv => ?_))
  obtain ⟨p21, p22, p23, i24, i25, i26, i27, rfl, hS⟩ := hv
  refine Run.go rfl rfl rfl (sem_allocN [(Value.pointer none), (Value.pointer none), (Value.pointer none), (Value.int .i64 (0)), (Value.int .i64 (0)), (Value.int .i64 (0)), (Value.int .i64 (0))] TF.zero_31 (fun k28 hb1 hb2 h29 hb3 => ?_))
  have hS := hS k28 hb1 hb2 h29 hb3
  obtain ⟨h30, hst, hS⟩ := hS
  refine Run.go rfl rfl rfl (sem_storeN ⟨k28, 0, none⟩ [(Value.pointer p21), (Value.pointer p22), (Value.pointer p23), (Value.int .i64 (i24)), (Value.int .i64 (i25)), (Value.int .i64 (i26)), (Value.int .i64 (i27))] h30 rfl rfl TF.sz_31 hst ?_)
  refine Run.region_end ?_
  refine Run.seq ?_
  refine Run.ops0 (idx := [0, 1, 2, 3, 4]) rfl ?_
  refine Run.go rfl rfl rfl (sem_fieldAddr ⟨k28, 0, none⟩ 0 rfl TF.fld_31_0 ?_)
  obtain ⟨p31, hl, hS⟩ := hS
  refine Run.go rfl rfl rfl (sem_load1 ⟨k28, 0, none⟩ ((Value.pointer p31)) rfl TF.agg_27 hl ?_)
  refine Run.go rfl rfl rfl (sem_move ((Value.int .i64 (i5))) rfl ?_)
  refine Run.go rfl rfl rfl (sem_move ((Value.int .i64 (i6))) rfl ?_)
  refine Run.go rfl rfl rfl (sem_callL [(Value.pointer p31), (Value.int .i64 (i5)), (Value.int .i64 (i6))] (TF.goes_17) rfl rfl (Spec.mono hS fun v h32 hv => ?_))
  obtain ⟨b33, rfl, hS⟩ := hv
  refine Run.region_end ?_
  refine Run.seq ?_
  refine Run.ops0 (idx := [0, 1, 2]) rfl ?_
  refine Run.go rfl rfl rfl (sem_fieldAddr ⟨k28, 0, none⟩ 2 rfl TF.fld_31_2 ?_)
  obtain ⟨p34, hl, hS⟩ := hS
  refine Run.go rfl rfl rfl (sem_load1 ⟨k28, 2, none⟩ ((Value.pointer p34)) rfl TF.agg_29 hl ?_)
  refine Run.go rfl rfl rfl (sem_callL [(Value.pointer p34), (Value.int .i64 (1))] (TF.goes_18) rfl rfl (Spec.mono hS fun v h35 hv => ?_))
  obtain ⟨b36, rfl, hS⟩ := hv
  refine Run.region_end ?_
  refine Run.seq ?_
  refine Run.ops0 (idx := [0, 1, 2, 3]) rfl ?_
  obtain ⟨p37, p38, p39, i40, i41, i42, i43, hl, hS⟩ := hS
  refine Run.go rfl rfl rfl (sem_loadN ⟨k28, 0, none⟩ [(Value.pointer p37), (Value.pointer p38), (Value.pointer p39), (Value.int .i64 (i40)), (Value.int .i64 (i41)), (Value.int .i64 (i42)), (Value.int .i64 (i43))] rfl TF.agg_31 TF.sz_31 hl ?_)
  refine Run.go rfl rfl rfl (sem_callL [(Value.agg #[(Value.pointer p37), (Value.pointer p38), (Value.pointer p39), (Value.int .i64 (i40)), (Value.int .i64 (i41)), (Value.int .i64 (i42)), (Value.int .i64 (i43))])] (TF.goes_19) rfl rfl (Spec.mono hS fun v h44 hv => ?_))
  obtain ⟨p45, p46, p47, i48, i49, i50, i51, rfl, hS⟩ := hv
  refine Run.go rfl rfl rfl (sem_allocN [(Value.pointer none), (Value.pointer none), (Value.pointer none), (Value.int .i64 (0)), (Value.int .i64 (0)), (Value.int .i64 (0)), (Value.int .i64 (0))] TF.zero_31 (fun k52 hb1 hb2 h53 hb3 => ?_))
  have hS := hS k52 hb1 hb2 h53 hb3
  obtain ⟨h54, hst, hS⟩ := hS
  refine Run.go rfl rfl rfl (sem_storeN ⟨k52, 0, none⟩ [(Value.pointer p45), (Value.pointer p46), (Value.pointer p47), (Value.int .i64 (i48)), (Value.int .i64 (i49)), (Value.int .i64 (i50)), (Value.int .i64 (i51))] h54 rfl rfl TF.sz_31 hst ?_)
  refine Run.region_end ?_
  refine Run.seq ?_
  refine Run.ops0 (idx := [0, 1, 2, 3, 4, 5, 6, 7, 8]) rfl ?_
  refine Run.go rfl rfl rfl (sem_fieldAddr ⟨k52, 0, none⟩ 0 rfl TF.fld_31_0 ?_)
  obtain ⟨p55, hl, hS⟩ := hS
  refine Run.go rfl rfl rfl (sem_load1 ⟨k52, 0, none⟩ ((Value.pointer p55)) rfl TF.agg_27 hl ?_)
  refine Run.go rfl rfl rfl (sem_move ((Value.int .i64 (i5))) rfl ?_)
  refine Run.go rfl rfl rfl (sem_callL [(Value.pointer p55), (Value.int .i64 (i5))] (TF.goes_20) rfl rfl (Spec.mono hS fun v h56 hv => ?_))
  obtain ⟨i57, b58, rfl, hS⟩ := hv
  refine Run.go rfl rfl rfl (sem_move ((Value.tuple #[(Value.int .i64 (i57)), (Value.bool b58)])) rfl ?_)
  refine Run.go rfl rfl rfl (sem_extract #[(Value.int .i64 (i57)), (Value.bool b58)] ((Value.int .i64 (i57))) rfl rfl ?_)
  refine Run.go rfl rfl rfl (sem_extract #[(Value.int .i64 (i57)), (Value.bool b58)] ((Value.bool b58)) rfl rfl ?_)
  refine Run.go rfl rfl rfl (sem_assign ((Value.int .i64 (i57))) rfl ?_)
  refine Run.go rfl rfl rfl (sem_assign ((Value.bool b58)) rfl ?_)
  refine Run.region_end ?_
  refine Run.seqJ (fun e h60 => Agree [(1, (Value.int .i64 (i5))), (2, (Value.int .i64 (i6))), (3, (Value.int .i64 (i7))), (4, (Value.int .i64 (i8))), (5, (Value.pointer (some ⟨k10, 0, none⟩))), (11, (Value.pointer p15)), (12, (Value.pointer (some ⟨k28, 0, none⟩))), (13, (Value.pointer (some ⟨k52, 0, none⟩)))] e ∧ S_countermandlaw17_MarkCopies_J1 B i5 i6 i7 i8 k10 p15 k28 k52 h60 Q) ?_ fun j59 => ?_
  ·rintro e h60 ⟨hag, hS⟩
   refine Run.env hag ?_; clear hag
   refine Run.seq ?_
   refine Run.ops0 (idx := [0, 1, 2, 3, 4, 5]) rfl ?_
   refine Run.go rfl rfl rfl (sem_fieldAddr ⟨k52, 0, none⟩ 0 rfl TF.fld_31_0 ?_)
   obtain ⟨p61, hl, hS⟩ := hS
   refine Run.go rfl rfl rfl (sem_load1 ⟨k52, 0, none⟩ ((Value.pointer p61)) rfl TF.agg_27 hl ?_)
   refine Run.go rfl rfl rfl (sem_move ((Value.int .i64 (i5))) rfl ?_)
   refine Run.go rfl rfl rfl (sem_move ((Value.int .i64 (i6))) rfl ?_)
   refine Run.go rfl rfl rfl (sem_binI .i64 (i6) (1) ((Value.int .i64 (IntKind.wrap .i64 ((BitVec.ofInt (IntKind.bits .i64) (i6) ^^^ BitVec.ofInt (IntKind.bits .i64) (1)).toNat : Int)))) rfl rfl rfl ?_)
   refine Run.go rfl rfl rfl (sem_callL [(Value.pointer p61), (Value.int .i64 (i5)), (Value.int .i64 (IntKind.wrap .i64 ((BitVec.ofInt (IntKind.bits .i64) (i6) ^^^ BitVec.ofInt (IntKind.bits .i64) (1)).toNat : Int)))] (TF.goes_17) rfl rfl (Spec.mono hS fun v h62 hv => ?_))
   obtain ⟨b63, rfl, hS⟩ := hv
   refine Run.region_end ?_
   refine Run.seq ?_
   refine Run.ops0 (idx := [0, 1, 2, 3, 4]) rfl ?_
   refine Run.go rfl rfl rfl (sem_fieldAddr ⟨k52, 0, none⟩ 1 rfl TF.fld_31_1 ?_)
   obtain ⟨p64, hl, hS⟩ := hS
   refine Run.go rfl rfl rfl (sem_load1 ⟨k52, 1, none⟩ ((Value.pointer p64)) rfl TF.agg_28 hl ?_)
   refine Run.go rfl rfl rfl (sem_move ((Value.pointer p15)) rfl ?_)
   refine Run.go rfl rfl rfl (sem_move ((Value.int .i64 (i7))) rfl ?_)
   refine Run.go rfl rfl rfl (sem_callL [(Value.pointer p64), (Value.pointer p15), (Value.int .i64 (i7))] (TF.goes_22) rfl rfl (Spec.mono hS fun v h65 hv => ?_))
   obtain ⟨b66, rfl, hS⟩ := hv
   refine Run.region_end ?_
   refine Run.seq ?_
   refine Run.ops0 (idx := [0, 1, 2]) rfl ?_
   refine Run.go rfl rfl rfl (sem_fieldAddr ⟨k52, 0, none⟩ 2 rfl TF.fld_31_2 ?_)
   obtain ⟨p67, hl, hS⟩ := hS
   refine Run.go rfl rfl rfl (sem_load1 ⟨k52, 2, none⟩ ((Value.pointer p67)) rfl TF.agg_29 hl ?_)
   refine Run.go rfl rfl rfl (sem_callL [(Value.pointer p67), (Value.int .i64 (1))] (TF.goes_18) rfl rfl (Spec.mono hS fun v h68 hv => ?_))
   obtain ⟨b69, rfl, hS⟩ := hv
   refine Run.region_end ?_
   refine Run.seq ?_
   refine Run.ops0 (idx := [0, 1, 2, 3, 4, 5]) rfl ?_
   refine Run.go rfl rfl rfl (sem_move ((Value.int .i64 (i8))) rfl ?_)
   refine Run.go rfl rfl rfl (sem_binI .i64 (i8) (3) ((Value.int .i64 (IntKind.wrap .i64 ((BitVec.ofInt (IntKind.bits .i64) (i8) &&& BitVec.ofInt (IntKind.bits .i64) (3)).toNat : Int)))) rfl rfl rfl ?_)
   refine Run.go rfl rfl rfl (sem_move ((Value.int .i64 (i8))) rfl ?_)
   refine Run.go rfl rfl rfl (sem_fieldAddr ⟨k52, 0, none⟩ 3 rfl TF.fld_31_3 ?_)
   obtain ⟨hi0, hi1, hS⟩ := hS
   refine Run.go rfl rfl rfl (sem_indexAddrA ⟨k52, 3, none⟩ .i64 (IntKind.wrap .i64 ((BitVec.ofInt (IntKind.bits .i64) (i8) &&& BitVec.ofInt (IntKind.bits .i64) (3)).toNat : Int)) rfl rfl TF.arr_23 hi0 hi1 ?_)
   obtain ⟨h70, hst, hS⟩ := hS
   refine Run.go rfl rfl rfl (sem_store1 (Addr.add ⟨k52, 3, none⟩ (Int.toNat (IntKind.wrap .i64 ((BitVec.ofInt (IntKind.bits .i64) (i8) &&& BitVec.ofInt (IntKind.bits .i64) (3)).toNat : Int)) * 1)) ((Value.int .i64 (i8))) h70 rfl rfl rfl TF.sz_3 hst ?_)
   refine Run.region_end ?_
   refine Run.seq ?_
   refine Run.ops0 (idx := [0, 1, 2, 3, 4, 5, 6, 7, 8]) rfl ?_
   refine Run.go rfl rfl rfl (sem_fieldAddr ⟨k28, 0, none⟩ 0 rfl TF.fld_31_0 ?_)
   obtain ⟨p71, hl, hS⟩ := hS
   refine Run.go rfl rfl rfl (sem_load1 ⟨k28, 0, none⟩ ((Value.pointer p71)) rfl TF.agg_27 hl ?_)
   refine Run.go rfl rfl rfl (sem_move ((Value.int .i64 (i5))) rfl ?_)
   refine Run.go rfl rfl rfl (sem_callL [(Value.pointer p71), (Value.int .i64 (i5))] (TF.goes_20) rfl rfl (Spec.mono hS fun v h72 hv => ?_))
   obtain ⟨i73, b74, rfl, hS⟩ := hv
   refine Run.go rfl rfl rfl (sem_move ((Value.tuple #[(Value.int .i64 (i73)), (Value.bool b74)])) rfl ?_)
   refine Run.go rfl rfl rfl (sem_extract #[(Value.int .i64 (i73)), (Value.bool b74)] ((Value.int .i64 (i73))) rfl rfl ?_)
   refine Run.go rfl rfl rfl (sem_extract #[(Value.int .i64 (i73)), (Value.bool b74)] ((Value.bool b74)) rfl rfl ?_)
   refine Run.go rfl rfl rfl (sem_assign ((Value.int .i64 (i73))) rfl ?_)
   refine Run.go rfl rfl rfl (sem_assign ((Value.bool b74)) rfl ?_)
   refine Run.region_end ?_
   refine Run.seq ?_
   refine Run.ops0 (idx := [0, 1, 2, 3, 4, 5, 6, 7, 8, 9, 10]) rfl ?_
   refine Run.go rfl rfl rfl (sem_fieldAddr ⟨k28, 0, none⟩ 1 rfl TF.fld_31_1 ?_)
   obtain ⟨p75, hl, hS⟩ := hS
   refine Run.go rfl rfl rfl (sem_load1 ⟨k28, 1, none⟩ ((Value.pointer p75)) rfl TF.agg_28 hl ?_)
   refine Run.go rfl rfl rfl (sem_move ((Value.pointer p15)) rfl ?_)
   refine Run.go rfl rfl rfl (sem_move ((Value.int .i64 (i7))) rfl ?_)
   refine Run.go rfl rfl rfl (sem_callL [(Value.pointer p75), (Value.pointer p15), (Value.int .i64 (i7))] (TF.goes_23) rfl rfl (Spec.mono hS fun v h76 hv => ?_))
   obtain ⟨b77, s78, b79, rfl, hS⟩ := hv
   refine Run.go rfl rfl rfl (sem_move ((Value.tuple #[(Value.agg #[(Value.bool b77), (Value.string s78)]), (Value.bool b79)])) rfl ?_)
   refine Run.go rfl rfl rfl (sem_extract #[(Value.agg #[(Value.bool b77), (Value.string s78)]), (Value.bool b79)] ((Value.agg #[(Value.bool b77), (Value.string s78)])) rfl rfl ?_)
   obtain ⟨hT, hF⟩ := hS
   cases b79
   ·have hS := hF rfl; clear hT hF
    refine Run.go rfl rfl rfl (sem_extract #[(Value.agg #[(Value.bool b77), (Value.string s78)]), (Value.bool false)] (.bool false) rfl rfl ?_)
    refine Run.go rfl rfl rfl (sem_allocN [(Value.bool false), (Value.string ByteArray.empty)] TF.zero_41 (fun k80 hb1 hb2 h81 hb3 => ?_))
    have hS := hS k80 hb1 hb2 h81 hb3
    obtain ⟨h82, hst, hS⟩ := hS
    refine Run.go rfl rfl rfl (sem_storeN ⟨k80, 0, none⟩ [(Value.bool b77), (Value.string s78)] h82 rfl rfl TF.sz_41 hst ?_)
    refine Run.go rfl rfl rfl (sem_assign ((Value.bool false)) rfl ?_)
    refine Run.region_end ?_
    refine Run.seq ?_
    refine Run.ops0 (idx := [0, 1, 2, 3, 4, 5, 6, 7, 8, 9, 10, 11, 12, 13, 14, 15, 16, 17, 18, 19]) rfl ?_
    refine Run.go rfl rfl rfl (sem_move ((Value.int .i64 (i73))) rfl ?_)
    refine Run.go rfl rfl rfl (sem_move ((Value.int .i64 (i6))) rfl ?_)
    obtain ⟨hT, hF⟩ := hS
    by_cases hb83 : (i73 : Int) = i6
    ·have hS := hT hb83; clear hT hF
     refine Run.go rfl rfl rfl (sem_binI .i64 (i73) (i6) (.bool true) rfl rfl (binI_eql_t hb83) ?_)
     refine Run.go rfl rfl rfl (sem_move ((Value.bool true)) rfl ?_)
     refine Run.go rfl rfl rfl (sem_move ((Value.bool false)) rfl ?_)
     refine Run.go rfl rfl rfl (sem_not false rfl ?_)
     refine Run.go rfl rfl rfl (sem_pick true ((Value.bool true)) rfl rfl ?_)
     refine Run.go rfl rfl rfl (sem_move ((Value.bool true)) rfl ?_)
     refine Run.go rfl rfl rfl (sem_fieldAddr ⟨k28, 0, none⟩ 2 rfl TF.fld_31_2 ?_)
     obtain ⟨p84, hl, hS⟩ := hS
     refine Run.go rfl rfl rfl (sem_load1 ⟨k28, 2, none⟩ ((Value.pointer p84)) rfl TF.agg_29 hl ?_)
     refine Run.go rfl rfl rfl (sem_callL [(Value.pointer p84), (Value.int .i64 (1))] (TF.goes_21) rfl rfl (Spec.mono hS fun v h85 hv => ?_))
     obtain ⟨i86, rfl, hS⟩ := hv
     obtain ⟨hT, hF⟩ := hS
     by_cases hb87 : (i86 : Int) = 1
     ·have hS := hT hb87; clear hT hF
      refine Run.go rfl rfl rfl (sem_binI .i64 (i86) (1) (.bool true) rfl rfl (binI_eql_t hb87) ?_)
      refine Run.go rfl rfl rfl (sem_pick true ((Value.bool true)) rfl rfl ?_)
      refine Run.go rfl rfl rfl (sem_move ((Value.bool true)) rfl ?_)
      refine Run.go rfl rfl rfl (sem_fieldAddr ⟨k28, 0, none⟩ 3 rfl TF.fld_31_3 ?_)
      obtain ⟨i88, i89, i90, i91, hl, hS⟩ := hS
      refine Run.go rfl rfl rfl (sem_loadN ⟨k28, 3, none⟩ [(Value.int .i64 (i88)), (Value.int .i64 (i89)), (Value.int .i64 (i90)), (Value.int .i64 (i91))] rfl TF.agg_23 TF.sz_23 hl ?_)
      obtain ⟨i92, i93, i94, i95, hl, hS⟩ := hS
      refine Run.go rfl rfl rfl (sem_loadN ⟨k10, 0, none⟩ [(Value.int .i64 (i92)), (Value.int .i64 (i93)), (Value.int .i64 (i94)), (Value.int .i64 (i95))] rfl TF.agg_23 TF.sz_23 hl ?_)
      refine Run.go rfl rfl rfl (sem_aggEq [(Value.int .i64 (i88)), (Value.int .i64 (i89)), (Value.int .i64 (i90)), (Value.int .i64 (i91))] [(Value.int .i64 (i92)), (Value.int .i64 (i93)), (Value.int .i64 (i94)), (Value.int .i64 (i95))] _ ((decide (eqL [(Value.int .i64 (i88)), (Value.int .i64 (i89)), (Value.int .i64 (i90)), (Value.int .i64 (i91))] [(Value.int .i64 (i92)), (Value.int .i64 (i93)), (Value.int .i64 (i94)), (Value.int .i64 (i95))] = true))) (.inl rfl) rfl rfl TF.agg_23 TF.flat_23 TF.eqg_23 ⟨⟨_, rfl⟩, ⟨_, rfl⟩, ⟨_, rfl⟩, ⟨_, rfl⟩, trivial⟩ ⟨⟨_, rfl⟩, ⟨_, rfl⟩, ⟨_, rfl⟩, ⟨_, rfl⟩, trivial⟩ eqLV_eql ?_)
      refine Run.go rfl rfl rfl (sem_pick true ((Value.bool (decide (eqL [(Value.int .i64 (i88)), (Value.int .i64 (i89)), (Value.int .i64 (i90)), (Value.int .i64 (i91))] [(Value.int .i64 (i92)), (Value.int .i64 (i93)), (Value.int .i64 (i94)), (Value.int .i64 (i95))] = true)))) rfl rfl ?_)
      refine Run.go rfl rfl rfl (sem_assign ((Value.bool (decide (eqL [(Value.int .i64 (i88)), (Value.int .i64 (i89)), (Value.int .i64 (i90)), (Value.int .i64 (i91))] [(Value.int .i64 (i92)), (Value.int .i64 (i93)), (Value.int .i64 (i94)), (Value.int .i64 (i95))] = true)))) rfl ?_)
      refine Run.region_end ?_
      refine Run.ret ⟨.inr rfl, ?_⟩
      exact hS.imp fun h' hq => ⟨((decide (eqL [(Value.int .i64 (i88)), (Value.int .i64 (i89)), (Value.int .i64 (i90)), (Value.int .i64 (i91))] [(Value.int .i64 (i92)), (Value.int .i64 (i93)), (Value.int .i64 (i94)), (Value.int .i64 (i95))] = true))), rfl, hq⟩
     ·have hS := hF hb87; clear hT hF
      refine Run.go rfl rfl rfl (sem_binI .i64 (i86) (1) (.bool false) rfl rfl (binI_eql_f hb87) ?_)
      refine Run.go rfl rfl rfl (sem_pick true ((Value.bool false)) rfl rfl ?_)
      refine Run.go rfl rfl rfl (sem_move ((Value.bool false)) rfl ?_)
      refine Run.no rfl rfl rfl ?_
      refine Run.no rfl rfl rfl ?_
      refine Run.no rfl rfl rfl ?_
      refine Run.no rfl rfl rfl ?_
      refine Run.go rfl rfl rfl (sem_pick false ((Value.bool false)) rfl rfl ?_)
      refine Run.go rfl rfl rfl (sem_assign ((Value.bool false)) rfl ?_)
      refine Run.region_end ?_
      refine Run.ret ⟨.inr rfl, ?_⟩
      exact hS.imp fun h' hq => ⟨(false), rfl, hq⟩
    ·have hS := hF hb83; clear hT hF
     refine Run.go rfl rfl rfl (sem_binI .i64 (i73) (i6) (.bool false) rfl rfl (binI_eql_f hb83) ?_)
     refine Run.go rfl rfl rfl (sem_move ((Value.bool false)) rfl ?_)
     refine Run.no rfl rfl rfl ?_
     refine Run.no rfl rfl rfl ?_
     refine Run.go rfl rfl rfl (sem_pick false ((Value.bool false)) rfl rfl ?_)
     refine Run.go rfl rfl rfl (sem_move ((Value.bool false)) rfl ?_)
     refine Run.no rfl rfl rfl ?_
     refine Run.no rfl rfl rfl ?_
     refine Run.no rfl rfl rfl ?_
     refine Run.no rfl rfl rfl ?_
     refine Run.go rfl rfl rfl (sem_pick false ((Value.bool false)) rfl rfl ?_)
     refine Run.go rfl rfl rfl (sem_move ((Value.bool false)) rfl ?_)
     refine Run.no rfl rfl rfl ?_
     refine Run.no rfl rfl rfl ?_
     refine Run.no rfl rfl rfl ?_
     refine Run.no rfl rfl rfl ?_
     refine Run.go rfl rfl rfl (sem_pick false ((Value.bool false)) rfl rfl ?_)
     refine Run.go rfl rfl rfl (sem_assign ((Value.bool false)) rfl ?_)
     refine Run.region_end ?_
     refine Run.ret ⟨.inr rfl, ?_⟩
     exact hS.imp fun h' hq => ⟨(false), rfl, hq⟩
   ·have hS := hT rfl; clear hT hF
    refine Run.go rfl rfl rfl (sem_extract #[(Value.agg #[(Value.bool b77), (Value.string s78)]), (Value.bool true)] (.bool true) rfl rfl ?_)
    refine Run.go rfl rfl rfl (sem_allocN [(Value.bool false), (Value.string ByteArray.empty)] TF.zero_41 (fun k96 hb1 hb2 h97 hb3 => ?_))
    have hS := hS k96 hb1 hb2 h97 hb3
    obtain ⟨h98, hst, hS⟩ := hS
    refine Run.go rfl rfl rfl (sem_storeN ⟨k96, 0, none⟩ [(Value.bool b77), (Value.string s78)] h98 rfl rfl TF.sz_41 hst ?_)
    refine Run.go rfl rfl rfl (sem_assign ((Value.bool true)) rfl ?_)
    refine Run.region_end ?_
    refine Run.seq ?_
    refine Run.ops0 (idx := [0, 1, 2, 3, 4, 5, 6, 7, 8, 9, 10, 11, 12, 13, 14, 15, 16, 17, 18, 19]) rfl ?_
    refine Run.go rfl rfl rfl (sem_move ((Value.int .i64 (i73))) rfl ?_)
    refine Run.go rfl rfl rfl (sem_move ((Value.int .i64 (i6))) rfl ?_)
    obtain ⟨hT, hF⟩ := hS
    by_cases hb99 : (i73 : Int) = i6
    ·have hS := hT hb99; clear hT hF
     refine Run.go rfl rfl rfl (sem_binI .i64 (i73) (i6) (.bool true) rfl rfl (binI_eql_t hb99) ?_)
     refine Run.go rfl rfl rfl (sem_move ((Value.bool true)) rfl ?_)
     refine Run.go rfl rfl rfl (sem_move ((Value.bool true)) rfl ?_)
     refine Run.go rfl rfl rfl (sem_not true rfl ?_)
     refine Run.go rfl rfl rfl (sem_pick true ((Value.bool false)) rfl rfl ?_)
     refine Run.go rfl rfl rfl (sem_move ((Value.bool false)) rfl ?_)
     refine Run.no rfl rfl rfl ?_
     refine Run.no rfl rfl rfl ?_
     refine Run.no rfl rfl rfl ?_
     refine Run.no rfl rfl rfl ?_
     refine Run.go rfl rfl rfl (sem_pick false ((Value.bool false)) rfl rfl ?_)
     refine Run.go rfl rfl rfl (sem_move ((Value.bool false)) rfl ?_)
     refine Run.no rfl rfl rfl ?_
     refine Run.no rfl rfl rfl ?_
     refine Run.no rfl rfl rfl ?_
     refine Run.no rfl rfl rfl ?_
     refine Run.go rfl rfl rfl (sem_pick false ((Value.bool false)) rfl rfl ?_)
     refine Run.go rfl rfl rfl (sem_assign ((Value.bool false)) rfl ?_)
     refine Run.region_end ?_
     refine Run.ret ⟨.inr rfl, ?_⟩
     exact hS.imp fun h' hq => ⟨(false), rfl, hq⟩
    ·have hS := hF hb99; clear hT hF
     refine Run.go rfl rfl rfl (sem_binI .i64 (i73) (i6) (.bool false) rfl rfl (binI_eql_f hb99) ?_)
     refine Run.go rfl rfl rfl (sem_move ((Value.bool false)) rfl ?_)
     refine Run.no rfl rfl rfl ?_
     refine Run.no rfl rfl rfl ?_
     refine Run.go rfl rfl rfl (sem_pick false ((Value.bool false)) rfl rfl ?_)
     refine Run.go rfl rfl rfl (sem_move ((Value.bool false)) rfl ?_)
     refine Run.no rfl rfl rfl ?_
     refine Run.no rfl rfl rfl ?_
     refine Run.no rfl rfl rfl ?_
     refine Run.no rfl rfl rfl ?_
     refine Run.go rfl rfl rfl (sem_pick false ((Value.bool false)) rfl rfl ?_)
     refine Run.go rfl rfl rfl (sem_move ((Value.bool false)) rfl ?_)
     refine Run.no rfl rfl rfl ?_
     refine Run.no rfl rfl rfl ?_
     refine Run.no rfl rfl rfl ?_
     refine Run.no rfl rfl rfl ?_
     refine Run.go rfl rfl rfl (sem_pick false ((Value.bool false)) rfl rfl ?_)
     refine Run.go rfl rfl rfl (sem_assign ((Value.bool false)) rfl ?_)
     refine Run.region_end ?_
     refine Run.ret ⟨.inr rfl, ?_⟩
     exact hS.imp fun h' hq => ⟨(false), rfl, hq⟩
  refine Run.seq ?_
  refine Run.ops0 (idx := [0, 1, 2, 3, 4, 5, 6, 7, 8, 9, 10, 11, 12, 13, 14]) rfl ?_
  refine Run.go rfl rfl rfl (sem_move ((Value.int .i64 (i57))) rfl ?_)
  refine Run.go rfl rfl rfl (sem_move ((Value.int .i64 (i6))) rfl ?_)
  obtain ⟨hT, hF⟩ := hS
  by_cases hb100 : (i57 : Int) = i6
  ·have hS := hT hb100; clear hT hF
   refine Run.go rfl rfl rfl (sem_binI .i64 (i57) (i6) (.bool false) rfl rfl (binI_neq_t hb100) ?_)
   refine Run.go rfl rfl rfl (sem_move ((Value.bool false)) rfl ?_)
   refine Run.go rfl rfl rfl (sem_fieldAddr ⟨k52, 0, none⟩ 2 rfl TF.fld_31_2 ?_)
   obtain ⟨p101, hl, hS⟩ := hS
   refine Run.go rfl rfl rfl (sem_load1 ⟨k52, 2, none⟩ ((Value.pointer p101)) rfl TF.agg_29 hl ?_)
   refine Run.go rfl rfl rfl (sem_callL [(Value.pointer p101), (Value.int .i64 (1))] (TF.goes_21) rfl rfl (Spec.mono hS fun v h102 hv => ?_))
   obtain ⟨i103, rfl, hS⟩ := hv
   obtain ⟨hT, hF⟩ := hS
   by_cases hb104 : (i103 : Int) = 1
   ·have hS := hT hb104; clear hT hF
    refine Run.go rfl rfl rfl (sem_binI .i64 (i103) (1) (.bool false) rfl rfl (binI_neq_t hb104) ?_)
    refine Run.go rfl rfl rfl (sem_pick false ((Value.bool false)) rfl rfl ?_)
    refine Run.go rfl rfl rfl (sem_move ((Value.bool false)) rfl ?_)
    refine Run.go rfl rfl rfl (sem_fieldAddr ⟨k52, 0, none⟩ 3 rfl TF.fld_31_3 ?_)
    obtain ⟨i105, i106, i107, i108, hl, hS⟩ := hS
    refine Run.go rfl rfl rfl (sem_loadN ⟨k52, 3, none⟩ [(Value.int .i64 (i105)), (Value.int .i64 (i106)), (Value.int .i64 (i107)), (Value.int .i64 (i108))] rfl TF.agg_23 TF.sz_23 hl ?_)
    obtain ⟨i109, i110, i111, i112, hl, hS⟩ := hS
    refine Run.go rfl rfl rfl (sem_loadN ⟨k10, 0, none⟩ [(Value.int .i64 (i109)), (Value.int .i64 (i110)), (Value.int .i64 (i111)), (Value.int .i64 (i112))] rfl TF.agg_23 TF.sz_23 hl ?_)
    obtain ⟨hT, hF⟩ := hS
    by_cases hb113 : eqL [(Value.int .i64 (i105)), (Value.int .i64 (i106)), (Value.int .i64 (i107)), (Value.int .i64 (i108))] [(Value.int .i64 (i109)), (Value.int .i64 (i110)), (Value.int .i64 (i111)), (Value.int .i64 (i112))] = true
    ·have hS := hT hb113; clear hT hF
     refine Run.go rfl rfl rfl (sem_aggEq [(Value.int .i64 (i105)), (Value.int .i64 (i106)), (Value.int .i64 (i107)), (Value.int .i64 (i108))] [(Value.int .i64 (i109)), (Value.int .i64 (i110)), (Value.int .i64 (i111)), (Value.int .i64 (i112))] _ (false) (.inr rfl) rfl rfl TF.agg_23 TF.flat_23 TF.eqg_23 ⟨⟨_, rfl⟩, ⟨_, rfl⟩, ⟨_, rfl⟩, ⟨_, rfl⟩, trivial⟩ ⟨⟨_, rfl⟩, ⟨_, rfl⟩, ⟨_, rfl⟩, ⟨_, rfl⟩, trivial⟩ (eqLT_neq hb113) ?_)
     refine Run.go rfl rfl rfl (sem_pick false ((Value.bool false)) rfl rfl ?_)
     refine Run.region_end ?_
     refine Run.condF rfl ?_
     refine Run.skip ?_
     exact Run.of_fin (hS.imp fun h' hS => j59 _ _ ⟨⟨rfl, rfl, rfl, rfl, rfl, rfl, rfl, rfl, trivial⟩, hS⟩)
    ·have hS := hF hb113; clear hT hF
     refine Run.go rfl rfl rfl (sem_aggEq [(Value.int .i64 (i105)), (Value.int .i64 (i106)), (Value.int .i64 (i107)), (Value.int .i64 (i108))] [(Value.int .i64 (i109)), (Value.int .i64 (i110)), (Value.int .i64 (i111)), (Value.int .i64 (i112))] _ (true) (.inr rfl) rfl rfl TF.agg_23 TF.flat_23 TF.eqg_23 ⟨⟨_, rfl⟩, ⟨_, rfl⟩, ⟨_, rfl⟩, ⟨_, rfl⟩, trivial⟩ ⟨⟨_, rfl⟩, ⟨_, rfl⟩, ⟨_, rfl⟩, ⟨_, rfl⟩, trivial⟩ (eqLF_neq hb113) ?_)
     refine Run.go rfl rfl rfl (sem_pick false ((Value.bool true)) rfl rfl ?_)
     refine Run.region_end ?_
     refine Run.condT rfl ?_
     refine Run.seq ?_
     refine Run.ops0 (idx := [0]) rfl ?_
     refine Run.go rfl rfl rfl (sem_assign ((Value.bool false)) rfl ?_)
     refine Run.region_end ?_
     refine Run.ret ⟨.inr rfl, ?_⟩
     exact hS.imp fun h' hq => ⟨(false), rfl, hq⟩
   ·have hS := hF hb104; clear hT hF
    refine Run.go rfl rfl rfl (sem_binI .i64 (i103) (1) (.bool true) rfl rfl (binI_neq_f hb104) ?_)
    refine Run.go rfl rfl rfl (sem_pick false ((Value.bool true)) rfl rfl ?_)
    refine Run.go rfl rfl rfl (sem_move ((Value.bool true)) rfl ?_)
    refine Run.no rfl rfl rfl ?_
    refine Run.no rfl rfl rfl ?_
    refine Run.no rfl rfl rfl ?_
    refine Run.no rfl rfl rfl ?_
    refine Run.go rfl rfl rfl (sem_pick true ((Value.bool true)) rfl rfl ?_)
    refine Run.region_end ?_
    refine Run.condT rfl ?_
    refine Run.seq ?_
    refine Run.ops0 (idx := [0]) rfl ?_
    refine Run.go rfl rfl rfl (sem_assign ((Value.bool false)) rfl ?_)
    refine Run.region_end ?_
    refine Run.ret ⟨.inr rfl, ?_⟩
    exact hS.imp fun h' hq => ⟨(false), rfl, hq⟩
  ·have hS := hF hb100; clear hT hF
   refine Run.go rfl rfl rfl (sem_binI .i64 (i57) (i6) (.bool true) rfl rfl (binI_neq_f hb100) ?_)
   refine Run.go rfl rfl rfl (sem_move ((Value.bool true)) rfl ?_)
   refine Run.no rfl rfl rfl ?_
   refine Run.no rfl rfl rfl ?_
   refine Run.no rfl rfl rfl ?_
   refine Run.no rfl rfl rfl ?_
   refine Run.go rfl rfl rfl (sem_pick true ((Value.bool true)) rfl rfl ?_)
   refine Run.go rfl rfl rfl (sem_move ((Value.bool true)) rfl ?_)
   refine Run.no rfl rfl rfl ?_
   refine Run.no rfl rfl rfl ?_
   refine Run.no rfl rfl rfl ?_
   refine Run.no rfl rfl rfl ?_
   refine Run.go rfl rfl rfl (sem_pick true ((Value.bool true)) rfl rfl ?_)
   refine Run.region_end ?_
   refine Run.condT rfl ?_
   refine Run.seq ?_
   refine Run.ops0 (idx := [0]) rfl ?_
   refine Run.go rfl rfl rfl (sem_assign ((Value.bool false)) rfl ?_)
   refine Run.region_end ?_
   refine Run.ret ⟨.inr rfl, ?_⟩
   exact hS.imp fun h' hq => ⟨(false), rfl, hq⟩
set_option maxHeartbeats 4000000 in
theorem C_countermandlaw17_alive.of {B : RO} {h : Heap} {Q : Bool → Heap → Prop} (hS : S_countermandlaw17_alive B h Q) : C_countermandlaw17_alive B h Q := by
 unfold S_countermandlaw17_alive at hS
 unfold C_countermandlaw17_alive
 refine Spec.of_run Try.func14 (N := 37) (rs := [ResultVar.tmp 0]) rfl rfl rfl (Nat.le_of_ble_eq_true rfl) ?_
 refine Run.seq ?_
 refine Run.ops0 (idx := [0]) rfl ?_
 refine Run.go rfl rfl rfl (sem_assign ((Value.bool false)) rfl ?_)
 refine Run.region_end ?_
 refine Run.seq ?_
 refine Run.ops0 (idx := [0, 1, 2]) rfl ?_
 refine Run.go rfl rfl rfl (sem_buildSL [] [(Value.slice none 0 0)] TF.zero_103 TF.places_103 rfl rfl ?_)
 refine Run.go rfl rfl rfl (sem_boxNN [(Value.slice none 0 0)] rfl (fun k2 hb1 hb2 h3 hb3 => ?_))
 have hS := hS k2 hb1 hb2 h3 hb3
 refine Run.go rfl rfl rfl (sem_assign ((Value.pointer (some ⟨k2, 0, none⟩))) rfl ?_)
 refine Run.region_end ?_
 refine Run.seq ?_
 refine Run.ops0 (idx := [0, 1, 2, 3]) rfl ?_
 refine Run.go rfl rfl rfl (sem_buildAL [(0, (Value.int .i64 (1)))] [(Value.int .i64 (1)), (Value.int .i64 (0)), (Value.int .i64 (0)), (Value.int .i64 (0))] TF.zero_23 TF.arr_23 rfl rfl ?_)
 refine Run.go rfl rfl rfl (sem_callL [(Value.agg #[(Value.int .i64 (1)), (Value.int .i64 (0)), (Value.int .i64 (0)), (Value.int .i64 (0))])] (TF.goes_16) rfl rfl (Spec.mono hS fun v h4 hv => ?_))
 obtain ⟨p5, p6, p7, i8, i9, i10, i11, rfl, hS⟩ := hv
 refine Run.go rfl rfl rfl (sem_allocN [(Value.pointer none), (Value.pointer none), (Value.pointer none), (Value.int .i64 (0)), (Value.int .i64 (0)), (Value.int .i64 (0)), (Value.int .i64 (0))] TF.zero_31 (fun k12 hb1 hb2 h13 hb3 => ?_))
 have hS := hS k12 hb1 hb2 h13 hb3
 obtain ⟨h14, hst, hS⟩ := hS
 refine Run.go rfl rfl rfl (sem_storeN ⟨k12, 0, none⟩ [(Value.pointer p5), (Value.pointer p6), (Value.pointer p7), (Value.int .i64 (i8)), (Value.int .i64 (i9)), (Value.int .i64 (i10)), (Value.int .i64 (i11))] h14 rfl rfl TF.sz_31 hst ?_)
 refine Run.region_end ?_
 refine Run.seqJ (fun e h16 => Agree [(1, (Value.pointer (some ⟨k2, 0, none⟩)))] e ∧ S_countermandlaw17_alive_J1 B k2 h16 Q) ?_ fun j15 => ?_
 ·rintro e h16 ⟨hag, hS⟩
  refine Run.env hag ?_; clear hag
  refine Run.seq ?_
  refine Run.ops0 (idx := [0, 1, 2, 3, 4, 5, 6, 7]) rfl ?_
  refine Run.go rfl rfl rfl (sem_move ((Value.pointer (some ⟨k2, 0, none⟩))) rfl ?_)
  refine Run.go rfl rfl rfl (sem_callL [(Value.pointer (some ⟨k2, 0, none⟩))] (TF.goes_59) rfl rfl (Spec.mono hS fun v h17 hv => ?_))
  obtain ⟨p18, p19, p20, i21, i22, i23, i24, i25, i26, i27, i28, i29, b30, rfl, hS⟩ := hv
  refine Run.go rfl rfl rfl (sem_move ((Value.tuple #[(Value.agg #[(Value.pointer p18), (Value.pointer p19), (Value.pointer p20), (Value.int .i64 (i21)), (Value.int .i64 (i22)), (Value.int .i64 (i23)), (Value.int .i64 (i24)), (Value.int .i64 (i25)), (Value.int .i64 (i26)), (Value.int .i64 (i27)), (Value.int .i64 (i28)), (Value.int .i64 (i29))]), (Value.bool b30)])) rfl ?_)
  refine Run.go rfl rfl rfl (sem_extract #[(Value.agg #[(Value.pointer p18), (Value.pointer p19), (Value.pointer p20), (Value.int .i64 (i21)), (Value.int .i64 (i22)), (Value.int .i64 (i23)), (Value.int .i64 (i24)), (Value.int .i64 (i25)), (Value.int .i64 (i26)), (Value.int .i64 (i27)), (Value.int .i64 (i28)), (Value.int .i64 (i29))]), (Value.bool b30)] ((Value.agg #[(Value.pointer p18), (Value.pointer p19), (Value.pointer p20), (Value.int .i64 (i21)), (Value.int .i64 (i22)), (Value.int .i64 (i23)), (Value.int .i64 (i24)), (Value.int .i64 (i25)), (Value.int .i64 (i26)), (Value.int .i64 (i27)), (Value.int .i64 (i28)), (Value.int .i64 (i29))])) rfl rfl ?_)
  obtain ⟨hT, hF⟩ := hS
  cases b30
  ·have hS := hF rfl; clear hT hF
   refine Run.go rfl rfl rfl (sem_extract #[(Value.agg #[(Value.pointer p18), (Value.pointer p19), (Value.pointer p20), (Value.int .i64 (i21)), (Value.int .i64 (i22)), (Value.int .i64 (i23)), (Value.int .i64 (i24)), (Value.int .i64 (i25)), (Value.int .i64 (i26)), (Value.int .i64 (i27)), (Value.int .i64 (i28)), (Value.int .i64 (i29))]), (Value.bool false)] (.bool false) rfl rfl ?_)
   refine Run.go rfl rfl rfl (sem_allocN [(Value.pointer none), (Value.pointer none), (Value.pointer none), (Value.int .i64 (0)), (Value.int .i64 (0)), (Value.int .i64 (0)), (Value.int .i64 (0)), (Value.int .i64 (0)), (Value.int .i64 (0)), (Value.int .i64 (0)), (Value.int .i64 (0)), (Value.int .i64 (0))] TF.zero_107 (fun k31 hb1 hb2 h32 hb3 => ?_))
   have hS := hS k31 hb1 hb2 h32 hb3
   obtain ⟨h33, hst, hS⟩ := hS
   refine Run.go rfl rfl rfl (sem_storeN ⟨k31, 0, none⟩ [(Value.pointer p18), (Value.pointer p19), (Value.pointer p20), (Value.int .i64 (i21)), (Value.int .i64 (i22)), (Value.int .i64 (i23)), (Value.int .i64 (i24)), (Value.int .i64 (i25)), (Value.int .i64 (i26)), (Value.int .i64 (i27)), (Value.int .i64 (i28)), (Value.int .i64 (i29))] h33 rfl rfl TF.sz_107 hst ?_)
   refine Run.go rfl rfl rfl (sem_assign ((Value.bool false)) rfl ?_)
   refine Run.region_end ?_
   refine Run.seq ?_
   refine Run.ops0 (idx := [0, 1, 2, 3, 4, 5, 6, 7, 8, 9, 10, 11, 12, 13]) rfl ?_
   refine Run.go rfl rfl rfl (sem_move ((Value.bool false)) rfl ?_)
   refine Run.go rfl rfl rfl (sem_move ((Value.bool false)) rfl ?_)
   refine Run.no rfl rfl rfl ?_
   refine Run.no rfl rfl rfl ?_
   refine Run.no rfl rfl rfl ?_
   refine Run.go rfl rfl rfl (sem_pick false ((Value.bool false)) rfl rfl ?_)
   refine Run.go rfl rfl rfl (sem_move ((Value.bool false)) rfl ?_)
   refine Run.no rfl rfl rfl ?_
   refine Run.no rfl rfl rfl ?_
   refine Run.no rfl rfl rfl ?_
   refine Run.no rfl rfl rfl ?_
   refine Run.no rfl rfl rfl ?_
   refine Run.go rfl rfl rfl (sem_pick false ((Value.bool false)) rfl rfl ?_)
   refine Run.go rfl rfl rfl (sem_assign ((Value.bool false)) rfl ?_)
   refine Run.region_end ?_
   refine Run.ret ⟨.inr rfl, ?_⟩
   exact hS.imp fun h' hq => ⟨(false), rfl, hq⟩
  ·have hS := hT rfl; clear hT hF
   refine Run.go rfl rfl rfl (sem_extract #[(Value.agg #[(Value.pointer p18), (Value.pointer p19), (Value.pointer p20), (Value.int .i64 (i21)), (Value.int .i64 (i22)), (Value.int .i64 (i23)), (Value.int .i64 (i24)), (Value.int .i64 (i25)), (Value.int .i64 (i26)), (Value.int .i64 (i27)), (Value.int .i64 (i28)), (Value.int .i64 (i29))]), (Value.bool true)] (.bool true) rfl rfl ?_)
   refine Run.go rfl rfl rfl (sem_allocN [(Value.pointer none), (Value.pointer none), (Value.pointer none), (Value.int .i64 (0)), (Value.int .i64 (0)), (Value.int .i64 (0)), (Value.int .i64 (0)), (Value.int .i64 (0)), (Value.int .i64 (0)), (Value.int .i64 (0)), (Value.int .i64 (0)), (Value.int .i64 (0))] TF.zero_107 (fun k34 hb1 hb2 h35 hb3 => ?_))
   have hS := hS k34 hb1 hb2 h35 hb3
   obtain ⟨h36, hst, hS⟩ := hS
   refine Run.go rfl rfl rfl (sem_storeN ⟨k34, 0, none⟩ [(Value.pointer p18), (Value.pointer p19), (Value.pointer p20), (Value.int .i64 (i21)), (Value.int .i64 (i22)), (Value.int .i64 (i23)), (Value.int .i64 (i24)), (Value.int .i64 (i25)), (Value.int .i64 (i26)), (Value.int .i64 (i27)), (Value.int .i64 (i28)), (Value.int .i64 (i29))] h36 rfl rfl TF.sz_107 hst ?_)
   refine Run.go rfl rfl rfl (sem_assign ((Value.bool true)) rfl ?_)
   refine Run.region_end ?_
   refine Run.seq ?_
   refine Run.ops0 (idx := [0, 1, 2, 3, 4, 5, 6, 7, 8, 9, 10, 11, 12, 13]) rfl ?_
   refine Run.go rfl rfl rfl (sem_move ((Value.bool true)) rfl ?_)
   refine Run.go rfl rfl rfl (sem_move ((Value.bool true)) rfl ?_)
   refine Run.go rfl rfl rfl (sem_fieldAddr ⟨k34, 0, none⟩ 11 rfl TF.fld_107_2 ?_)
   obtain ⟨i37, hl, hS⟩ := hS
   refine Run.go rfl rfl rfl (sem_load1 ⟨k34, 11, none⟩ ((Value.int .i64 (i37))) rfl TF.agg_3 hl ?_)
   obtain ⟨hT, hF⟩ := hS
   by_cases hb38 : (i37 : Int) = 5
   ·have hS := hT hb38; clear hT hF
    refine Run.go rfl rfl rfl (sem_binI .i64 (i37) (5) (.bool true) rfl rfl (binI_eql_t hb38) ?_)
    refine Run.go rfl rfl rfl (sem_pick true ((Value.bool true)) rfl rfl ?_)
    refine Run.go rfl rfl rfl (sem_move ((Value.bool true)) rfl ?_)
    refine Run.go rfl rfl rfl (sem_fieldAddr ⟨k34, 0, none⟩ 0 rfl TF.fld_107_0 ?_)
    refine Run.go rfl rfl rfl (sem_fieldAddr ⟨k34, 0, none⟩ 3 rfl TF.fld_31_3 ?_)
    obtain ⟨hi0, hi1, hS⟩ := hS
    refine Run.go rfl rfl rfl (sem_indexAddrA ⟨k34, 3, none⟩ .i64 (0) rfl rfl TF.arr_23 hi0 hi1 ?_)
    obtain ⟨i39, hl, hS⟩ := hS
    refine Run.go rfl rfl rfl (sem_load1 ⟨k34, 3, none⟩ ((Value.int .i64 (i39))) rfl TF.agg_3 hl ?_)
    refine Run.go rfl rfl rfl (sem_binI .i64 (i39) (1) ((Value.bool ((i39 : Int) == (1)))) rfl rfl rfl ?_)
    refine Run.go rfl rfl rfl (sem_pick true ((Value.bool ((i39 : Int) == (1)))) rfl rfl ?_)
    refine Run.go rfl rfl rfl (sem_assign ((Value.bool ((i39 : Int) == (1)))) rfl ?_)
    refine Run.region_end ?_
    refine Run.ret ⟨.inr rfl, ?_⟩
    exact hS.imp fun h' hq => ⟨(((i39 : Int) == (1))), rfl, hq⟩
   ·have hS := hF hb38; clear hT hF
    refine Run.go rfl rfl rfl (sem_binI .i64 (i37) (5) (.bool false) rfl rfl (binI_eql_f hb38) ?_)
    refine Run.go rfl rfl rfl (sem_pick true ((Value.bool false)) rfl rfl ?_)
    refine Run.go rfl rfl rfl (sem_move ((Value.bool false)) rfl ?_)
    refine Run.no rfl rfl rfl ?_
    refine Run.no rfl rfl rfl ?_
    refine Run.no rfl rfl rfl ?_
    refine Run.no rfl rfl rfl ?_
    refine Run.no rfl rfl rfl ?_
    refine Run.go rfl rfl rfl (sem_pick false ((Value.bool false)) rfl rfl ?_)
    refine Run.go rfl rfl rfl (sem_assign ((Value.bool false)) rfl ?_)
    refine Run.region_end ?_
    refine Run.ret ⟨.inr rfl, ?_⟩
    exact hS.imp fun h' hq => ⟨(false), rfl, hq⟩
 refine Run.seq ?_
 refine Run.ops0 (idx := [0, 1, 2, 3, 4, 5, 6, 7, 8, 9]) rfl ?_
 refine Run.go rfl rfl rfl (sem_move ((Value.pointer (some ⟨k2, 0, none⟩))) rfl ?_)
 obtain ⟨p40, p41, p42, i43, i44, i45, i46, hl, hS⟩ := hS
 refine Run.go rfl rfl rfl (sem_loadN ⟨k12, 0, none⟩ [(Value.pointer p40), (Value.pointer p41), (Value.pointer p42), (Value.int .i64 (i43)), (Value.int .i64 (i44)), (Value.int .i64 (i45)), (Value.int .i64 (i46))] rfl TF.agg_31 TF.sz_31 hl ?_)
 refine Run.go rfl rfl rfl (sem_buildSL [(0, (Value.agg #[(Value.pointer p40), (Value.pointer p41), (Value.pointer p42), (Value.int .i64 (i43)), (Value.int .i64 (i44)), (Value.int .i64 (i45)), (Value.int .i64 (i46))])), (2, (Value.int .i64 (5)))] [(Value.pointer p40), (Value.pointer p41), (Value.pointer p42), (Value.int .i64 (i43)), (Value.int .i64 (i44)), (Value.int .i64 (i45)), (Value.int .i64 (i46)), (Value.int .i64 (0)), (Value.int .i64 (0)), (Value.int .i64 (0)), (Value.int .i64 (0)), (Value.int .i64 (5))] TF.zero_107 TF.places_107 rfl rfl ?_)
 refine Run.go rfl rfl rfl (sem_callL [(Value.pointer (some ⟨k2, 0, none⟩)), (Value.agg #[(Value.pointer p40), (Value.pointer p41), (Value.pointer p42), (Value.int .i64 (i43)), (Value.int .i64 (i44)), (Value.int .i64 (i45)), (Value.int .i64 (i46)), (Value.int .i64 (0)), (Value.int .i64 (0)), (Value.int .i64 (0)), (Value.int .i64 (0)), (Value.int .i64 (5))])] (TF.goes_57) rfl rfl (Spec.mono hS fun v h47 hv => ?_))
 obtain ⟨b48, rfl, hS⟩ := hv
 obtain ⟨hT, hF⟩ := hS
 cases b48
 ·have hS := hF rfl; clear hT hF
  refine Run.go rfl rfl rfl (sem_not false rfl ?_)
  refine Run.go rfl rfl rfl (sem_move ((Value.bool true)) rfl ?_)
  refine Run.no rfl rfl rfl ?_
  refine Run.no rfl rfl rfl ?_
  refine Run.no rfl rfl rfl ?_
  refine Run.go rfl rfl rfl (sem_pick true ((Value.bool true)) rfl rfl ?_)
  refine Run.region_end ?_
  refine Run.condT rfl ?_
  refine Run.seq ?_
  refine Run.ops0 (idx := [0]) rfl ?_
  refine Run.go rfl rfl rfl (sem_assign ((Value.bool false)) rfl ?_)
  refine Run.region_end ?_
  refine Run.ret ⟨.inr rfl, ?_⟩
  exact hS.imp fun h' hq => ⟨(false), rfl, hq⟩
 ·have hS := hT rfl; clear hT hF
  refine Run.go rfl rfl rfl (sem_not true rfl ?_)
  refine Run.go rfl rfl rfl (sem_move ((Value.bool false)) rfl ?_)
  refine Run.go rfl rfl rfl (sem_move ((Value.pointer (some ⟨k2, 0, none⟩))) rfl ?_)
  refine Run.go rfl rfl rfl (sem_callL [(Value.pointer (some ⟨k2, 0, none⟩))] (TF.goes_58) rfl rfl (Spec.mono hS fun v h49 hv => ?_))
  obtain ⟨i50, rfl, hS⟩ := hv
  obtain ⟨hT, hF⟩ := hS
  by_cases hb51 : (i50 : Int) = 1
  ·have hS := hT hb51; clear hT hF
   refine Run.go rfl rfl rfl (sem_binI .i64 (i50) (1) (.bool false) rfl rfl (binI_neq_t hb51) ?_)
   refine Run.go rfl rfl rfl (sem_pick false ((Value.bool false)) rfl rfl ?_)
   refine Run.region_end ?_
   refine Run.condF rfl ?_
   refine Run.skip ?_
   exact Run.of_fin (hS.imp fun h' hS => j15 _ _ ⟨⟨rfl, trivial⟩, hS⟩)
  ·have hS := hF hb51; clear hT hF
   refine Run.go rfl rfl rfl (sem_binI .i64 (i50) (1) (.bool true) rfl rfl (binI_neq_f hb51) ?_)
   refine Run.go rfl rfl rfl (sem_pick false ((Value.bool true)) rfl rfl ?_)
   refine Run.region_end ?_
   refine Run.condT rfl ?_
   refine Run.seq ?_
   refine Run.ops0 (idx := [0]) rfl ?_
   refine Run.go rfl rfl rfl (sem_assign ((Value.bool false)) rfl ?_)
   refine Run.region_end ?_
   refine Run.ret ⟨.inr rfl, ?_⟩
   exact hS.imp fun h' hq => ⟨(false), rfl, hq⟩
set_option maxHeartbeats 4000000 in
theorem C_tome_New.of {B : RO} {h : Heap} {Q : Option Addr → Heap → Prop} (hS : S_tome_New B h Q) : C_tome_New B h Q := by
 unfold S_tome_New at hS
 unfold C_tome_New
 refine Spec.of_run Try.func15 (N := 5) (rs := [ResultVar.tmp 0]) rfl rfl rfl (Nat.le_of_ble_eq_true rfl) ?_
 refine Run.seq ?_
 refine Run.ops0 (idx := [0]) rfl ?_
 refine Run.go rfl rfl rfl (sem_assign ((Value.pointer none)) rfl ?_)
 refine Run.region_end ?_
 refine Run.seq ?_
 refine Run.ops0 (idx := [0, 1, 2, 3, 4]) rfl ?_
 refine Run.go rfl rfl rfl (sem_buildSL [] [(Value.bool false), (Value.string ByteArray.empty)] TF.zero_41 TF.places_41 rfl rfl ?_)
 refine Run.go rfl rfl rfl (sem_callL [(Value.int .i64 (6)), (Value.agg #[(Value.bool false), (Value.string ByteArray.empty)])] (TF.goes_60) rfl rfl (Spec.mono hS fun v h2 hv => ?_))
 obtain ⟨p3, rfl, hS⟩ := hv
 refine Run.go rfl rfl rfl (sem_buildSL [(0, (Value.pointer p3))] [(Value.pointer p3)] TF.zero_113 TF.places_113 rfl rfl ?_)
 refine Run.go rfl rfl rfl (sem_boxNN [(Value.pointer p3)] rfl (fun k4 hb1 hb2 h5 hb3 => ?_))
 have hS := hS k4 hb1 hb2 h5 hb3
 refine Run.go rfl rfl rfl (sem_assign ((Value.pointer (some ⟨k4, 0, none⟩))) rfl ?_)
 refine Run.region_end ?_
 refine Run.ret ⟨.inr rfl, ?_⟩
 exact hS.imp fun h' hq => ⟨(some ⟨k4, 0, none⟩), rfl, hq⟩
set_option maxHeartbeats 4000000 in
theorem C_mark_Fresh.of {B : RO} {i1 : Int} {i2 : Int} {i3 : Int} {i4 : Int} {h : Heap} {Q : Option Addr → Option Addr → Option Addr → Int → Int → Int → Int → Heap → Prop} (hS : S_mark_Fresh B i1 i2 i3 i4 h Q) : C_mark_Fresh B i1 i2 i3 i4 h Q := by
 unfold S_mark_Fresh at hS
 unfold C_mark_Fresh
 refine Spec.of_run Try.func16 (N := 10) (rs := [ResultVar.cell 2 31]) rfl rfl rfl (Nat.le_of_ble_eq_true rfl) ?_
 refine Run.seq ?_
 refine Run.ops0 (idx := [0, 1]) rfl ?_
 refine Run.go rfl rfl rfl (sem_boxNN [(Value.int .i64 (i1)), (Value.int .i64 (i2)), (Value.int .i64 (i3)), (Value.int .i64 (i4))] rfl (fun k12 hb1 hb2 h13 hb3 => ?_))
 have hS := hS k12 hb1 hb2 h13 hb3
 refine Run.go rfl rfl rfl (sem_allocN [(Value.pointer none), (Value.pointer none), (Value.pointer none), (Value.int .i64 (0)), (Value.int .i64 (0)), (Value.int .i64 (0)), (Value.int .i64 (0))] TF.zero_31 (fun k14 hb1 hb2 h15 hb3 => ?_))
 have hS := hS k14 hb1 hb2 h15 hb3
 refine Run.region_end ?_
 refine Run.seq ?_
 skip
 skip
 obtain ⟨i18, i19, i20, i21, hl, hS⟩ := hS
 have f22 := hl
 refine Run.drawM (fun h' => CellsAt B h' ⟨k12, 0, none⟩ 0 [(Value.int .i64 (i18)), (Value.int .i64 (i19)), (Value.int .i64 (i20)), (Value.int .i64 (i21))] ∧ True) [7] ⟨[0, 1, 0, 0, 8, 0, 54, 127], [255, 254, 255, 255, 247, 255, 201, 191], [0, 1, 0, 0, 8, 0, 63, 127], 128⟩ (.q 0 (.q 3 (.q 5 (.x 1 (.x 2 (.x 4 (.q 6 (.x 7 .nil .no)) .no) (.x 4 (.x 2 (.q 6 (.x 7 .nil .no)) .no) .no)) (.x 2 (.x 1 (.x 4 (.q 6 (.x 7 .nil .no)) .no) (.x 4 (.x 1 (.q 6 (.x 7 .nil .no)) .no) .no)) (.x 4 (.x 1 (.x 2 (.q 6 (.x 7 .nil .no)) .no) (.x 2 (.x 1 (.q 6 (.x 7 .nil .no)) .no) .no)) .no)))))) TF.mixed (by kernel_rfl) ⟨f22, trivial⟩ ?_
 refine RunT.quiet rfl rfl rfl (fun h' hC => sem_buildSL [] [(Value.slice none 0 0)] TF.zero_116 TF.places_116 rfl rfl ⟨rfl, rfl⟩) ?_
 refine RunT.quiet rfl rfl rfl (fun h' hC => sem_buildSL [] [(Value.int .i64 (0)), (Value.int .i64 (0)), (Value.int .i64 (0))] TF.zero_119 TF.places_119 rfl rfl ⟨rfl, rfl⟩) ?_
 refine RunT.quiet rfl rfl rfl (fun h' hC => sem_loadN ⟨k12, 0, none⟩ [(Value.int .i64 (i18)), (Value.int .i64 (i19)), (Value.int .i64 (i20)), (Value.int .i64 (i21))] rfl TF.agg_23 TF.sz_23 hC.1 ⟨rfl, rfl⟩) ?_
 refine RunT.joinJ (t := (.q 6 (.x 7 .nil .no))) (fun e h72 => ∃ A69 : Addr, ∃ p70 : Option Addr, ∃ A71 : Addr, Agree [(2, (Value.pointer (some ⟨k14, 0, none⟩))), (4, (Value.pointer (some A69))), (5, (Value.pointer p70)), (7, (Value.pointer (some A71))), (8, (Value.agg #[(Value.int .i64 (i18)), (Value.int .i64 (i19)), (Value.int .i64 (i20)), (Value.int .i64 (i21))]))] e ∧ CellsAt B h72 ⟨k12, 0, none⟩ 0 [(Value.int .i64 (i18)), (Value.int .i64 (i19)), (Value.int .i64 (i20)), (Value.int .i64 (i21))] ∧ S_mark_Fresh_J1 B k12 k14 i18 i19 i20 i21 A69 p70 A71 h72 Q) ?_ fun j68 => ?_
 ·rintro e h72 ⟨A69, p70, A71, hag, g73, hS⟩
  refine RunT.env hag ?_; clear hag
  refine RunT.quiet rfl rfl rfl (fun h' hC => sem_buildSL [(0, (Value.pointer (some A69))), (1, (Value.pointer p70)), (2, (Value.pointer (some A71))), (3, (Value.agg #[(Value.int .i64 (i18)), (Value.int .i64 (i19)), (Value.int .i64 (i20)), (Value.int .i64 (i21))]))] [(Value.pointer (some A69)), (Value.pointer p70), (Value.pointer (some A71)), (Value.int .i64 (i18)), (Value.int .i64 (i19)), (Value.int .i64 (i20)), (Value.int .i64 (i21))] TF.zero_31 TF.places_31 rfl rfl ⟨rfl, rfl⟩) ?_
  refine ⟨?_, trivial⟩
  obtain ⟨h74, hst, hS⟩ := hS
  refine OpH.go rfl rfl rfl (sem_storeN ⟨k14, 0, none⟩ [(Value.pointer (some A69)), (Value.pointer p70), (Value.pointer (some A71)), (Value.int .i64 (i18)), (Value.int .i64 (i19)), (Value.int .i64 (i20)), (Value.int .i64 (i21))] h74 rfl rfl TF.sz_31 hst ?_)
  refine ⟨fun hz => Bool.noConfusion hz, ?_⟩
  obtain ⟨p75, p76, p77, i78, i79, i80, i81, hl0, hS⟩ := hS
  refine Run.ret ⟨.inr rfl, ?_⟩
  exact ⟨⟨k14, 0, none⟩, (Value.agg #[(Value.pointer p75), (Value.pointer p76), (Value.pointer p77), (Value.int .i64 (i78)), (Value.int .i64 (i79)), (Value.int .i64 (i80)), (Value.int .i64 (i81))]), rfl, loadHN TF.agg_31 TF.sz_31 hl0, hS.imp fun h' hq => ⟨p75, p76, p77, (i78), (i79), (i80), (i81), rfl, hq⟩⟩
 refine ⟨?_, ?_, ?_, trivial⟩
 ·have hS := hS.1
  refine OpH.go rfl rfl rfl (sem_boxNN [(Value.slice none 0 0)] rfl (fun k82 hb1 hb2 h83 hb3 => ?_))
  have hS := hS k82 hb1 hb2 h83 hb3
  obtain ⟨g84, hS⟩ := hS
  refine ⟨fun _ => ⟨g84, trivial⟩, ?_⟩
  refine ⟨?_, ?_, trivial⟩
  ·have hS := hS.1
   refine OpH.go rfl rfl rfl (sem_callL [] (TF.goes_61) rfl rfl (Spec.mono hS fun v h85 hv => ?_))
   obtain ⟨p86, rfl, hS⟩ := hv
   obtain ⟨g87, hS⟩ := hS
   refine ⟨fun _ => ⟨g87, trivial⟩, ?_⟩
   refine ⟨?_, trivial⟩
   refine OpH.go rfl rfl rfl (sem_boxNN [(Value.int .i64 (0)), (Value.int .i64 (0)), (Value.int .i64 (0))] rfl (fun k88 hb1 hb2 h89 hb3 => ?_))
   have hS := hS k88 hb1 hb2 h89 hb3
   obtain ⟨g90, hS⟩ := hS
   refine ⟨fun _ => ⟨g90, trivial⟩, ?_⟩
   exact j68 _ _ ⟨⟨k82, 0, none⟩, p86, ⟨k88, 0, none⟩, ⟨rfl, rfl, rfl, rfl, rfl, trivial⟩, g90, hS⟩
  ·have hS := hS.2
   refine OpH.go rfl rfl rfl (sem_boxNN [(Value.int .i64 (0)), (Value.int .i64 (0)), (Value.int .i64 (0))] rfl (fun k91 hb1 hb2 h92 hb3 => ?_))
   have hS := hS k91 hb1 hb2 h92 hb3
   obtain ⟨g93, hS⟩ := hS
   refine ⟨fun _ => ⟨g93, trivial⟩, ?_⟩
   refine ⟨?_, trivial⟩
   refine OpH.go rfl rfl rfl (sem_callL [] (TF.goes_61) rfl rfl (Spec.mono hS fun v h94 hv => ?_))
   obtain ⟨p95, rfl, hS⟩ := hv
   obtain ⟨g96, hS⟩ := hS
   refine ⟨fun _ => ⟨g96, trivial⟩, ?_⟩
   exact j68 _ _ ⟨⟨k82, 0, none⟩, p95, ⟨k91, 0, none⟩, ⟨rfl, rfl, rfl, rfl, rfl, trivial⟩, g96, hS⟩
 ·have hS := hS.2.1
  refine OpH.go rfl rfl rfl (sem_callL [] (TF.goes_61) rfl rfl (Spec.mono hS fun v h97 hv => ?_))
  obtain ⟨p98, rfl, hS⟩ := hv
  obtain ⟨g99, hS⟩ := hS
  refine ⟨fun _ => ⟨g99, trivial⟩, ?_⟩
  refine ⟨?_, ?_, trivial⟩
  ·have hS := hS.1
   refine OpH.go rfl rfl rfl (sem_boxNN [(Value.slice none 0 0)] rfl (fun k100 hb1 hb2 h101 hb3 => ?_))
   have hS := hS k100 hb1 hb2 h101 hb3
   obtain ⟨g102, hS⟩ := hS
   refine ⟨fun _ => ⟨g102, trivial⟩, ?_⟩
   refine ⟨?_, trivial⟩
   refine OpH.go rfl rfl rfl (sem_boxNN [(Value.int .i64 (0)), (Value.int .i64 (0)), (Value.int .i64 (0))] rfl (fun k103 hb1 hb2 h104 hb3 => ?_))
   have hS := hS k103 hb1 hb2 h104 hb3
   obtain ⟨g105, hS⟩ := hS
   refine ⟨fun _ => ⟨g105, trivial⟩, ?_⟩
   exact j68 _ _ ⟨⟨k100, 0, none⟩, p98, ⟨k103, 0, none⟩, ⟨rfl, rfl, rfl, rfl, rfl, trivial⟩, g105, hS⟩
  ·have hS := hS.2
   refine OpH.go rfl rfl rfl (sem_boxNN [(Value.int .i64 (0)), (Value.int .i64 (0)), (Value.int .i64 (0))] rfl (fun k106 hb1 hb2 h107 hb3 => ?_))
   have hS := hS k106 hb1 hb2 h107 hb3
   obtain ⟨g108, hS⟩ := hS
   refine ⟨fun _ => ⟨g108, trivial⟩, ?_⟩
   refine ⟨?_, trivial⟩
   refine OpH.go rfl rfl rfl (sem_boxNN [(Value.slice none 0 0)] rfl (fun k109 hb1 hb2 h110 hb3 => ?_))
   have hS := hS k109 hb1 hb2 h110 hb3
   obtain ⟨g111, hS⟩ := hS
   refine ⟨fun _ => ⟨g111, trivial⟩, ?_⟩
   exact j68 _ _ ⟨⟨k109, 0, none⟩, p98, ⟨k106, 0, none⟩, ⟨rfl, rfl, rfl, rfl, rfl, trivial⟩, g111, hS⟩
 ·have hS := hS.2.2
  refine OpH.go rfl rfl rfl (sem_boxNN [(Value.int .i64 (0)), (Value.int .i64 (0)), (Value.int .i64 (0))] rfl (fun k112 hb1 hb2 h113 hb3 => ?_))
  have hS := hS k112 hb1 hb2 h113 hb3
  obtain ⟨g114, hS⟩ := hS
  refine ⟨fun _ => ⟨g114, trivial⟩, ?_⟩
  refine ⟨?_, ?_, trivial⟩
  ·have hS := hS.1
   refine OpH.go rfl rfl rfl (sem_boxNN [(Value.slice none 0 0)] rfl (fun k115 hb1 hb2 h116 hb3 => ?_))
   have hS := hS k115 hb1 hb2 h116 hb3
   obtain ⟨g117, hS⟩ := hS
   refine ⟨fun _ => ⟨g117, trivial⟩, ?_⟩
   refine ⟨?_, trivial⟩
   refine OpH.go rfl rfl rfl (sem_callL [] (TF.goes_61) rfl rfl (Spec.mono hS fun v h118 hv => ?_))
   obtain ⟨p119, rfl, hS⟩ := hv
   obtain ⟨g120, hS⟩ := hS
   refine ⟨fun _ => ⟨g120, trivial⟩, ?_⟩
   exact j68 _ _ ⟨⟨k115, 0, none⟩, p119, ⟨k112, 0, none⟩, ⟨rfl, rfl, rfl, rfl, rfl, trivial⟩, g120, hS⟩
  ·have hS := hS.2
   refine OpH.go rfl rfl rfl (sem_callL [] (TF.goes_61) rfl rfl (Spec.mono hS fun v h121 hv => ?_))
   obtain ⟨p122, rfl, hS⟩ := hv
   obtain ⟨g123, hS⟩ := hS
   refine ⟨fun _ => ⟨g123, trivial⟩, ?_⟩
   refine ⟨?_, trivial⟩
   refine OpH.go rfl rfl rfl (sem_boxNN [(Value.slice none 0 0)] rfl (fun k124 hb1 hb2 h125 hb3 => ?_))
   have hS := hS k124 hb1 hb2 h125 hb3
   obtain ⟨g126, hS⟩ := hS
   refine ⟨fun _ => ⟨g126, trivial⟩, ?_⟩
   exact j68 _ _ ⟨⟨k124, 0, none⟩, p122, ⟨k112, 0, none⟩, ⟨rfl, rfl, rfl, rfl, rfl, trivial⟩, g126, hS⟩
set_option maxHeartbeats 4000000 in
theorem C_draft_Draft_int_Put.of {B : RO} {p1 : Option Addr} {i2 : Int} {i3 : Int} {h : Heap} {Q : Bool → Heap → Prop} (hS : S_draft_Draft_int_Put B p1 i2 i3 h Q) : C_draft_Draft_int_Put B p1 i2 i3 h Q := by
 unfold S_draft_Draft_int_Put at hS
 unfold C_draft_Draft_int_Put
 refine Spec.of_run Try.func17 (N := 39) (rs := [ResultVar.tmp 6]) rfl rfl rfl (Nat.le_of_ble_eq_true rfl) ?_
 refine Run.seq ?_
 refine Run.ops0 (idx := [0]) rfl ?_
 refine Run.go rfl rfl rfl (sem_assign ((Value.bool false)) rfl ?_)
 refine Run.region_end ?_
 refine Run.seq ?_
 refine Run.seq ?_
 refine Run.ops0 (idx := [0, 1]) rfl ?_
 refine Run.go rfl rfl rfl (sem_move ((Value.pointer p1)) rfl ?_)
 obtain ⟨hT, hF⟩ := hS
 by_cases hb5 : p1 = none
 ·have hS := hT hb5; clear hT hF
  refine Run.go rfl rfl rfl (sem_ptrNilT p1 (.inl rfl) true rfl rfl TF.ptr_27 hb5 rfl ?_)
  refine Run.region_end ?_
  refine Run.condT rfl ?_
  refine Run.seq ?_
  refine Run.ops0 (idx := [0]) rfl ?_
  refine Run.go rfl rfl rfl (sem_assign ((Value.bool false)) rfl ?_)
  refine Run.region_end ?_
  refine Run.ret ⟨.inr rfl, ?_⟩
  exact hS.imp fun h' hq => ⟨(false), rfl, hq⟩
 ·have hS := hF hb5; clear hT hF
  refine Run.go rfl rfl rfl (sem_ptrNilF p1 (.inl rfl) false rfl rfl TF.ptr_27 hb5 rfl ?_)
  refine Run.region_end ?_
  refine Run.condF rfl ?_
  refine Run.skip ?_
  refine Run.seq ?_
  refine Run.ops0 (idx := [0, 1, 2, 3, 4, 5, 6, 7]) rfl ?_
  refine Run.go rfl rfl rfl (sem_move ((Value.pointer p1)) rfl ?_)
  refine Run.go rfl rfl rfl (sem_move ((Value.int .i64 (i2))) rfl ?_)
  refine Run.go rfl rfl rfl (sem_callL [(Value.pointer p1), (Value.int .i64 (i2))] (TF.goes_62) rfl rfl (Spec.mono hS fun v h6 hv => ?_))
  obtain ⟨i7, b8, rfl, hS⟩ := hv
  refine Run.go rfl rfl rfl (sem_move ((Value.tuple #[(Value.int .i64 (i7)), (Value.bool b8)])) rfl ?_)
  refine Run.go rfl rfl rfl (sem_extract #[(Value.int .i64 (i7)), (Value.bool b8)] ((Value.int .i64 (i7))) rfl rfl ?_)
  obtain ⟨hT, hF⟩ := hS
  cases b8
  ·have hS := hF rfl; clear hT hF
   refine Run.go rfl rfl rfl (sem_extract #[(Value.int .i64 (i7)), (Value.bool false)] (.bool false) rfl rfl ?_)
   refine Run.go rfl rfl rfl (sem_assign ((Value.int .i64 (i7))) rfl ?_)
   refine Run.go rfl rfl rfl (sem_assign ((Value.bool false)) rfl ?_)
   refine Run.region_end ?_
   refine Run.seq ?_
   refine Run.seq ?_
   refine Run.ops0 (idx := [0]) rfl ?_
   refine Run.go rfl rfl rfl (sem_move ((Value.bool false)) rfl ?_)
   refine Run.region_end ?_
   refine Run.condF rfl ?_
   refine Run.ops0 (idx := [0, 1, 2, 3, 4, 5, 6, 7, 8, 9, 10, 11, 12, 13]) rfl ?_
   refine Run.go rfl rfl rfl (sem_move ((Value.pointer p1)) rfl ?_)
   refine Run.go rfl rfl rfl (sem_move ((Value.pointer p1)) rfl ?_)
   obtain ⟨A9, e10, hS⟩ := hS
   refine Run.go rfl rfl rfl (sem_nilCheck A9 (congrArg Value.pointer e10) ?_)
   refine Run.go rfl rfl rfl (sem_fieldAddr A9 0 rfl TF.fld_116_0 ?_)
   refine Run.ldSl hS fun a11 n12 c13 h14 hl hS => ?_
   refine Run.go rfl rfl rfl (sem_load1 A9 ((Value.slice a11 n12 c13)) rfl TF.agg_114 hl ?_)
   refine Run.go rfl rfl rfl (sem_move ((Value.int .i64 (i7))) rfl ?_)
   refine Run.go rfl rfl rfl (sem_move ((Value.int .i64 (i2))) rfl ?_)
   refine Run.go rfl rfl rfl (sem_move ((Value.int .i64 (i3))) rfl ?_)
   refine Run.go rfl rfl rfl (sem_buildSL [(0, (Value.int .i64 (i2))), (1, (Value.int .i64 (i3)))] [(Value.int .i64 (i2)), (Value.int .i64 (i3))] TF.zero_121 TF.places_121 rfl rfl ?_)
   refine Run.go rfl rfl rfl (sem_buildSliceL [(0, (Value.agg #[(Value.int .i64 (i2)), (Value.int .i64 (i3))]))] [(Value.int .i64 (i2)), (Value.int .i64 (i3))] TF.slc_114 TF.zero_121 rfl (by decide) (by decide) rfl rfl (fun k15 hb1 hb2 h16 hb3 => ?_))
   have hS := hS k15 hb1 hb2 h16 hb3
   refine Run.go rfl rfl rfl (sem_callL [(Value.slice a11 n12 c13), (Value.int .i64 (i7)), (Value.slice (some ⟨k15, 0, none⟩) 1 1)] (TF.goes_63) rfl rfl (Spec.mono hS fun v h17 hv => ?_))
   obtain ⟨a18, n19, c20, rfl, hS⟩ := hv
   obtain ⟨A21, e22, hS⟩ := hS
   refine Run.go rfl rfl rfl (sem_nilCheck A21 (congrArg Value.pointer e22) ?_)
   refine Run.go rfl rfl rfl (sem_fieldAddr A21 0 rfl TF.fld_116_0 ?_)
   obtain ⟨h23, hst, hS⟩ := hS
   refine Run.go rfl rfl rfl (sem_store1 A21 ((Value.slice a18 n19 c20)) h23 rfl rfl rfl TF.sz_114 hst ?_)
   refine Run.region_end ?_
   refine Run.seq ?_
   refine Run.ops0 (idx := [0]) rfl ?_
   refine Run.go rfl rfl rfl (sem_assign ((Value.bool true)) rfl ?_)
   refine Run.region_end ?_
   refine Run.ret ⟨.inr rfl, ?_⟩
   exact hS.imp fun h' hq => ⟨(true), rfl, hq⟩
  ·have hS := hT rfl; clear hT hF
   refine Run.go rfl rfl rfl (sem_extract #[(Value.int .i64 (i7)), (Value.bool true)] (.bool true) rfl rfl ?_)
   refine Run.go rfl rfl rfl (sem_assign ((Value.int .i64 (i7))) rfl ?_)
   refine Run.go rfl rfl rfl (sem_assign ((Value.bool true)) rfl ?_)
   refine Run.region_end ?_
   refine Run.seq ?_
   refine Run.seq ?_
   refine Run.ops0 (idx := [0]) rfl ?_
   refine Run.go rfl rfl rfl (sem_move ((Value.bool true)) rfl ?_)
   refine Run.region_end ?_
   refine Run.condT rfl ?_
   refine Run.ops0 (idx := [0, 1, 2, 3, 4, 5, 6, 7, 8]) rfl ?_
   refine Run.go rfl rfl rfl (sem_move ((Value.pointer p1)) rfl ?_)
   obtain ⟨A24, e25, hS⟩ := hS
   refine Run.go rfl rfl rfl (sem_nilCheck A24 (congrArg Value.pointer e25) ?_)
   refine Run.go rfl rfl rfl (sem_fieldAddr A24 0 rfl TF.fld_116_0 ?_)
   refine Run.ldSl hS fun a26 n27 c28 h29 hl hS => ?_
   refine Run.go rfl rfl rfl (sem_load1 A24 ((Value.slice a26 n27 c28)) rfl TF.agg_114 hl ?_)
   refine Run.go rfl rfl rfl (sem_move ((Value.int .i64 (i7))) rfl ?_)
   refine Run.go rfl rfl rfl (sem_move ((Value.int .i64 (i3))) rfl ?_)
   obtain ⟨A30, e31, hi0, hi1, hS⟩ := hS
   refine Run.go rfl rfl rfl (sem_indexAddrS A30 n27 c28 .i64 (i7) (congrArg (fun a => Value.slice a n27 c28) e31) rfl TF.slc_114 hi0 hi1 ?_)
   refine Run.go rfl rfl rfl (sem_fieldAddr (Addr.add A30 (Int.toNat (i7) * 2)) 1 rfl TF.fld_121_1 ?_)
   obtain ⟨h32, hst, hS⟩ := hS
   refine Run.go rfl rfl rfl (sem_store1 (Addr.add (Addr.add A30 (Int.toNat (i7) * 2)) 1) ((Value.int .i64 (i3))) h32 rfl rfl rfl TF.sz_3 hst ?_)
   refine Run.region_end ?_
   refine Run.seq ?_
   refine Run.ops0 (idx := [0]) rfl ?_
   refine Run.go rfl rfl rfl (sem_assign ((Value.bool true)) rfl ?_)
   refine Run.region_end ?_
   refine Run.ret ⟨.inr rfl, ?_⟩
   exact hS.imp fun h' hq => ⟨(true), rfl, hq⟩
set_option maxHeartbeats 4000000 in
theorem C_cursor_Cursor_Step.of {B : RO} {p1 : Option Addr} {i2 : Int} {h : Heap} {Q : Bool → Heap → Prop} (hS : S_cursor_Cursor_Step B p1 i2 h Q) : C_cursor_Cursor_Step B p1 i2 h Q := by
 unfold S_cursor_Cursor_Step at hS
 unfold C_cursor_Cursor_Step
 refine Spec.of_run Try.func18 (N := 31) (rs := [ResultVar.tmp 4]) rfl rfl rfl (Nat.le_of_ble_eq_true rfl) ?_
 refine Run.seq ?_
 refine Run.ops0 (idx := [0]) rfl ?_
 refine Run.go rfl rfl rfl (sem_assign ((Value.bool false)) rfl ?_)
 refine Run.region_end ?_
 refine Run.seqJ (fun e h5 => Agree [(0, (Value.pointer p1)), (1, (Value.int .i64 (i2)))] e ∧ S_cursor_Cursor_Step_J1 B p1 i2 h5 Q) ?_ fun j4 => ?_
 ·rintro e h5 ⟨hag, hS⟩
  refine Run.env hag ?_; clear hag
  refine Run.seq ?_
  refine Run.drawM (fun h' => h' = h5) [10] ⟨[0, 0, 1, 4, 10, 16, 32, 1, 128, 383, 639], [2047, 2047, 2046, 2043, 2037, 2031, 2015, 2046, 1919, 1789, 1471], [0, 0, 1, 5, 15, 31, 63, 1, 129, 511, 1023], 1024⟩ (.q 0 (.q 1 (.q 2 (.q 3 (.q 4 (.q 5 (.q 6 (.q 7 (.q 8 (.q 9 (.x 10 .nil .no))))))))))) TF.mixed (by kernel_rfl) rfl ?_
  refine RunT.quiet rfl rfl rfl (quiet_eq (sem_move ((Value.pointer p1)) rfl ⟨rfl, rfl⟩)) ?_
  refine RunT.quiet rfl rfl rfl (quiet_eq (sem_move ((Value.int .i64 (i2))) rfl ⟨rfl, rfl⟩)) ?_
  obtain ⟨A6, e7, hS⟩ := hS
  refine RunT.quiet rfl rfl rfl (quiet_eq (sem_nilCheck A6 (congrArg Value.pointer e7) ⟨rfl, rfl⟩)) ?_
  refine RunT.quiet rfl rfl rfl (quiet_eq (sem_fieldAddr A6 0 rfl TF.fld_119_0 ⟨rfl, rfl⟩)) ?_
  obtain ⟨hi0, hi1, hS⟩ := hS
  refine RunT.quiet rfl rfl rfl (quiet_eq (sem_indexAddrA A6 .i64 (i2) rfl rfl TF.arr_117 hi0 hi1 ⟨rfl, rfl⟩)) ?_
  obtain ⟨i8, hl, hS⟩ := hS
  refine RunT.quiet rfl rfl rfl (quiet_eq (sem_load1 (Addr.add A6 (Int.toNat (i2) * 1)) ((Value.int .i64 (i8))) rfl TF.agg_3 hl ⟨rfl, rfl⟩)) ?_
  refine RunT.quiet rfl rfl rfl (quiet_eq (sem_binI .i64 (i8) (1) ((Value.int .i64 (IntKind.wrap .i64 ((i8) + (1))))) rfl rfl rfl ⟨rfl, rfl⟩)) ?_
  obtain ⟨A9, e10, hS⟩ := hS
  refine RunT.quiet rfl rfl rfl (quiet_eq (sem_nilCheck A9 (congrArg Value.pointer e10) ⟨rfl, rfl⟩)) ?_
  refine RunT.quiet rfl rfl rfl (quiet_eq (sem_fieldAddr A9 0 rfl TF.fld_119_0 ⟨rfl, rfl⟩)) ?_
  obtain ⟨hi0, hi1, hS⟩ := hS
  refine RunT.quiet rfl rfl rfl (quiet_eq (sem_indexAddrA A9 .i64 (i2) rfl rfl TF.arr_117 hi0 hi1 ⟨rfl, rfl⟩)) ?_
  refine ⟨?_, trivial⟩
  obtain ⟨h11, hst, hS⟩ := hS
  refine OpH.go rfl rfl rfl (sem_store1 (Addr.add A9 (Int.toNat (i2) * 1)) ((Value.int .i64 (IntKind.wrap .i64 ((i8) + (1))))) h11 rfl rfl rfl TF.sz_3 hst ?_)
  refine ⟨fun hz => Bool.noConfusion hz, ?_⟩
  refine Run.seq ?_
  refine Run.ops0 (idx := [0]) rfl ?_
  refine Run.go rfl rfl rfl (sem_assign ((Value.bool true)) rfl ?_)
  refine Run.region_end ?_
  refine Run.ret ⟨.inr rfl, ?_⟩
  exact hS.imp fun h' hq => ⟨(true), rfl, hq⟩
 refine Run.seq ?_
 refine Run.ops0 (idx := [0, 1, 2, 3, 4, 5, 6, 7, 8, 9, 10, 11, 12, 13, 14, 15]) rfl ?_
 refine Run.go rfl rfl rfl (sem_move ((Value.pointer p1)) rfl ?_)
 obtain ⟨hT, hF⟩ := hS
 by_cases hb12 : p1 = none
 ·have hS := hT hb12; clear hT hF
  refine Run.go rfl rfl rfl (sem_ptrNilT p1 (.inl rfl) true rfl rfl TF.ptr_29 hb12 rfl ?_)
  refine Run.go rfl rfl rfl (sem_move ((Value.bool true)) rfl ?_)
  refine Run.no rfl rfl rfl ?_
  refine Run.no rfl rfl rfl ?_
  refine Run.no rfl rfl rfl ?_
  refine Run.go rfl rfl rfl (sem_pick true ((Value.bool true)) rfl rfl ?_)
  refine Run.go rfl rfl rfl (sem_move ((Value.bool true)) rfl ?_)
  refine Run.no rfl rfl rfl ?_
  refine Run.no rfl rfl rfl ?_
  refine Run.no rfl rfl rfl ?_
  refine Run.no rfl rfl rfl ?_
  refine Run.no rfl rfl rfl ?_
  refine Run.no rfl rfl rfl ?_
  refine Run.no rfl rfl rfl ?_
  refine Run.go rfl rfl rfl (sem_pick true ((Value.bool true)) rfl rfl ?_)
  refine Run.region_end ?_
  refine Run.condT rfl ?_
  refine Run.seq ?_
  refine Run.ops0 (idx := [0]) rfl ?_
  refine Run.go rfl rfl rfl (sem_assign ((Value.bool false)) rfl ?_)
  refine Run.region_end ?_
  refine Run.ret ⟨.inr rfl, ?_⟩
  exact hS.imp fun h' hq => ⟨(false), rfl, hq⟩
 ·have hS := hF hb12; clear hT hF
  refine Run.go rfl rfl rfl (sem_ptrNilF p1 (.inl rfl) false rfl rfl TF.ptr_29 hb12 rfl ?_)
  refine Run.go rfl rfl rfl (sem_move ((Value.bool false)) rfl ?_)
  refine Run.go rfl rfl rfl (sem_move ((Value.int .i64 (i2))) rfl ?_)
  refine Run.go rfl rfl rfl (sem_callL [(Value.int .i64 (i2))] (TF.goes_64) rfl rfl (Spec.mono hS fun v h13 hv => ?_))
  obtain ⟨b14, rfl, hS⟩ := hv
  obtain ⟨hT, hF⟩ := hS
  cases b14
  ·have hS := hF rfl; clear hT hF
   refine Run.go rfl rfl rfl (sem_not false rfl ?_)
   refine Run.go rfl rfl rfl (sem_pick false ((Value.bool true)) rfl rfl ?_)
   refine Run.go rfl rfl rfl (sem_move ((Value.bool true)) rfl ?_)
   refine Run.no rfl rfl rfl ?_
   refine Run.no rfl rfl rfl ?_
   refine Run.no rfl rfl rfl ?_
   refine Run.no rfl rfl rfl ?_
   refine Run.no rfl rfl rfl ?_
   refine Run.no rfl rfl rfl ?_
   refine Run.no rfl rfl rfl ?_
   refine Run.go rfl rfl rfl (sem_pick true ((Value.bool true)) rfl rfl ?_)
   refine Run.region_end ?_
   refine Run.condT rfl ?_
   refine Run.seq ?_
   refine Run.ops0 (idx := [0]) rfl ?_
   refine Run.go rfl rfl rfl (sem_assign ((Value.bool false)) rfl ?_)
   refine Run.region_end ?_
   refine Run.ret ⟨.inr rfl, ?_⟩
   exact hS.imp fun h' hq => ⟨(false), rfl, hq⟩
  ·have hS := hT rfl; clear hT hF
   refine Run.go rfl rfl rfl (sem_not true rfl ?_)
   refine Run.go rfl rfl rfl (sem_pick false ((Value.bool false)) rfl rfl ?_)
   refine Run.go rfl rfl rfl (sem_move ((Value.bool false)) rfl ?_)
   refine Run.go rfl rfl rfl (sem_move ((Value.pointer p1)) rfl ?_)
   refine Run.go rfl rfl rfl (sem_move ((Value.int .i64 (i2))) rfl ?_)
   obtain ⟨A15, e16, hS⟩ := hS
   refine Run.go rfl rfl rfl (sem_nilCheck A15 (congrArg Value.pointer e16) ?_)
   refine Run.go rfl rfl rfl (sem_fieldAddr A15 0 rfl TF.fld_119_0 ?_)
   obtain ⟨hi0, hi1, hS⟩ := hS
   refine Run.go rfl rfl rfl (sem_indexAddrA A15 .i64 (i2) rfl rfl TF.arr_117 hi0 hi1 ?_)
   obtain ⟨i17, hl, hS⟩ := hS
   refine Run.go rfl rfl rfl (sem_load1 (Addr.add A15 (Int.toNat (i2) * 1)) ((Value.int .i64 (i17))) rfl TF.agg_3 hl ?_)
   obtain ⟨hT, hF⟩ := hS
   by_cases hb18 : (i17 : Int) ≥ (64)
   ·have hS := hT hb18; clear hT hF
    refine Run.go rfl rfl rfl (sem_binI .i64 (i17) (64) (.bool true) rfl rfl (binI_geq_t hb18) ?_)
    refine Run.go rfl rfl rfl (sem_pick false ((Value.bool true)) rfl rfl ?_)
    refine Run.region_end ?_
    refine Run.condT rfl ?_
    refine Run.seq ?_
    refine Run.ops0 (idx := [0]) rfl ?_
    refine Run.go rfl rfl rfl (sem_assign ((Value.bool false)) rfl ?_)
    refine Run.region_end ?_
    refine Run.ret ⟨.inr rfl, ?_⟩
    exact hS.imp fun h' hq => ⟨(false), rfl, hq⟩
   ·have hS := hF hb18; clear hT hF
    refine Run.go rfl rfl rfl (sem_binI .i64 (i17) (64) (.bool false) rfl rfl (binI_geq_f hb18) ?_)
    refine Run.go rfl rfl rfl (sem_pick false ((Value.bool false)) rfl rfl ?_)
    refine Run.region_end ?_
    refine Run.condF rfl ?_
    refine Run.skip ?_
    exact Run.of_fin (hS.imp fun h' hS => j4 _ _ ⟨⟨rfl, rfl, trivial⟩, hS⟩)
set_option maxHeartbeats 4000000 in
theorem C_mark_State_Copy.of {B : RO} {p1 : Option Addr} {p2 : Option Addr} {p3 : Option Addr} {i4 : Int} {i5 : Int} {i6 : Int} {i7 : Int} {h : Heap} {Q : Option Addr → Option Addr → Option Addr → Int → Int → Int → Int → Heap → Prop} (hS : S_mark_State_Copy B p1 p2 p3 i4 i5 i6 i7 h Q) : C_mark_State_Copy B p1 p2 p3 i4 i5 i6 i7 h Q := by
 unfold S_mark_State_Copy at hS
 unfold C_mark_State_Copy
 refine Spec.of_run Try.func19 (N := 15) (rs := [ResultVar.cell 2 31]) rfl rfl rfl (Nat.le_of_ble_eq_true rfl) ?_
 refine Run.seq ?_
 refine Run.ops0 (idx := [0, 1]) rfl ?_
 refine Run.go rfl rfl rfl (sem_boxNN [(Value.pointer p1), (Value.pointer p2), (Value.pointer p3), (Value.int .i64 (i4)), (Value.int .i64 (i5)), (Value.int .i64 (i6)), (Value.int .i64 (i7))] rfl (fun k15 hb1 hb2 h16 hb3 => ?_))
 have hS := hS k15 hb1 hb2 h16 hb3
 refine Run.go rfl rfl rfl (sem_allocN [(Value.pointer none), (Value.pointer none), (Value.pointer none), (Value.int .i64 (0)), (Value.int .i64 (0)), (Value.int .i64 (0)), (Value.int .i64 (0))] TF.zero_31 (fun k17 hb1 hb2 h18 hb3 => ?_))
 have hS := hS k17 hb1 hb2 h18 hb3
 refine Run.region_end ?_
 refine Run.seq ?_
 skip
 obtain ⟨p20, hl, hS⟩ := hS
 have f21 := hl
 skip
 obtain ⟨p23, hl, hS⟩ := hS
 have f24 := hl
 skip
 obtain ⟨p26, hl, hS⟩ := hS
 have f27 := hl
 skip
 obtain ⟨i29, i30, i31, i32, hl, hS⟩ := hS
 have f33 := hl
 refine Run.drawM (fun h' => cellH B h' ⟨k15, 0, none⟩ = some (Value.pointer p20) ∧ cellH B h' ⟨k15, 1, none⟩ = some (Value.pointer p23) ∧ cellH B h' ⟨k15, 2, none⟩ = some (Value.pointer p26) ∧ CellsAt B h' ⟨k15, 3, none⟩ 0 [(Value.int .i64 (i29)), (Value.int .i64 (i30)), (Value.int .i64 (i31)), (Value.int .i64 (i32))] ∧ True) [12] ⟨[0, 1, 2, 0, 8, 20, 0, 64, 160, 0, 512, 1316, 4095], [8191, 8190, 8189, 8191, 8183, 8175, 8191, 8127, 8063, 8191, 7679, 6875, 6143], [0, 1, 3, 0, 8, 31, 0, 64, 255, 0, 512, 2047, 4095], 4096⟩ (.q 0 (.q 1 (.q 3 (.q 4 (.q 6 (.q 7 (.q 9 (.q 10 (.x 2 (.x 5 (.x 8 (.q 11 (.x 12 .nil .no)) .no) .no) .no))))))))) TF.mixed (by kernel_rfl) ⟨f21, f24, f27, f33, trivial⟩ ?_
 refine RunT.quiet rfl rfl rfl (fun h' hC => sem_fieldAddr ⟨k15, 0, none⟩ 0 rfl TF.fld_31_0 ⟨rfl, rfl⟩) ?_
 refine RunT.quiet rfl rfl rfl (fun h' hC => sem_load1 ⟨k15, 0, none⟩ ((Value.pointer p20)) rfl TF.agg_27 hC.1 ⟨rfl, rfl⟩) ?_
 refine RunT.quiet rfl rfl rfl (fun h' hC => sem_fieldAddr ⟨k15, 0, none⟩ 1 rfl TF.fld_31_1 ⟨rfl, rfl⟩) ?_
 refine RunT.quiet rfl rfl rfl (fun h' hC => sem_load1 ⟨k15, 1, none⟩ ((Value.pointer p23)) rfl TF.agg_28 hC.2.1 ⟨rfl, rfl⟩) ?_
 refine RunT.quiet rfl rfl rfl (fun h' hC => sem_fieldAddr ⟨k15, 0, none⟩ 2 rfl TF.fld_31_2 ⟨rfl, rfl⟩) ?_
 refine RunT.quiet rfl rfl rfl (fun h' hC => sem_load1 ⟨k15, 2, none⟩ ((Value.pointer p26)) rfl TF.agg_29 hC.2.2.1 ⟨rfl, rfl⟩) ?_
 refine RunT.quiet rfl rfl rfl (fun h' hC => sem_fieldAddr ⟨k15, 0, none⟩ 3 rfl TF.fld_31_3 ⟨rfl, rfl⟩) ?_
 refine RunT.quiet rfl rfl rfl (fun h' hC => sem_loadN ⟨k15, 3, none⟩ [(Value.int .i64 (i29)), (Value.int .i64 (i30)), (Value.int .i64 (i31)), (Value.int .i64 (i32))] rfl TF.agg_23 TF.sz_23 hC.2.2.2.1 ⟨rfl, rfl⟩) ?_
 refine ⟨?_, trivial⟩
 refine OpH.go rfl rfl rfl (sem_callL [(Value.pointer p20)] (TF.goes_65) rfl rfl (Spec.mono hS fun v h34 hv => ?_))
 obtain ⟨p35, rfl, hS⟩ := hv
 obtain ⟨g36, g37, g38, g39, hS⟩ := hS
 refine ⟨fun _ => ⟨g36, g37, g38, g39, trivial⟩, ?_⟩
 refine ⟨?_, trivial⟩
 refine OpH.go rfl rfl rfl (sem_callL [(Value.pointer p23)] (TF.goes_47) rfl rfl (Spec.mono hS fun v h40 hv => ?_))
 obtain ⟨p41, rfl, hS⟩ := hv
 obtain ⟨g42, g43, g44, g45, hS⟩ := hS
 refine ⟨fun _ => ⟨g42, g43, g44, g45, trivial⟩, ?_⟩
 refine ⟨?_, trivial⟩
 refine OpH.go rfl rfl rfl (sem_callL [(Value.pointer p26)] (TF.goes_66) rfl rfl (Spec.mono hS fun v h46 hv => ?_))
 obtain ⟨p47, rfl, hS⟩ := hv
 obtain ⟨g48, g49, g50, g51, hS⟩ := hS
 refine ⟨fun _ => ⟨g48, g49, g50, g51, trivial⟩, ?_⟩
 refine RunT.quiet rfl rfl rfl (fun h' hC => sem_buildSL [(0, (Value.pointer p35)), (1, (Value.pointer p41)), (2, (Value.pointer p47)), (3, (Value.agg #[(Value.int .i64 (i29)), (Value.int .i64 (i30)), (Value.int .i64 (i31)), (Value.int .i64 (i32))]))] [(Value.pointer p35), (Value.pointer p41), (Value.pointer p47), (Value.int .i64 (i29)), (Value.int .i64 (i30)), (Value.int .i64 (i31)), (Value.int .i64 (i32))] TF.zero_31 TF.places_31 rfl rfl ⟨rfl, rfl⟩) ?_
 refine ⟨?_, trivial⟩
 obtain ⟨h52, hst, hS⟩ := hS
 refine OpH.go rfl rfl rfl (sem_storeN ⟨k17, 0, none⟩ [(Value.pointer p35), (Value.pointer p41), (Value.pointer p47), (Value.int .i64 (i29)), (Value.int .i64 (i30)), (Value.int .i64 (i31)), (Value.int .i64 (i32))] h52 rfl rfl TF.sz_31 hst ?_)
 refine ⟨fun hz => Bool.noConfusion hz, ?_⟩
 obtain ⟨p53, p54, p55, i56, i57, i58, i59, hl0, hS⟩ := hS
 refine Run.ret ⟨.inr rfl, ?_⟩
 exact ⟨⟨k17, 0, none⟩, (Value.agg #[(Value.pointer p53), (Value.pointer p54), (Value.pointer p55), (Value.int .i64 (i56)), (Value.int .i64 (i57)), (Value.int .i64 (i58)), (Value.int .i64 (i59))]), rfl, loadHN TF.agg_31 TF.sz_31 hl0, hS.imp fun h' hq => ⟨p53, p54, p55, (i56), (i57), (i58), (i59), rfl, hq⟩⟩
set_option maxHeartbeats 4000000 in
theorem C_draft_Draft_int_Get.of {B : RO} {p1 : Option Addr} {i2 : Int} {h : Heap} {Q : Int → Bool → Heap → Prop} (hS : S_draft_Draft_int_Get B p1 i2 h Q) : C_draft_Draft_int_Get B p1 i2 h Q := by
 unfold S_draft_Draft_int_Get at hS
 unfold C_draft_Draft_int_Get
 refine Spec.of_run Try.func20 (N := 29) (rs := [ResultVar.tmp 4, ResultVar.tmp 5]) rfl rfl rfl (Nat.le_of_ble_eq_true rfl) ?_
 refine Run.seq ?_
 refine Run.ops0 (idx := [0, 1]) rfl ?_
 refine Run.go rfl rfl rfl (sem_assign ((Value.int .i64 (0))) rfl ?_)
 refine Run.go rfl rfl rfl (sem_assign ((Value.bool false)) rfl ?_)
 refine Run.region_end ?_
 refine Run.seq ?_
 refine Run.ops0 (idx := [0]) rfl ?_
 refine Run.go rfl rfl rfl (sem_assign ((Value.int .i64 (0))) rfl ?_)
 refine Run.region_end ?_
 refine Run.seq ?_
 refine Run.seq ?_
 refine Run.ops0 (idx := [0, 1]) rfl ?_
 refine Run.go rfl rfl rfl (sem_move ((Value.pointer p1)) rfl ?_)
 obtain ⟨hT, hF⟩ := hS
 by_cases hb5 : p1 = none
 ·have hS := hT hb5; clear hT hF
  refine Run.go rfl rfl rfl (sem_ptrNilT p1 (.inl rfl) true rfl rfl TF.ptr_27 hb5 rfl ?_)
  refine Run.region_end ?_
  refine Run.condT rfl ?_
  refine Run.seq ?_
  refine Run.ops0 (idx := [0, 1, 2]) rfl ?_
  refine Run.go rfl rfl rfl (sem_move ((Value.int .i64 (0))) rfl ?_)
  refine Run.go rfl rfl rfl (sem_assign ((Value.int .i64 (0))) rfl ?_)
  refine Run.go rfl rfl rfl (sem_assign ((Value.bool false)) rfl ?_)
  refine Run.region_end ?_
  refine Run.ret ⟨.inr rfl, ?_⟩
  exact hS.imp fun h' hq => ⟨(0), (false), rfl, hq⟩
 ·have hS := hF hb5; clear hT hF
  refine Run.go rfl rfl rfl (sem_ptrNilF p1 (.inl rfl) false rfl rfl TF.ptr_27 hb5 rfl ?_)
  refine Run.region_end ?_
  refine Run.condF rfl ?_
  refine Run.skip ?_
  refine Run.seq ?_
  refine Run.ops0 (idx := [0, 1, 2, 3, 4, 5, 6, 7]) rfl ?_
  refine Run.go rfl rfl rfl (sem_move ((Value.pointer p1)) rfl ?_)
  refine Run.go rfl rfl rfl (sem_move ((Value.int .i64 (i2))) rfl ?_)
  refine Run.go rfl rfl rfl (sem_callL [(Value.pointer p1), (Value.int .i64 (i2))] (TF.goes_62) rfl rfl (Spec.mono hS fun v h6 hv => ?_))
  obtain ⟨i7, b8, rfl, hS⟩ := hv
  refine Run.go rfl rfl rfl (sem_move ((Value.tuple #[(Value.int .i64 (i7)), (Value.bool b8)])) rfl ?_)
  refine Run.go rfl rfl rfl (sem_extract #[(Value.int .i64 (i7)), (Value.bool b8)] ((Value.int .i64 (i7))) rfl rfl ?_)
  obtain ⟨hT, hF⟩ := hS
  cases b8
  ·have hS := hF rfl; clear hT hF
   refine Run.go rfl rfl rfl (sem_extract #[(Value.int .i64 (i7)), (Value.bool false)] (.bool false) rfl rfl ?_)
   refine Run.go rfl rfl rfl (sem_assign ((Value.int .i64 (i7))) rfl ?_)
   refine Run.go rfl rfl rfl (sem_assign ((Value.bool false)) rfl ?_)
   refine Run.region_end ?_
   refine Run.seq ?_
   refine Run.seq ?_
   refine Run.ops0 (idx := [0, 1]) rfl ?_
   refine Run.go rfl rfl rfl (sem_move ((Value.bool false)) rfl ?_)
   refine Run.go rfl rfl rfl (sem_not false rfl ?_)
   refine Run.region_end ?_
   refine Run.condT rfl ?_
   refine Run.seq ?_
   refine Run.ops0 (idx := [0, 1, 2]) rfl ?_
   refine Run.go rfl rfl rfl (sem_move ((Value.int .i64 (0))) rfl ?_)
   refine Run.go rfl rfl rfl (sem_assign ((Value.int .i64 (0))) rfl ?_)
   refine Run.go rfl rfl rfl (sem_assign ((Value.bool false)) rfl ?_)
   refine Run.region_end ?_
   refine Run.ret ⟨.inr rfl, ?_⟩
   exact hS.imp fun h' hq => ⟨(0), (false), rfl, hq⟩
  ·have hS := hT rfl; clear hT hF
   refine Run.go rfl rfl rfl (sem_extract #[(Value.int .i64 (i7)), (Value.bool true)] (.bool true) rfl rfl ?_)
   refine Run.go rfl rfl rfl (sem_assign ((Value.int .i64 (i7))) rfl ?_)
   refine Run.go rfl rfl rfl (sem_assign ((Value.bool true)) rfl ?_)
   refine Run.region_end ?_
   refine Run.seq ?_
   refine Run.seq ?_
   refine Run.ops0 (idx := [0, 1]) rfl ?_
   refine Run.go rfl rfl rfl (sem_move ((Value.bool true)) rfl ?_)
   refine Run.go rfl rfl rfl (sem_not true rfl ?_)
   refine Run.region_end ?_
   refine Run.condF rfl ?_
   refine Run.skip ?_
   refine Run.seq ?_
   refine Run.ops0 (idx := [0, 1, 2, 3, 4, 5, 6, 7, 8, 9]) rfl ?_
   refine Run.go rfl rfl rfl (sem_move ((Value.pointer p1)) rfl ?_)
   obtain ⟨A9, e10, hS⟩ := hS
   refine Run.go rfl rfl rfl (sem_nilCheck A9 (congrArg Value.pointer e10) ?_)
   refine Run.go rfl rfl rfl (sem_fieldAddr A9 0 rfl TF.fld_116_0 ?_)
   refine Run.ldSl hS fun a11 n12 c13 h14 hl hS => ?_
   refine Run.go rfl rfl rfl (sem_load1 A9 ((Value.slice a11 n12 c13)) rfl TF.agg_114 hl ?_)
   refine Run.go rfl rfl rfl (sem_move ((Value.int .i64 (i7))) rfl ?_)
   obtain ⟨A15, e16, hi0, hi1, hS⟩ := hS
   refine Run.go rfl rfl rfl (sem_indexAddrS A15 n12 c13 .i64 (i7) (congrArg (fun a => Value.slice a n12 c13) e16) rfl TF.slc_114 hi0 hi1 ?_)
   refine Run.go rfl rfl rfl (sem_fieldAddr (Addr.add A15 (Int.toNat (i7) * 2)) 1 rfl TF.fld_121_1 ?_)
   obtain ⟨i17, hl, hS⟩ := hS
   refine Run.go rfl rfl rfl (sem_load1 (Addr.add (Addr.add A15 (Int.toNat (i7) * 2)) 1) ((Value.int .i64 (i17))) rfl TF.agg_3 hl ?_)
   refine Run.go rfl rfl rfl (sem_assign ((Value.int .i64 (i17))) rfl ?_)
   refine Run.go rfl rfl rfl (sem_assign ((Value.bool true)) rfl ?_)
   refine Run.region_end ?_
   refine Run.ret ⟨.inr rfl, ?_⟩
   exact hS.imp fun h' hq => ⟨(i17), (true), rfl, hq⟩
set_option maxHeartbeats 4000000 in
theorem C_cursor_Cursor_Read.of {B : RO} {p1 : Option Addr} {i2 : Int} {h : Heap} {Q : Int → Heap → Prop} (hS : S_cursor_Cursor_Read B p1 i2 h Q) : C_cursor_Cursor_Read B p1 i2 h Q := by
 unfold S_cursor_Cursor_Read at hS
 unfold C_cursor_Cursor_Read
 refine Spec.of_run Try.func21 (N := 18) (rs := [ResultVar.tmp 4]) rfl rfl rfl (Nat.le_of_ble_eq_true rfl) ?_
 refine Run.seq ?_
 refine Run.ops0 (idx := [0]) rfl ?_
 refine Run.go rfl rfl rfl (sem_assign ((Value.int .i64 (0))) rfl ?_)
 refine Run.region_end ?_
 refine Run.seqJ (fun e h5 => Agree [(0, (Value.pointer p1)), (1, (Value.int .i64 (i2)))] e ∧ S_cursor_Cursor_Read_J1 B p1 i2 h5 Q) ?_ fun j4 => ?_
 ·rintro e h5 ⟨hag, hS⟩
  refine Run.env hag ?_; clear hag
  refine Run.seq ?_
  refine Run.ops0 (idx := [0, 1, 2, 3, 4, 5, 6]) rfl ?_
  refine Run.go rfl rfl rfl (sem_move ((Value.pointer p1)) rfl ?_)
  refine Run.go rfl rfl rfl (sem_move ((Value.int .i64 (i2))) rfl ?_)
  obtain ⟨A6, e7, hS⟩ := hS
  refine Run.go rfl rfl rfl (sem_nilCheck A6 (congrArg Value.pointer e7) ?_)
  refine Run.go rfl rfl rfl (sem_fieldAddr A6 0 rfl TF.fld_119_0 ?_)
  obtain ⟨hi0, hi1, hS⟩ := hS
  refine Run.go rfl rfl rfl (sem_indexAddrA A6 .i64 (i2) rfl rfl TF.arr_117 hi0 hi1 ?_)
  obtain ⟨i8, hl, hS⟩ := hS
  refine Run.go rfl rfl rfl (sem_load1 (Addr.add A6 (Int.toNat (i2) * 1)) ((Value.int .i64 (i8))) rfl TF.agg_3 hl ?_)
  refine Run.go rfl rfl rfl (sem_assign ((Value.int .i64 (i8))) rfl ?_)
  refine Run.region_end ?_
  refine Run.ret ⟨.inr rfl, ?_⟩
  exact hS.imp fun h' hq => ⟨(i8), rfl, hq⟩
 refine Run.seq ?_
 refine Run.ops0 (idx := [0, 1, 2, 3, 4, 5, 6]) rfl ?_
 refine Run.go rfl rfl rfl (sem_move ((Value.pointer p1)) rfl ?_)
 obtain ⟨hT, hF⟩ := hS
 by_cases hb9 : p1 = none
 ·have hS := hT hb9; clear hT hF
  refine Run.go rfl rfl rfl (sem_ptrNilT p1 (.inl rfl) true rfl rfl TF.ptr_29 hb9 rfl ?_)
  refine Run.go rfl rfl rfl (sem_move ((Value.bool true)) rfl ?_)
  refine Run.no rfl rfl rfl ?_
  refine Run.no rfl rfl rfl ?_
  refine Run.no rfl rfl rfl ?_
  refine Run.go rfl rfl rfl (sem_pick true ((Value.bool true)) rfl rfl ?_)
  refine Run.region_end ?_
  refine Run.condT rfl ?_
  refine Run.seq ?_
  refine Run.ops0 (idx := [0]) rfl ?_
  refine Run.go rfl rfl rfl (sem_assign ((Value.int .i64 (0))) rfl ?_)
  refine Run.region_end ?_
  refine Run.ret ⟨.inr rfl, ?_⟩
  exact hS.imp fun h' hq => ⟨(0), rfl, hq⟩
 ·have hS := hF hb9; clear hT hF
  refine Run.go rfl rfl rfl (sem_ptrNilF p1 (.inl rfl) false rfl rfl TF.ptr_29 hb9 rfl ?_)
  refine Run.go rfl rfl rfl (sem_move ((Value.bool false)) rfl ?_)
  refine Run.go rfl rfl rfl (sem_move ((Value.int .i64 (i2))) rfl ?_)
  refine Run.go rfl rfl rfl (sem_callL [(Value.int .i64 (i2))] (TF.goes_64) rfl rfl (Spec.mono hS fun v h10 hv => ?_))
  obtain ⟨b11, rfl, hS⟩ := hv
  obtain ⟨hT, hF⟩ := hS
  cases b11
  ·have hS := hF rfl; clear hT hF
   refine Run.go rfl rfl rfl (sem_not false rfl ?_)
   refine Run.go rfl rfl rfl (sem_pick false ((Value.bool true)) rfl rfl ?_)
   refine Run.region_end ?_
   refine Run.condT rfl ?_
   refine Run.seq ?_
   refine Run.ops0 (idx := [0]) rfl ?_
   refine Run.go rfl rfl rfl (sem_assign ((Value.int .i64 (0))) rfl ?_)
   refine Run.region_end ?_
   refine Run.ret ⟨.inr rfl, ?_⟩
   exact hS.imp fun h' hq => ⟨(0), rfl, hq⟩
  ·have hS := hT rfl; clear hT hF
   refine Run.go rfl rfl rfl (sem_not true rfl ?_)
   refine Run.go rfl rfl rfl (sem_pick false ((Value.bool false)) rfl rfl ?_)
   refine Run.region_end ?_
   refine Run.condF rfl ?_
   refine Run.skip ?_
   exact Run.of_fin (hS.imp fun h' hS => j4 _ _ ⟨⟨rfl, rfl, trivial⟩, hS⟩)
set_option maxHeartbeats 4000000 in
theorem C_sheet_Sheet_Create.of {B : RO} {p1 : Option Addr} {p2 : Option Addr} {i3 : Int} {h : Heap} {Q : Bool → Heap → Prop} (hS : S_sheet_Sheet_Create B p1 p2 i3 h Q) : C_sheet_Sheet_Create B p1 p2 i3 h Q := by
 unfold S_sheet_Sheet_Create at hS
 unfold C_sheet_Sheet_Create
 refine Spec.of_run Try.func22 (N := 22) (rs := [ResultVar.tmp 6]) rfl rfl rfl (Nat.le_of_ble_eq_true rfl) ?_
 refine Run.seq ?_
 refine Run.ops0 (idx := [0]) rfl ?_
 refine Run.go rfl rfl rfl (sem_assign ((Value.bool false)) rfl ?_)
 refine Run.region_end ?_
 refine Run.seq ?_
 refine Run.ops0 (idx := [0, 1, 2, 3, 4, 5, 6, 7, 8, 9]) rfl ?_
 refine Run.go rfl rfl rfl (sem_move ((Value.pointer p1)) rfl ?_)
 refine Run.go rfl rfl rfl (sem_move ((Value.pointer p2)) rfl ?_)
 refine Run.go rfl rfl rfl (sem_move ((Value.int .i64 (i3))) rfl ?_)
 refine Run.go rfl rfl rfl (sem_callL [(Value.pointer p1), (Value.pointer p2), (Value.int .i64 (i3))] (TF.goes_23) rfl rfl (Spec.mono hS fun v h5 hv => ?_))
 obtain ⟨b6, s7, b8, rfl, hS⟩ := hv
 refine Run.go rfl rfl rfl (sem_move ((Value.tuple #[(Value.agg #[(Value.bool b6), (Value.string s7)]), (Value.bool b8)])) rfl ?_)
 refine Run.go rfl rfl rfl (sem_extract #[(Value.agg #[(Value.bool b6), (Value.string s7)]), (Value.bool b8)] ((Value.agg #[(Value.bool b6), (Value.string s7)])) rfl rfl ?_)
 refine Run.go rfl rfl rfl (sem_extract #[(Value.agg #[(Value.bool b6), (Value.string s7)]), (Value.bool b8)] ((Value.bool b8)) rfl rfl ?_)
 refine Run.go rfl rfl rfl (sem_allocN [(Value.bool false), (Value.string ByteArray.empty)] TF.zero_41 (fun k9 hb1 hb2 h10 hb3 => ?_))
 have hS := hS k9 hb1 hb2 h10 hb3
 obtain ⟨h11, hst, hS⟩ := hS
 refine Run.go rfl rfl rfl (sem_storeN ⟨k9, 0, none⟩ [(Value.bool b6), (Value.string s7)] h11 rfl rfl TF.sz_41 hst ?_)
 refine Run.go rfl rfl rfl (sem_assign ((Value.bool b8)) rfl ?_)
 refine Run.region_end ?_
 refine Run.seq ?_
 refine Run.ops0 (idx := [0, 1, 2, 3, 4, 5, 6]) rfl ?_
 refine Run.go rfl rfl rfl (sem_move ((Value.pointer p1)) rfl ?_)
 refine Run.go rfl rfl rfl (sem_move ((Value.pointer p2)) rfl ?_)
 refine Run.go rfl rfl rfl (sem_move ((Value.int .i64 (i3))) rfl ?_)
 obtain ⟨b12, s13, hl, hS⟩ := hS
 refine Run.go rfl rfl rfl (sem_loadN ⟨k9, 0, none⟩ [(Value.bool b12), (Value.string s13)] rfl TF.agg_41 TF.sz_41 hl ?_)
 refine Run.go rfl rfl rfl (sem_callL [(Value.agg #[(Value.bool b12), (Value.string s13)])] (TF.goes_68) rfl rfl (Spec.mono hS fun v h14 hv => ?_))
 obtain ⟨b15, s16, rfl, hS⟩ := hv
 refine Run.go rfl rfl rfl (sem_callL [(Value.pointer p1), (Value.pointer p2), (Value.int .i64 (i3)), (Value.agg #[(Value.bool b15), (Value.string s16)])] (TF.goes_67) rfl rfl (Spec.mono hS fun v h17 hv => ?_))
 obtain ⟨b18, rfl, hS⟩ := hv
 refine Run.go rfl rfl rfl (sem_assign ((Value.bool b18)) rfl ?_)
 refine Run.region_end ?_
 refine Run.ret ⟨.inr rfl, ?_⟩
 exact hS.imp fun h' hq => ⟨(b18), rfl, hq⟩
set_option maxHeartbeats 4000000 in
theorem C_sheet_Sheet_Get.of {B : RO} {p1 : Option Addr} {p2 : Option Addr} {i3 : Int} {h : Heap} {Q : Bool → ByteArray → Bool → Heap → Prop} (hS : S_sheet_Sheet_Get B p1 p2 i3 h Q) : C_sheet_Sheet_Get B p1 p2 i3 h Q := by
 unfold S_sheet_Sheet_Get at hS
 unfold C_sheet_Sheet_Get
 refine Spec.of_run Try.func23 (N := 32) (rs := [ResultVar.cell 6 41, ResultVar.tmp 7]) rfl rfl rfl (Nat.le_of_ble_eq_true rfl) ?_
 refine Run.seq ?_
 refine Run.ops0 (idx := [0, 1]) rfl ?_
 refine Run.go rfl rfl rfl (sem_allocN [(Value.bool false), (Value.string ByteArray.empty)] TF.zero_41 (fun k7 hb1 hb2 h8 hb3 => ?_))
 have hS := hS k7 hb1 hb2 h8 hb3
 refine Run.go rfl rfl rfl (sem_assign ((Value.bool false)) rfl ?_)
 refine Run.region_end ?_
 refine Run.seqJ (fun e h10 => Agree [(1, (Value.pointer p2)), (2, (Value.int .i64 (i3))), (6, (Value.pointer (some ⟨k7, 0, none⟩)))] e ∧ S_sheet_Sheet_Get_J1 B p2 i3 k7 h10 Q) ?_ fun j9 => ?_
 ·rintro e h10 ⟨hag, hS⟩
  refine Run.env hag ?_; clear hag
  refine Run.seq ?_
  refine Run.ops0 (idx := [0, 1, 2, 3, 4, 5, 6, 7, 8]) rfl ?_
  refine Run.go rfl rfl rfl (sem_move ((Value.pointer p2)) rfl ?_)
  refine Run.go rfl rfl rfl (sem_move ((Value.int .i64 (i3))) rfl ?_)
  refine Run.go rfl rfl rfl (sem_callL [(Value.pointer p2), (Value.int .i64 (i3))] (TF.goes_49) rfl rfl (Spec.mono hS fun v h11 hv => ?_))
  obtain ⟨b12, s13, i14, rfl, hS⟩ := hv
  refine Run.go rfl rfl rfl (sem_move ((Value.tuple #[(Value.agg #[(Value.bool b12), (Value.string s13)]), (Value.int .i64 (i14))])) rfl ?_)
  refine Run.go rfl rfl rfl (sem_extract #[(Value.agg #[(Value.bool b12), (Value.string s13)]), (Value.int .i64 (i14))] ((Value.agg #[(Value.bool b12), (Value.string s13)])) rfl rfl ?_)
  refine Run.go rfl rfl rfl (sem_extract #[(Value.agg #[(Value.bool b12), (Value.string s13)]), (Value.int .i64 (i14))] ((Value.int .i64 (i14))) rfl rfl ?_)
  refine Run.go rfl rfl rfl (sem_allocN [(Value.bool false), (Value.string ByteArray.empty)] TF.zero_41 (fun k15 hb1 hb2 h16 hb3 => ?_))
  have hS := hS k15 hb1 hb2 h16 hb3
  obtain ⟨h17, hst, hS⟩ := hS
  refine Run.go rfl rfl rfl (sem_storeN ⟨k15, 0, none⟩ [(Value.bool b12), (Value.string s13)] h17 rfl rfl TF.sz_41 hst ?_)
  refine Run.go rfl rfl rfl (sem_assign ((Value.int .i64 (i14))) rfl ?_)
  refine Run.region_end ?_
  refine Run.seq ?_
  refine Run.ops0 (idx := [0, 1, 2]) rfl ?_
  obtain ⟨b18, s19, hl, hS⟩ := hS
  refine Run.go rfl rfl rfl (sem_loadN ⟨k15, 0, none⟩ [(Value.bool b18), (Value.string s19)] rfl TF.agg_41 TF.sz_41 hl ?_)
  obtain ⟨h20, hst, hS⟩ := hS
  refine Run.go rfl rfl rfl (sem_storeN ⟨k7, 0, none⟩ [(Value.bool b18), (Value.string s19)] h20 rfl rfl TF.sz_41 hst ?_)
  refine Run.go rfl rfl rfl (sem_assign ((Value.bool false)) rfl ?_)
  refine Run.region_end ?_
  obtain ⟨b21, s22, hl0, hS⟩ := hS
  refine Run.ret ⟨.inr rfl, ?_⟩
  exact ⟨⟨k7, 0, none⟩, (Value.agg #[(Value.bool b21), (Value.string s22)]), rfl, loadHN TF.agg_41 TF.sz_41 hl0, hS.imp fun h' hq => ⟨(b21), s22, (false), rfl, hq⟩⟩
 refine Run.seq ?_
 refine Run.ops0 (idx := [0, 1]) rfl ?_
 refine Run.go rfl rfl rfl (sem_move ((Value.pointer p1)) rfl ?_)
 obtain ⟨hT, hF⟩ := hS
 by_cases hb23 : p1 = none
 ·have hS := hT hb23; clear hT hF
  refine Run.go rfl rfl rfl (sem_ptrNilT p1 (.inr rfl) false rfl rfl TF.ptr_28 hb23 rfl ?_)
  refine Run.region_end ?_
  refine Run.condF rfl ?_
  refine Run.skip ?_
  exact Run.of_fin (hS.imp fun h' hS => j9 _ _ ⟨⟨rfl, rfl, rfl, trivial⟩, hS⟩)
 ·have hS := hF hb23; clear hT hF
  refine Run.go rfl rfl rfl (sem_ptrNilF p1 (.inr rfl) true rfl rfl TF.ptr_28 hb23 rfl ?_)
  refine Run.region_end ?_
  refine Run.condT rfl ?_
  refine Run.seq ?_
  refine Run.ops0 (idx := [0, 1, 2, 3, 4, 5, 6, 7, 8, 9, 10, 11]) rfl ?_
  refine Run.go rfl rfl rfl (sem_move ((Value.pointer p1)) rfl ?_)
  obtain ⟨A24, e25, hS⟩ := hS
  refine Run.go rfl rfl rfl (sem_nilCheck A24 (congrArg Value.pointer e25) ?_)
  refine Run.go rfl rfl rfl (sem_fieldAddr A24 0 rfl TF.fld_128_0 ?_)
  obtain ⟨p26, hl, hS⟩ := hS
  refine Run.go rfl rfl rfl (sem_load1 A24 ((Value.pointer p26)) rfl TF.agg_95 hl ?_)
  refine Run.go rfl rfl rfl (sem_move ((Value.int .i64 (i3))) rfl ?_)
  refine Run.go rfl rfl rfl (sem_callL [(Value.pointer p26), (Value.int .i64 (i3))] (TF.goes_69) rfl rfl (Spec.mono hS fun v h27 hv => ?_))
  obtain ⟨b28, s29, b30, rfl, hS⟩ := hv
  refine Run.go rfl rfl rfl (sem_move ((Value.tuple #[(Value.agg #[(Value.bool b28), (Value.string s29)]), (Value.bool b30)])) rfl ?_)
  refine Run.go rfl rfl rfl (sem_extract #[(Value.agg #[(Value.bool b28), (Value.string s29)]), (Value.bool b30)] ((Value.agg #[(Value.bool b28), (Value.string s29)])) rfl rfl ?_)
  obtain ⟨hT, hF⟩ := hS
  cases b30
  ·have hS := hF rfl; clear hT hF
   refine Run.go rfl rfl rfl (sem_extract #[(Value.agg #[(Value.bool b28), (Value.string s29)]), (Value.bool false)] (.bool false) rfl rfl ?_)
   refine Run.go rfl rfl rfl (sem_allocN [(Value.bool false), (Value.string ByteArray.empty)] TF.zero_41 (fun k31 hb1 hb2 h32 hb3 => ?_))
   have hS := hS k31 hb1 hb2 h32 hb3
   obtain ⟨h33, hst, hS⟩ := hS
   refine Run.go rfl rfl rfl (sem_storeN ⟨k31, 0, none⟩ [(Value.bool b28), (Value.string s29)] h33 rfl rfl TF.sz_41 hst ?_)
   refine Run.go rfl rfl rfl (sem_assign ((Value.bool false)) rfl ?_)
   refine Run.region_end ?_
   refine Run.seq ?_
   refine Run.ops0 (idx := [0]) rfl ?_
   refine Run.go rfl rfl rfl (sem_move ((Value.bool false)) rfl ?_)
   refine Run.region_end ?_
   refine Run.condF rfl ?_
   refine Run.skip ?_
   exact Run.of_fin (hS.imp fun h' hS => j9 _ _ ⟨⟨rfl, rfl, rfl, trivial⟩, hS⟩)
  ·have hS := hT rfl; clear hT hF
   refine Run.go rfl rfl rfl (sem_extract #[(Value.agg #[(Value.bool b28), (Value.string s29)]), (Value.bool true)] (.bool true) rfl rfl ?_)
   refine Run.go rfl rfl rfl (sem_allocN [(Value.bool false), (Value.string ByteArray.empty)] TF.zero_41 (fun k34 hb1 hb2 h35 hb3 => ?_))
   have hS := hS k34 hb1 hb2 h35 hb3
   obtain ⟨h36, hst, hS⟩ := hS
   refine Run.go rfl rfl rfl (sem_storeN ⟨k34, 0, none⟩ [(Value.bool b28), (Value.string s29)] h36 rfl rfl TF.sz_41 hst ?_)
   refine Run.go rfl rfl rfl (sem_assign ((Value.bool true)) rfl ?_)
   refine Run.region_end ?_
   refine Run.seq ?_
   refine Run.ops0 (idx := [0]) rfl ?_
   refine Run.go rfl rfl rfl (sem_move ((Value.bool true)) rfl ?_)
   refine Run.region_end ?_
   refine Run.condT rfl ?_
   refine Run.seq ?_
   refine Run.ops0 (idx := [0, 1, 2]) rfl ?_
   obtain ⟨b37, s38, hl, hS⟩ := hS
   refine Run.go rfl rfl rfl (sem_loadN ⟨k34, 0, none⟩ [(Value.bool b37), (Value.string s38)] rfl TF.agg_41 TF.sz_41 hl ?_)
   obtain ⟨h39, hst, hS⟩ := hS
   refine Run.go rfl rfl rfl (sem_storeN ⟨k7, 0, none⟩ [(Value.bool b37), (Value.string s38)] h39 rfl rfl TF.sz_41 hst ?_)
   refine Run.go rfl rfl rfl (sem_assign ((Value.bool true)) rfl ?_)
   refine Run.region_end ?_
   obtain ⟨b40, s41, hl0, hS⟩ := hS
   refine Run.ret ⟨.inr rfl, ?_⟩
   exact ⟨⟨k7, 0, none⟩, (Value.agg #[(Value.bool b40), (Value.string s41)]), rfl, loadHN TF.agg_41 TF.sz_41 hl0, hS.imp fun h' hq => ⟨(b40), s41, (true), rfl, hq⟩⟩
set_option maxHeartbeats 4000000 in
theorem C_sheet_Sheet_Copy.of {B : RO} {p1 : Option Addr} {h : Heap} {Q : Option Addr → Heap → Prop} (hS : S_sheet_Sheet_Copy B p1 h Q) : C_sheet_Sheet_Copy B p1 h Q := by
 unfold S_sheet_Sheet_Copy at hS
 unfold C_sheet_Sheet_Copy
 refine Spec.of_run Try.func47 (N := 12) (rs := [ResultVar.tmp 2]) rfl rfl rfl (Nat.le_of_ble_eq_true rfl) ?_
 refine Run.seq ?_
 refine Run.ops0 (idx := [0]) rfl ?_
 refine Run.go rfl rfl rfl (sem_assign ((Value.pointer none)) rfl ?_)
 refine Run.region_end ?_
 refine Run.seq ?_
 refine Run.seq ?_
 refine Run.ops0 (idx := [0, 1]) rfl ?_
 refine Run.go rfl rfl rfl (sem_move ((Value.pointer p1)) rfl ?_)
 obtain ⟨hT, hF⟩ := hS
 by_cases hb3 : p1 = none
 ·have hS := hT hb3; clear hT hF
  refine Run.go rfl rfl rfl (sem_ptrNilT p1 (.inl rfl) true rfl rfl TF.ptr_28 hb3 rfl ?_)
  refine Run.region_end ?_
  refine Run.condT rfl ?_
  refine Run.seq ?_
  refine Run.ops0 (idx := [0]) rfl ?_
  refine Run.go rfl rfl rfl (sem_assign ((Value.pointer none)) rfl ?_)
  refine Run.region_end ?_
  refine Run.ret ⟨.inr rfl, ?_⟩
  exact hS.imp fun h' hq => ⟨none, rfl, hq⟩
 ·have hS := hF hb3; clear hT hF
  refine Run.go rfl rfl rfl (sem_ptrNilF p1 (.inl rfl) false rfl rfl TF.ptr_28 hb3 rfl ?_)
  refine Run.region_end ?_
  refine Run.condF rfl ?_
  refine Run.skip ?_
  refine Run.seq ?_
  refine Run.ops0 (idx := [0, 1, 2, 3, 4, 5, 6, 7]) rfl ?_
  refine Run.go rfl rfl rfl (sem_move ((Value.pointer p1)) rfl ?_)
  obtain ⟨A4, e5, hS⟩ := hS
  refine Run.go rfl rfl rfl (sem_nilCheck A4 (congrArg Value.pointer e5) ?_)
  refine Run.go rfl rfl rfl (sem_fieldAddr A4 0 rfl TF.fld_128_0 ?_)
  obtain ⟨p6, hl, hS⟩ := hS
  refine Run.go rfl rfl rfl (sem_load1 A4 ((Value.pointer p6)) rfl TF.agg_95 hl ?_)
  refine Run.go rfl rfl rfl (sem_callL [(Value.pointer p6)] (TF.goes_91) rfl rfl (Spec.mono hS fun v h7 hv => ?_))
  obtain ⟨p8, rfl, hS⟩ := hv
  refine Run.go rfl rfl rfl (sem_buildSL [(0, (Value.pointer p8))] [(Value.pointer p8)] TF.zero_128 TF.places_128 rfl rfl ?_)
  refine Run.go rfl rfl rfl (sem_boxNN [(Value.pointer p8)] rfl (fun k9 hb1 hb2 h10 hb3 => ?_))
  have hS := hS k9 hb1 hb2 h10 hb3
  refine Run.go rfl rfl rfl (sem_assign ((Value.pointer (some ⟨k9, 0, none⟩))) rfl ?_)
  refine Run.region_end ?_
  refine Run.ret ⟨.inr rfl, ?_⟩
  exact hS.imp fun h' hq => ⟨(some ⟨k9, 0, none⟩), rfl, hq⟩
set_option maxHeartbeats 4000000 in
theorem C_tome_Tome_Get.of {B : RO} {p1 : Option Addr} {i2 : Int} {h : Heap} {Q : Bool → ByteArray → Int → Heap → Prop} (hS : S_tome_Tome_Get B p1 i2 h Q) : C_tome_Tome_Get B p1 i2 h Q := by
 unfold S_tome_Tome_Get at hS
 unfold C_tome_Tome_Get
 refine Spec.of_run Try.func49 (N := 17) (rs := [ResultVar.cell 4 41, ResultVar.tmp 5]) rfl rfl rfl (Nat.le_of_ble_eq_true rfl) ?_
 refine Run.seq ?_
 refine Run.ops0 (idx := [0, 1]) rfl ?_
 refine Run.go rfl rfl rfl (sem_allocN [(Value.bool false), (Value.string ByteArray.empty)] TF.zero_41 (fun k6 hb1 hb2 h7 hb3 => ?_))
 have hS := hS k6 hb1 hb2 h7 hb3
 refine Run.go rfl rfl rfl (sem_assign ((Value.int .i64 (0))) rfl ?_)
 refine Run.region_end ?_
 refine Run.seq ?_
 refine Run.seq ?_
 refine Run.ops0 (idx := [0, 1]) rfl ?_
 refine Run.go rfl rfl rfl (sem_move ((Value.pointer p1)) rfl ?_)
 obtain ⟨hT, hF⟩ := hS
 by_cases hb8 : p1 = none
 ·have hS := hT hb8; clear hT hF
  refine Run.go rfl rfl rfl (sem_ptrNilT p1 (.inl rfl) true rfl rfl TF.ptr_25 hb8 rfl ?_)
  refine Run.region_end ?_
  refine Run.condT rfl ?_
  refine Run.seq ?_
  refine Run.ops0 (idx := [0, 1, 2]) rfl ?_
  refine Run.go rfl rfl rfl (sem_buildSL [] [(Value.bool false), (Value.string ByteArray.empty)] TF.zero_41 TF.places_41 rfl rfl ?_)
  obtain ⟨h9, hst, hS⟩ := hS
  refine Run.go rfl rfl rfl (sem_storeN ⟨k6, 0, none⟩ [(Value.bool false), (Value.string ByteArray.empty)] h9 rfl rfl TF.sz_41 hst ?_)
  refine Run.go rfl rfl rfl (sem_assign ((Value.int .i64 (0))) rfl ?_)
  refine Run.region_end ?_
  obtain ⟨b10, s11, hl0, hS⟩ := hS
  refine Run.ret ⟨.inr rfl, ?_⟩
  exact ⟨⟨k6, 0, none⟩, (Value.agg #[(Value.bool b10), (Value.string s11)]), rfl, loadHN TF.agg_41 TF.sz_41 hl0, hS.imp fun h' hq => ⟨(b10), s11, (0), rfl, hq⟩⟩
 ·have hS := hF hb8; clear hT hF
  refine Run.go rfl rfl rfl (sem_ptrNilF p1 (.inl rfl) false rfl rfl TF.ptr_25 hb8 rfl ?_)
  refine Run.region_end ?_
  refine Run.condF rfl ?_
  refine Run.skip ?_
  refine Run.seq ?_
  refine Run.ops0 (idx := [0, 1, 2, 3, 4, 5, 6, 7, 8, 9]) rfl ?_
  refine Run.go rfl rfl rfl (sem_move ((Value.pointer p1)) rfl ?_)
  obtain ⟨A12, e13, hS⟩ := hS
  refine Run.go rfl rfl rfl (sem_nilCheck A12 (congrArg Value.pointer e13) ?_)
  refine Run.go rfl rfl rfl (sem_fieldAddr A12 0 rfl TF.fld_113_0 ?_)
  obtain ⟨p14, hl, hS⟩ := hS
  refine Run.go rfl rfl rfl (sem_load1 A12 ((Value.pointer p14)) rfl TF.agg_110 hl ?_)
  refine Run.go rfl rfl rfl (sem_move ((Value.int .i64 (i2))) rfl ?_)
  refine Run.go rfl rfl rfl (sem_callL [(Value.pointer p14), (Value.int .i64 (i2))] (TF.goes_92) rfl rfl (Spec.mono hS fun v h15 hv => ?_))
  obtain ⟨b16, s17, i18, rfl, hS⟩ := hv
  refine Run.go rfl rfl rfl (sem_extract #[(Value.agg #[(Value.bool b16), (Value.string s17)]), (Value.int .i64 (i18))] ((Value.agg #[(Value.bool b16), (Value.string s17)])) rfl rfl ?_)
  refine Run.go rfl rfl rfl (sem_extract #[(Value.agg #[(Value.bool b16), (Value.string s17)]), (Value.int .i64 (i18))] ((Value.int .i64 (i18))) rfl rfl ?_)
  obtain ⟨h19, hst, hS⟩ := hS
  refine Run.go rfl rfl rfl (sem_storeN ⟨k6, 0, none⟩ [(Value.bool b16), (Value.string s17)] h19 rfl rfl TF.sz_41 hst ?_)
  refine Run.go rfl rfl rfl (sem_assign ((Value.int .i64 (i18))) rfl ?_)
  refine Run.region_end ?_
  obtain ⟨b20, s21, hl0, hS⟩ := hS
  refine Run.ret ⟨.inr rfl, ?_⟩
  exact ⟨⟨k6, 0, none⟩, (Value.agg #[(Value.bool b20), (Value.string s21)]), rfl, loadHN TF.agg_41 TF.sz_41 hl0, hS.imp fun h' hq => ⟨(b20), s21, (i18), rfl, hq⟩⟩
set_option maxHeartbeats 4000000 in
theorem C_mark_Stack_Push.of {B : RO} {p1 : Option Addr} {p2 : Option Addr} {p3 : Option Addr} {p4 : Option Addr} {i5 : Int} {i6 : Int} {i7 : Int} {i8 : Int} {i9 : Int} {i10 : Int} {i11 : Int} {i12 : Int} {i13 : Int} {h : Heap} {Q : Bool → Heap → Prop} (hS : S_mark_Stack_Push B p1 p2 p3 p4 i5 i6 i7 i8 i9 i10 i11 i12 i13 h Q) : C_mark_Stack_Push B p1 p2 p3 p4 i5 i6 i7 i8 i9 i10 i11 i12 i13 h Q := by
 unfold S_mark_Stack_Push at hS
 unfold C_mark_Stack_Push
 refine Spec.of_run Try.func57 (N := 21) (rs := [ResultVar.tmp 4]) rfl rfl rfl (Nat.le_of_ble_eq_true rfl) ?_
 refine Run.seq ?_
 refine Run.ops0 (idx := [0, 1]) rfl ?_
 refine Run.go rfl rfl rfl (sem_boxNN [(Value.pointer p2), (Value.pointer p3), (Value.pointer p4), (Value.int .i64 (i5)), (Value.int .i64 (i6)), (Value.int .i64 (i7)), (Value.int .i64 (i8)), (Value.int .i64 (i9)), (Value.int .i64 (i10)), (Value.int .i64 (i11)), (Value.int .i64 (i12)), (Value.int .i64 (i13))] rfl (fun k15 hb1 hb2 h16 hb3 => ?_))
 have hS := hS k15 hb1 hb2 h16 hb3
 refine Run.go rfl rfl rfl (sem_assign ((Value.bool false)) rfl ?_)
 refine Run.region_end ?_
 refine Run.seq ?_
 refine Run.seq ?_
 refine Run.ops0 (idx := [0, 1]) rfl ?_
 refine Run.go rfl rfl rfl (sem_move ((Value.pointer p1)) rfl ?_)
 obtain ⟨hT, hF⟩ := hS
 by_cases hb17 : p1 = none
 ·have hS := hT hb17; clear hT hF
  refine Run.go rfl rfl rfl (sem_ptrNilT p1 (.inl rfl) true rfl rfl TF.ptr_100 hb17 rfl ?_)
  refine Run.region_end ?_
  refine Run.condT rfl ?_
  refine Run.seq ?_
  refine Run.ops0 (idx := [0]) rfl ?_
  refine Run.go rfl rfl rfl (sem_assign ((Value.bool false)) rfl ?_)
  refine Run.region_end ?_
  refine Run.ret ⟨.inr rfl, ?_⟩
  exact hS.imp fun h' hq => ⟨(false), rfl, hq⟩
 ·have hS := hF hb17; clear hT hF
  refine Run.go rfl rfl rfl (sem_ptrNilF p1 (.inl rfl) false rfl rfl TF.ptr_100 hb17 rfl ?_)
  refine Run.region_end ?_
  refine Run.condF rfl ?_
  refine Run.skip ?_
  refine Run.seq ?_
  refine Run.ops0 (idx := [0, 1, 2, 3, 4]) rfl ?_
  refine Run.go rfl rfl rfl (sem_fieldAddr ⟨k15, 0, none⟩ 0 rfl TF.fld_107_0 ?_)
  obtain ⟨p18, p19, p20, i21, i22, i23, i24, hl, hS⟩ := hS
  refine Run.go rfl rfl rfl (sem_loadN ⟨k15, 0, none⟩ [(Value.pointer p18), (Value.pointer p19), (Value.pointer p20), (Value.int .i64 (i21)), (Value.int .i64 (i22)), (Value.int .i64 (i23)), (Value.int .i64 (i24))] rfl TF.agg_31 TF.sz_31 hl ?_)
  refine Run.go rfl rfl rfl (sem_callL [(Value.agg #[(Value.pointer p18), (Value.pointer p19), (Value.pointer p20), (Value.int .i64 (i21)), (Value.int .i64 (i22)), (Value.int .i64 (i23)), (Value.int .i64 (i24))])] (TF.goes_19) rfl rfl (Spec.mono hS fun v h25 hv => ?_))
  obtain ⟨p26, p27, p28, i29, i30, i31, i32, rfl, hS⟩ := hv
  refine Run.go rfl rfl rfl (sem_fieldAddr ⟨k15, 0, none⟩ 0 rfl TF.fld_107_0 ?_)
  obtain ⟨h33, hst, hS⟩ := hS
  refine Run.go rfl rfl rfl (sem_storeN ⟨k15, 0, none⟩ [(Value.pointer p26), (Value.pointer p27), (Value.pointer p28), (Value.int .i64 (i29)), (Value.int .i64 (i30)), (Value.int .i64 (i31)), (Value.int .i64 (i32))] h33 rfl rfl TF.sz_31 hst ?_)
  refine Run.region_end ?_
  refine Run.seq ?_
  skip
  skip
  obtain ⟨A36, e37, hS⟩ := hS
  skip
  skip
  obtain ⟨a40, n41, c42, hl, hS⟩ := hS
  have f43 := hl
  obtain ⟨p44, p45, p46, i47, i48, i49, i50, i51, i52, i53, i54, i55, hl, hS⟩ := hS
  have f56 := hl
  refine Run.drawM (fun h' => cellH B h' A36 = some (Value.slice a40 n41 c42) ∧ CellsAt B h' ⟨k15, 0, none⟩ 0 [(Value.pointer p44), (Value.pointer p45), (Value.pointer p46), (Value.int .i64 (i47)), (Value.int .i64 (i48)), (Value.int .i64 (i49)), (Value.int .i64 (i50)), (Value.int .i64 (i51)), (Value.int .i64 (i52)), (Value.int .i64 (i53)), (Value.int .i64 (i54)), (Value.int .i64 (i55))] ∧ True) [10] ⟨[0, 0, 2, 4, 8, 0, 32, 80, 255, 511, 767], [2047, 2047, 2045, 2043, 2039, 2047, 2015, 1967, 2046, 1791, 1407], [0, 0, 2, 6, 14, 0, 32, 126, 255, 511, 1023], 1024⟩ (.q 0 (.q 1 (.q 2 (.q 3 (.q 4 (.q 5 (.x 6 (.x 7 (.q 8 (.q 9 (.x 10 .nil .no))) .no) .no))))))) TF.mixed (by kernel_rfl) ⟨f43, f56, trivial⟩ ?_
  refine RunT.quiet rfl rfl rfl (fun h' hC => sem_move ((Value.pointer p1)) rfl ⟨rfl, rfl⟩) ?_
  refine RunT.quiet rfl rfl rfl (fun h' hC => sem_move ((Value.pointer p1)) rfl ⟨rfl, rfl⟩) ?_
  refine RunT.quiet rfl rfl rfl (fun h' hC => sem_nilCheck A36 (congrArg Value.pointer e37) ⟨rfl, rfl⟩) ?_
  refine RunT.quiet rfl rfl rfl (fun h' hC => sem_fieldAddr A36 0 rfl TF.fld_103_0 ⟨rfl, rfl⟩) ?_
  refine RunT.quiet rfl rfl rfl (fun h' hC => sem_load1 A36 ((Value.slice a40 n41 c42)) rfl TF.agg_101 hC.1 ⟨rfl, rfl⟩) ?_
  refine RunT.quiet rfl rfl rfl (fun h' hC => sem_loadN ⟨k15, 0, none⟩ [(Value.pointer p44), (Value.pointer p45), (Value.pointer p46), (Value.int .i64 (i47)), (Value.int .i64 (i48)), (Value.int .i64 (i49)), (Value.int .i64 (i50)), (Value.int .i64 (i51)), (Value.int .i64 (i52)), (Value.int .i64 (i53)), (Value.int .i64 (i54)), (Value.int .i64 (i55))] rfl TF.agg_107 TF.sz_107 hC.2.1 ⟨rfl, rfl⟩) ?_
  refine ⟨?_, trivial⟩
  refine OpH.go rfl rfl rfl (sem_buildSliceL [(0, (Value.agg #[(Value.pointer p44), (Value.pointer p45), (Value.pointer p46), (Value.int .i64 (i47)), (Value.int .i64 (i48)), (Value.int .i64 (i49)), (Value.int .i64 (i50)), (Value.int .i64 (i51)), (Value.int .i64 (i52)), (Value.int .i64 (i53)), (Value.int .i64 (i54)), (Value.int .i64 (i55))]))] [(Value.pointer p44), (Value.pointer p45), (Value.pointer p46), (Value.int .i64 (i47)), (Value.int .i64 (i48)), (Value.int .i64 (i49)), (Value.int .i64 (i50)), (Value.int .i64 (i51)), (Value.int .i64 (i52)), (Value.int .i64 (i53)), (Value.int .i64 (i54)), (Value.int .i64 (i55))] TF.slc_101 TF.zero_107 rfl (by decide) (by decide) rfl rfl (fun k57 hb1 hb2 h58 hb3 => ?_))
  have hS := hS k57 hb1 hb2 h58 hb3
  obtain ⟨g59, g60, hS⟩ := hS
  refine ⟨fun _ => ⟨g59, g60, trivial⟩, ?_⟩
  refine ⟨?_, trivial⟩
  refine OpH.go rfl rfl rfl (sem_appendL [(Value.slice a40 n41 c42), (Value.slice (some ⟨k57, 0, none⟩) 1 1)] rfl (semH_mono (fun v h61 hv => ?_) hS))
  obtain ⟨a62, n63, c64, rfl, hS⟩ := hv
  obtain ⟨g65, g66, hS⟩ := hS
  refine ⟨fun _ => ⟨g65, g66, trivial⟩, ?_⟩
  obtain ⟨A67, e68, hS⟩ := hS
  refine RunT.quiet rfl rfl rfl (fun h' hC => sem_nilCheck A67 (congrArg Value.pointer e68) ⟨rfl, rfl⟩) ?_
  refine RunT.quiet rfl rfl rfl (fun h' hC => sem_fieldAddr A67 0 rfl TF.fld_103_0 ⟨rfl, rfl⟩) ?_
  refine ⟨?_, trivial⟩
  obtain ⟨h69, hst, hS⟩ := hS
  refine OpH.go rfl rfl rfl (sem_store1 A67 ((Value.slice a62 n63 c64)) h69 rfl rfl rfl TF.sz_101 hst ?_)
  refine ⟨fun hz => Bool.noConfusion hz, ?_⟩
  refine Run.seq ?_
  refine Run.ops0 (idx := [0]) rfl ?_
  refine Run.go rfl rfl rfl (sem_assign ((Value.bool true)) rfl ?_)
  refine Run.region_end ?_
  refine Run.ret ⟨.inr rfl, ?_⟩
  exact hS.imp fun h' hq => ⟨(true), rfl, hq⟩
set_option maxHeartbeats 4000000 in
theorem C_mark_Stack_Len.of {B : RO} {p1 : Option Addr} {h : Heap} {Q : Int → Heap → Prop} (hS : S_mark_Stack_Len B p1 h Q) : C_mark_Stack_Len B p1 h Q := by
 unfold S_mark_Stack_Len at hS
 unfold C_mark_Stack_Len
 refine Spec.of_run Try.func58 (N := 10) (rs := [ResultVar.tmp 2]) rfl rfl rfl (Nat.le_of_ble_eq_true rfl) ?_
 refine Run.seq ?_
 refine Run.ops0 (idx := [0]) rfl ?_
 refine Run.go rfl rfl rfl (sem_assign ((Value.int .i64 (0))) rfl ?_)
 refine Run.region_end ?_
 refine Run.seq ?_
 refine Run.seq ?_
 refine Run.ops0 (idx := [0, 1]) rfl ?_
 refine Run.go rfl rfl rfl (sem_move ((Value.pointer p1)) rfl ?_)
 obtain ⟨hT, hF⟩ := hS
 by_cases hb3 : p1 = none
 ·have hS := hT hb3; clear hT hF
  refine Run.go rfl rfl rfl (sem_ptrNilT p1 (.inl rfl) true rfl rfl TF.ptr_100 hb3 rfl ?_)
  refine Run.region_end ?_
  refine Run.condT rfl ?_
  refine Run.seq ?_
  refine Run.ops0 (idx := [0]) rfl ?_
  refine Run.go rfl rfl rfl (sem_assign ((Value.int .i64 (0))) rfl ?_)
  refine Run.region_end ?_
  refine Run.ret ⟨.inr rfl, ?_⟩
  exact hS.imp fun h' hq => ⟨(0), rfl, hq⟩
 ·have hS := hF hb3; clear hT hF
  refine Run.go rfl rfl rfl (sem_ptrNilF p1 (.inl rfl) false rfl rfl TF.ptr_100 hb3 rfl ?_)
  refine Run.region_end ?_
  refine Run.condF rfl ?_
  refine Run.skip ?_
  refine Run.seq ?_
  refine Run.ops0 (idx := [0, 1, 2, 3, 4, 5]) rfl ?_
  refine Run.go rfl rfl rfl (sem_move ((Value.pointer p1)) rfl ?_)
  obtain ⟨A4, e5, hS⟩ := hS
  refine Run.go rfl rfl rfl (sem_nilCheck A4 (congrArg Value.pointer e5) ?_)
  refine Run.go rfl rfl rfl (sem_fieldAddr A4 0 rfl TF.fld_103_0 ?_)
  refine Run.ldSl hS fun a6 n7 c8 h9 hl hS => ?_
  refine Run.go rfl rfl rfl (sem_load1 A4 ((Value.slice a6 n7 c8)) rfl TF.agg_101 hl ?_)
  refine Run.go rfl rfl rfl (sem_lenSl a6 n7 c8 rfl TF.sl_101 ?_)
  refine Run.go rfl rfl rfl (sem_assign ((Value.int .i64 ((n7 : Nat)))) rfl ?_)
  refine Run.region_end ?_
  refine Run.ret ⟨.inr rfl, ?_⟩
  exact hS.imp fun h' hq => ⟨((n7 : Nat)), rfl, hq⟩
set_option maxHeartbeats 4000000 in
theorem C_mark_Stack_Pop.of {B : RO} {p1 : Option Addr} {h : Heap} {Q : Option Addr → Option Addr → Option Addr → Int → Int → Int → Int → Int → Int → Int → Int → Int → Bool → Heap → Prop} (hS : S_mark_Stack_Pop B p1 h Q) : C_mark_Stack_Pop B p1 h Q := by
 unfold S_mark_Stack_Pop at hS
 unfold C_mark_Stack_Pop
 refine Spec.of_run Try.func59 (N := 42) (rs := [ResultVar.cell 2 107, ResultVar.tmp 3]) rfl rfl rfl (Nat.le_of_ble_eq_true rfl) ?_
 refine Run.seq ?_
 refine Run.ops0 (idx := [0, 1]) rfl ?_
 refine Run.go rfl rfl rfl (sem_allocN [(Value.pointer none), (Value.pointer none), (Value.pointer none), (Value.int .i64 (0)), (Value.int .i64 (0)), (Value.int .i64 (0)), (Value.int .i64 (0)), (Value.int .i64 (0)), (Value.int .i64 (0)), (Value.int .i64 (0)), (Value.int .i64 (0)), (Value.int .i64 (0))] TF.zero_107 (fun k15 hb1 hb2 h16 hb3 => ?_))
 have hS := hS k15 hb1 hb2 h16 hb3
 refine Run.go rfl rfl rfl (sem_assign ((Value.bool false)) rfl ?_)
 refine Run.region_end ?_
 refine Run.seqJ (fun e h18 => Agree [(0, (Value.pointer p1)), (2, (Value.pointer (some ⟨k15, 0, none⟩)))] e ∧ S_mark_Stack_Pop_J1 B p1 k15 h18 Q) ?_ fun j17 => ?_
 ·rintro e h18 ⟨hag, hS⟩
  refine Run.env hag ?_; clear hag
  refine Run.seq ?_
  refine Run.ops0 (idx := [0, 1, 2, 3, 4, 5, 6]) rfl ?_
  refine Run.go rfl rfl rfl (sem_move ((Value.pointer p1)) rfl ?_)
  obtain ⟨A19, e20, hS⟩ := hS
  refine Run.go rfl rfl rfl (sem_nilCheck A19 (congrArg Value.pointer e20) ?_)
  refine Run.go rfl rfl rfl (sem_fieldAddr A19 0 rfl TF.fld_103_0 ?_)
  refine Run.ldSl hS fun a21 n22 c23 h24 hl hS => ?_
  refine Run.go rfl rfl rfl (sem_load1 A19 ((Value.slice a21 n22 c23)) rfl TF.agg_101 hl ?_)
  refine Run.go rfl rfl rfl (sem_lenSl a21 n22 c23 rfl TF.sl_101 ?_)
  refine Run.go rfl rfl rfl (sem_binI .i64 ((n22 : Nat)) (1) ((Value.int .i64 (IntKind.wrap .i64 (((n22 : Nat)) - (1))))) rfl rfl rfl ?_)
  refine Run.go rfl rfl rfl (sem_assign ((Value.int .i64 (IntKind.wrap .i64 (((n22 : Nat)) - (1))))) rfl ?_)
  refine Run.region_end ?_
  refine Run.seq ?_
  refine Run.ops0 (idx := [0, 1, 2, 3, 4, 5, 6, 7, 8]) rfl ?_
  refine Run.go rfl rfl rfl (sem_move ((Value.pointer p1)) rfl ?_)
  obtain ⟨A25, e26, hS⟩ := hS
  refine Run.go rfl rfl rfl (sem_nilCheck A25 (congrArg Value.pointer e26) ?_)
  refine Run.go rfl rfl rfl (sem_fieldAddr A25 0 rfl TF.fld_103_0 ?_)
  refine Run.ldSl hS fun a27 n28 c29 h30 hl hS => ?_
  refine Run.go rfl rfl rfl (sem_load1 A25 ((Value.slice a27 n28 c29)) rfl TF.agg_101 hl ?_)
  refine Run.go rfl rfl rfl (sem_move ((Value.int .i64 (IntKind.wrap .i64 (((n22 : Nat)) - (1))))) rfl ?_)
  obtain ⟨A31, e32, hi0, hi1, hS⟩ := hS
  refine Run.go rfl rfl rfl (sem_indexAddrS A31 n28 c29 .i64 (IntKind.wrap .i64 (((n22 : Nat)) - (1))) (congrArg (fun a => Value.slice a n28 c29) e32) rfl TF.slc_101 hi0 hi1 ?_)
  obtain ⟨p33, p34, p35, i36, i37, i38, i39, i40, i41, i42, i43, i44, hl, hS⟩ := hS
  refine Run.go rfl rfl rfl (sem_loadN (Addr.add A31 (Int.toNat (IntKind.wrap .i64 (((n22 : Nat)) - (1))) * 12)) [(Value.pointer p33), (Value.pointer p34), (Value.pointer p35), (Value.int .i64 (i36)), (Value.int .i64 (i37)), (Value.int .i64 (i38)), (Value.int .i64 (i39)), (Value.int .i64 (i40)), (Value.int .i64 (i41)), (Value.int .i64 (i42)), (Value.int .i64 (i43)), (Value.int .i64 (i44))] rfl TF.agg_107 TF.sz_107 hl ?_)
  refine Run.go rfl rfl rfl (sem_allocN [(Value.pointer none), (Value.pointer none), (Value.pointer none), (Value.int .i64 (0)), (Value.int .i64 (0)), (Value.int .i64 (0)), (Value.int .i64 (0)), (Value.int .i64 (0)), (Value.int .i64 (0)), (Value.int .i64 (0)), (Value.int .i64 (0)), (Value.int .i64 (0))] TF.zero_107 (fun k45 hb1 hb2 h46 hb3 => ?_))
  have hS := hS k45 hb1 hb2 h46 hb3
  obtain ⟨h47, hst, hS⟩ := hS
  refine Run.go rfl rfl rfl (sem_storeN ⟨k45, 0, none⟩ [(Value.pointer p33), (Value.pointer p34), (Value.pointer p35), (Value.int .i64 (i36)), (Value.int .i64 (i37)), (Value.int .i64 (i38)), (Value.int .i64 (i39)), (Value.int .i64 (i40)), (Value.int .i64 (i41)), (Value.int .i64 (i42)), (Value.int .i64 (i43)), (Value.int .i64 (i44))] h47 rfl rfl TF.sz_107 hst ?_)
  refine Run.region_end ?_
  refine Run.seq ?_
  refine Run.ops0 (idx := [0, 1, 2, 3, 4, 5, 6, 7, 8, 9, 10, 11]) rfl ?_
  refine Run.go rfl rfl rfl (sem_move ((Value.pointer p1)) rfl ?_)
  refine Run.go rfl rfl rfl (sem_move ((Value.pointer p1)) rfl ?_)
  obtain ⟨A48, e49, hS⟩ := hS
  refine Run.go rfl rfl rfl (sem_nilCheck A48 (congrArg Value.pointer e49) ?_)
  refine Run.go rfl rfl rfl (sem_fieldAddr A48 0 rfl TF.fld_103_0 ?_)
  refine Run.ldSl hS fun a50 n51 c52 h53 hl hS => ?_
  refine Run.go rfl rfl rfl (sem_load1 A48 ((Value.slice a50 n51 c52)) rfl TF.agg_101 hl ?_)
  refine Run.go rfl rfl rfl (sem_move ((Value.int .i64 (IntKind.wrap .i64 (((n22 : Nat)) - (1))))) rfl ?_)
  refine Run.go rfl rfl rfl (sem_move ((Value.int .i64 (IntKind.wrap .i64 (((n22 : Nat)) - (1))))) rfl ?_)
  refine Run.go rfl rfl rfl (sem_binI .i64 (IntKind.wrap .i64 (((n22 : Nat)) - (1))) (1) ((Value.int .i64 (IntKind.wrap .i64 ((IntKind.wrap .i64 (((n22 : Nat)) - (1))) + (1))))) rfl rfl rfl ?_)
  refine Run.go rfl rfl rfl (sem_callL [(Value.slice a50 n51 c52), (Value.int .i64 (IntKind.wrap .i64 (((n22 : Nat)) - (1)))), (Value.int .i64 (IntKind.wrap .i64 ((IntKind.wrap .i64 (((n22 : Nat)) - (1))) + (1))))] (TF.goes_98) rfl rfl (Spec.mono hS fun v h54 hv => ?_))
  obtain ⟨a55, n56, c57, rfl, hS⟩ := hv
  obtain ⟨A58, e59, hS⟩ := hS
  refine Run.go rfl rfl rfl (sem_nilCheck A58 (congrArg Value.pointer e59) ?_)
  refine Run.go rfl rfl rfl (sem_fieldAddr A58 0 rfl TF.fld_103_0 ?_)
  obtain ⟨h60, hst, hS⟩ := hS
  refine Run.go rfl rfl rfl (sem_store1 A58 ((Value.slice a55 n56 c57)) h60 rfl rfl rfl TF.sz_101 hst ?_)
  refine Run.region_end ?_
  refine Run.seq ?_
  refine Run.ops0 (idx := [0, 1, 2]) rfl ?_
  obtain ⟨p61, p62, p63, i64, i65, i66, i67, i68, i69, i70, i71, i72, hl, hS⟩ := hS
  refine Run.go rfl rfl rfl (sem_loadN ⟨k45, 0, none⟩ [(Value.pointer p61), (Value.pointer p62), (Value.pointer p63), (Value.int .i64 (i64)), (Value.int .i64 (i65)), (Value.int .i64 (i66)), (Value.int .i64 (i67)), (Value.int .i64 (i68)), (Value.int .i64 (i69)), (Value.int .i64 (i70)), (Value.int .i64 (i71)), (Value.int .i64 (i72))] rfl TF.agg_107 TF.sz_107 hl ?_)
  obtain ⟨h73, hst, hS⟩ := hS
  refine Run.go rfl rfl rfl (sem_storeN ⟨k15, 0, none⟩ [(Value.pointer p61), (Value.pointer p62), (Value.pointer p63), (Value.int .i64 (i64)), (Value.int .i64 (i65)), (Value.int .i64 (i66)), (Value.int .i64 (i67)), (Value.int .i64 (i68)), (Value.int .i64 (i69)), (Value.int .i64 (i70)), (Value.int .i64 (i71)), (Value.int .i64 (i72))] h73 rfl rfl TF.sz_107 hst ?_)
  refine Run.go rfl rfl rfl (sem_assign ((Value.bool true)) rfl ?_)
  refine Run.region_end ?_
  obtain ⟨p74, p75, p76, i77, i78, i79, i80, i81, i82, i83, i84, i85, hl0, hS⟩ := hS
  refine Run.ret ⟨.inr rfl, ?_⟩
  exact ⟨⟨k15, 0, none⟩, (Value.agg #[(Value.pointer p74), (Value.pointer p75), (Value.pointer p76), (Value.int .i64 (i77)), (Value.int .i64 (i78)), (Value.int .i64 (i79)), (Value.int .i64 (i80)), (Value.int .i64 (i81)), (Value.int .i64 (i82)), (Value.int .i64 (i83)), (Value.int .i64 (i84)), (Value.int .i64 (i85))]), rfl, loadHN TF.agg_107 TF.sz_107 hl0, hS.imp fun h' hq => ⟨p74, p75, p76, (i77), (i78), (i79), (i80), (i81), (i82), (i83), (i84), (i85), (true), rfl, hq⟩⟩
 refine Run.seq ?_
 refine Run.ops0 (idx := [0, 1, 2, 3, 4, 5, 6, 7, 8, 9]) rfl ?_
 refine Run.go rfl rfl rfl (sem_move ((Value.pointer p1)) rfl ?_)
 obtain ⟨hT, hF⟩ := hS
 by_cases hb86 : p1 = none
 ·have hS := hT hb86; clear hT hF
  refine Run.go rfl rfl rfl (sem_ptrNilT p1 (.inl rfl) true rfl rfl TF.ptr_100 hb86 rfl ?_)
  refine Run.go rfl rfl rfl (sem_move ((Value.bool true)) rfl ?_)
  refine Run.no rfl rfl rfl ?_
  refine Run.no rfl rfl rfl ?_
  refine Run.no rfl rfl rfl ?_
  refine Run.no rfl rfl rfl ?_
  refine Run.no rfl rfl rfl ?_
  refine Run.no rfl rfl rfl ?_
  refine Run.go rfl rfl rfl (sem_pick true ((Value.bool true)) rfl rfl ?_)
  refine Run.region_end ?_
  refine Run.condT rfl ?_
  refine Run.seq ?_
  refine Run.ops0 (idx := [0, 1, 2]) rfl ?_
  refine Run.go rfl rfl rfl (sem_buildSL [] [(Value.pointer none), (Value.pointer none), (Value.pointer none), (Value.int .i64 (0)), (Value.int .i64 (0)), (Value.int .i64 (0)), (Value.int .i64 (0)), (Value.int .i64 (0)), (Value.int .i64 (0)), (Value.int .i64 (0)), (Value.int .i64 (0)), (Value.int .i64 (0))] TF.zero_107 TF.places_107 rfl rfl ?_)
  obtain ⟨h87, hst, hS⟩ := hS
  refine Run.go rfl rfl rfl (sem_storeN ⟨k15, 0, none⟩ [(Value.pointer none), (Value.pointer none), (Value.pointer none), (Value.int .i64 (0)), (Value.int .i64 (0)), (Value.int .i64 (0)), (Value.int .i64 (0)), (Value.int .i64 (0)), (Value.int .i64 (0)), (Value.int .i64 (0)), (Value.int .i64 (0)), (Value.int .i64 (0))] h87 rfl rfl TF.sz_107 hst ?_)
  refine Run.go rfl rfl rfl (sem_assign ((Value.bool false)) rfl ?_)
  refine Run.region_end ?_
  obtain ⟨p88, p89, p90, i91, i92, i93, i94, i95, i96, i97, i98, i99, hl0, hS⟩ := hS
  refine Run.ret ⟨.inr rfl, ?_⟩
  exact ⟨⟨k15, 0, none⟩, (Value.agg #[(Value.pointer p88), (Value.pointer p89), (Value.pointer p90), (Value.int .i64 (i91)), (Value.int .i64 (i92)), (Value.int .i64 (i93)), (Value.int .i64 (i94)), (Value.int .i64 (i95)), (Value.int .i64 (i96)), (Value.int .i64 (i97)), (Value.int .i64 (i98)), (Value.int .i64 (i99))]), rfl, loadHN TF.agg_107 TF.sz_107 hl0, hS.imp fun h' hq => ⟨p88, p89, p90, (i91), (i92), (i93), (i94), (i95), (i96), (i97), (i98), (i99), (false), rfl, hq⟩⟩
 ·have hS := hF hb86; clear hT hF
  refine Run.go rfl rfl rfl (sem_ptrNilF p1 (.inl rfl) false rfl rfl TF.ptr_100 hb86 rfl ?_)
  refine Run.go rfl rfl rfl (sem_move ((Value.bool false)) rfl ?_)
  refine Run.go rfl rfl rfl (sem_move ((Value.pointer p1)) rfl ?_)
  obtain ⟨A100, e101, hS⟩ := hS
  refine Run.go rfl rfl rfl (sem_nilCheck A100 (congrArg Value.pointer e101) ?_)
  refine Run.go rfl rfl rfl (sem_fieldAddr A100 0 rfl TF.fld_103_0 ?_)
  refine Run.ldSl hS fun a102 n103 c104 h105 hl hS => ?_
  refine Run.go rfl rfl rfl (sem_load1 A100 ((Value.slice a102 n103 c104)) rfl TF.agg_101 hl ?_)
  refine Run.go rfl rfl rfl (sem_lenSl a102 n103 c104 rfl TF.sl_101 ?_)
  obtain ⟨hT, hF⟩ := hS
  by_cases hb106 : ((n103 : Nat) : Int) = 0
  ·have hS := hT hb106; clear hT hF
   refine Run.go rfl rfl rfl (sem_binI .i64 ((n103 : Nat)) (0) (.bool true) rfl rfl (binI_eql_t hb106) ?_)
   refine Run.go rfl rfl rfl (sem_pick false ((Value.bool true)) rfl rfl ?_)
   refine Run.region_end ?_
   refine Run.condT rfl ?_
   refine Run.seq ?_
   refine Run.ops0 (idx := [0, 1, 2]) rfl ?_
   refine Run.go rfl rfl rfl (sem_buildSL [] [(Value.pointer none), (Value.pointer none), (Value.pointer none), (Value.int .i64 (0)), (Value.int .i64 (0)), (Value.int .i64 (0)), (Value.int .i64 (0)), (Value.int .i64 (0)), (Value.int .i64 (0)), (Value.int .i64 (0)), (Value.int .i64 (0)), (Value.int .i64 (0))] TF.zero_107 TF.places_107 rfl rfl ?_)
   obtain ⟨h107, hst, hS⟩ := hS
   refine Run.go rfl rfl rfl (sem_storeN ⟨k15, 0, none⟩ [(Value.pointer none), (Value.pointer none), (Value.pointer none), (Value.int .i64 (0)), (Value.int .i64 (0)), (Value.int .i64 (0)), (Value.int .i64 (0)), (Value.int .i64 (0)), (Value.int .i64 (0)), (Value.int .i64 (0)), (Value.int .i64 (0)), (Value.int .i64 (0))] h107 rfl rfl TF.sz_107 hst ?_)
   refine Run.go rfl rfl rfl (sem_assign ((Value.bool false)) rfl ?_)
   refine Run.region_end ?_
   obtain ⟨p108, p109, p110, i111, i112, i113, i114, i115, i116, i117, i118, i119, hl0, hS⟩ := hS
   refine Run.ret ⟨.inr rfl, ?_⟩
   exact ⟨⟨k15, 0, none⟩, (Value.agg #[(Value.pointer p108), (Value.pointer p109), (Value.pointer p110), (Value.int .i64 (i111)), (Value.int .i64 (i112)), (Value.int .i64 (i113)), (Value.int .i64 (i114)), (Value.int .i64 (i115)), (Value.int .i64 (i116)), (Value.int .i64 (i117)), (Value.int .i64 (i118)), (Value.int .i64 (i119))]), rfl, loadHN TF.agg_107 TF.sz_107 hl0, hS.imp fun h' hq => ⟨p108, p109, p110, (i111), (i112), (i113), (i114), (i115), (i116), (i117), (i118), (i119), (false), rfl, hq⟩⟩
  ·have hS := hF hb106; clear hT hF
   refine Run.go rfl rfl rfl (sem_binI .i64 ((n103 : Nat)) (0) (.bool false) rfl rfl (binI_eql_f hb106) ?_)
   refine Run.go rfl rfl rfl (sem_pick false ((Value.bool false)) rfl rfl ?_)
   refine Run.region_end ?_
   refine Run.condF rfl ?_
   refine Run.skip ?_
   exact Run.of_fin (hS.imp fun h' hS => j17 _ _ ⟨⟨rfl, rfl, trivial⟩, hS⟩)
set_option maxHeartbeats 4000000 in
theorem C_cell_New_file_File.of {B : RO} {i1 : Int} {b2 : Bool} {s3 : ByteArray} {h : Heap} {Q : Option Addr → Heap → Prop} (hS : S_cell_New_file_File B i1 b2 s3 h Q) : C_cell_New_file_File B i1 b2 s3 h Q := by
 unfold S_cell_New_file_File at hS
 unfold C_cell_New_file_File
 refine Spec.of_run Try.func60 (N := 24) (rs := [ResultVar.tmp 4]) rfl rfl rfl (Nat.le_of_ble_eq_true rfl) ?_
 refine Run.seq ?_
 refine Run.ops0 (idx := [0, 1]) rfl ?_
 refine Run.go rfl rfl rfl (sem_boxNN [(Value.bool b2), (Value.string s3)] rfl (fun k5 hb1 hb2 h6 hb3 => ?_))
 have hS := hS k5 hb1 hb2 h6 hb3
 refine Run.go rfl rfl rfl (sem_assign ((Value.pointer none)) rfl ?_)
 refine Run.region_end ?_
 refine Run.seq ?_
 refine Run.ops0 (idx := [0, 1, 2]) rfl ?_
 refine Run.go rfl rfl rfl (sem_buildSL [] [(Value.slice none 0 0)] TF.zero_168 TF.places_168 rfl rfl ?_)
 refine Run.go rfl rfl rfl (sem_boxNN [(Value.slice none 0 0)] rfl (fun k7 hb1 hb2 h8 hb3 => ?_))
 have hS := hS k7 hb1 hb2 h8 hb3
 refine Run.go rfl rfl rfl (sem_assign ((Value.pointer (some ⟨k7, 0, none⟩))) rfl ?_)
 refine Run.region_end ?_
 refine Run.seq ?_
 refine Run.seq ?_
 refine Run.ops0 (idx := [0, 1]) rfl ?_
 refine Run.go rfl rfl rfl (sem_move ((Value.int .i64 (i1))) rfl ?_)
 refine Run.go rfl rfl rfl (sem_move ((Value.int .i64 (0))) rfl ?_)
 refine Run.region_end ?_
 refine Run.block ?_
 obtain ⟨J14, m12, h0, hS⟩ := hS
 refine Run.of_fin (h0.imp fun h' h0 => ?_)
 refine Run.loop (σ := Int × Nat) (fun x e h => J14 x.1 x.2 h ∧ Agree [(3, (Value.pointer (some ⟨k5, 0, none⟩))), (5, (Value.pointer (some ⟨k7, 0, none⟩))), (8, (Value.int .i64 (i1))), (9, (Value.int .i64 (x.1)))] e) (fun x => x.2) ((0), m12) ⟨h0, ⟨rfl, rfl, rfl, rfl, trivial⟩⟩ ?_; clear h0
 rintro ⟨i9, m11⟩ e h10 ⟨hJ, hag⟩ ih13
 have hS := hS i9 m11 h10 hJ; clear hJ
 refine Run.env hag ?_; clear hag
 refine Run.seq ?_
 refine Run.ops0 (idx := [0]) rfl ?_
 obtain ⟨hT, hF⟩ := hS
 by_cases hb15 : (i9 : Int) < (i1)
 ·have hS := hT hb15; clear hT hF
  refine Run.go rfl rfl rfl (sem_binI .i64 (i9) (i1) (.bool true) rfl rfl (binI_lss_t hb15) ?_)
  refine Run.region_end ?_
  refine Run.seq ?_
  refine Run.condT rfl ?_
  refine Run.skip ?_
  refine Run.seq ?_
  refine Run.block ?_
  skip
  skip
  skip
  skip
  obtain ⟨a20, n21, c22, hl, hS⟩ := hS
  have f23 := hl
  obtain ⟨b24, s25, hl, hS⟩ := hS
  have f26 := hl
  skip
  refine Run.drawM (fun h' => cellH B h' ⟨k7, 0, none⟩ = some (Value.slice a20 n21 c22) ∧ CellsAt B h' ⟨k5, 0, none⟩ 0 [(Value.bool b24), (Value.string s25)] ∧ True) [11] ⟨[0, 0, 2, 4, 8, 0, 32, 64, 144, 511, 1023, 1535], [4095, 4095, 4093, 4091, 4087, 4095, 4063, 4031, 3951, 4094, 3583, 2815], [0, 0, 2, 6, 14, 0, 32, 96, 254, 511, 1023, 2047], 2048⟩ (.q 0 (.q 1 (.q 2 (.q 3 (.q 4 (.q 5 (.q 6 (.x 7 (.x 8 (.q 9 (.q 10 (.x 11 .nil .no))) .no) .no)))))))) TF.mixed (by kernel_rfl) ⟨f23, f26, trivial⟩ ?_
  refine RunT.quiet rfl rfl rfl (fun h' hC => sem_move ((Value.pointer (some ⟨k7, 0, none⟩))) rfl ⟨rfl, rfl⟩) ?_
  refine RunT.quiet rfl rfl rfl (fun h' hC => sem_move ((Value.pointer (some ⟨k7, 0, none⟩))) rfl ⟨rfl, rfl⟩) ?_
  refine RunT.quiet rfl rfl rfl (fun h' hC => sem_nilCheck ⟨k7, 0, none⟩ rfl ⟨rfl, rfl⟩) ?_
  refine RunT.quiet rfl rfl rfl (fun h' hC => sem_fieldAddr ⟨k7, 0, none⟩ 0 rfl TF.fld_168_0 ⟨rfl, rfl⟩) ?_
  refine RunT.quiet rfl rfl rfl (fun h' hC => sem_load1 ⟨k7, 0, none⟩ ((Value.slice a20 n21 c22)) rfl TF.agg_166 hC.1 ⟨rfl, rfl⟩) ?_
  refine RunT.quiet rfl rfl rfl (fun h' hC => sem_loadN ⟨k5, 0, none⟩ [(Value.bool b24), (Value.string s25)] rfl TF.agg_41 TF.sz_41 hC.2.1 ⟨rfl, rfl⟩) ?_
  refine RunT.quiet rfl rfl rfl (fun h' hC => sem_buildSL [(0, (Value.agg #[(Value.bool b24), (Value.string s25)]))] [(Value.bool b24), (Value.string s25), (Value.int .i64 (0))] TF.zero_170 TF.places_170 rfl rfl ⟨rfl, rfl⟩) ?_
  refine ⟨?_, trivial⟩
  refine OpH.go rfl rfl rfl (sem_buildSliceL [(0, (Value.agg #[(Value.bool b24), (Value.string s25), (Value.int .i64 (0))]))] [(Value.bool b24), (Value.string s25), (Value.int .i64 (0))] TF.slc_166 TF.zero_170 rfl (by decide) (by decide) rfl rfl (fun k28 hb1 hb2 h29 hb3 => ?_))
  have hS := hS k28 hb1 hb2 h29 hb3
  obtain ⟨g30, g31, hS⟩ := hS
  refine ⟨fun _ => ⟨g30, g31, trivial⟩, ?_⟩
  refine ⟨?_, trivial⟩
  refine OpH.go rfl rfl rfl (sem_appendL [(Value.slice a20 n21 c22), (Value.slice (some ⟨k28, 0, none⟩) 1 1)] rfl (semH_mono (fun v h32 hv => ?_) hS))
  obtain ⟨a33, n34, c35, rfl, hS⟩ := hv
  obtain ⟨g36, g37, hS⟩ := hS
  refine ⟨fun _ => ⟨g36, g37, trivial⟩, ?_⟩
  refine RunT.quiet rfl rfl rfl (fun h' hC => sem_nilCheck ⟨k7, 0, none⟩ rfl ⟨rfl, rfl⟩) ?_
  refine RunT.quiet rfl rfl rfl (fun h' hC => sem_fieldAddr ⟨k7, 0, none⟩ 0 rfl TF.fld_168_0 ⟨rfl, rfl⟩) ?_
  refine ⟨?_, trivial⟩
  obtain ⟨h38, hst, hS⟩ := hS
  refine OpH.go rfl rfl rfl (sem_store1 ⟨k7, 0, none⟩ ((Value.slice a33 n34 c35)) h38 rfl rfl rfl TF.sz_166 hst ?_)
  refine ⟨fun hz => Bool.noConfusion hz, ?_⟩
  refine Run.inBlock ?_
  refine Run.ops0 (idx := [0, 1]) rfl ?_
  refine Run.go rfl rfl rfl (sem_binI .i64 (i9) (1) ((Value.int .i64 (IntKind.wrap .i64 ((i9) + (1))))) rfl rfl rfl ?_)
  refine Run.go rfl rfl rfl (sem_move ((Value.int .i64 (IntKind.wrap .i64 ((i9) + (1))))) rfl ?_)
  refine Run.region_end ?_
  exact Run.of_fin (hS.imp fun h' ⟨m', hm, hS⟩ => ih13 ((IntKind.wrap .i64 ((i9) + (1))), m') _ _ ⟨hS, ⟨rfl, rfl, rfl, rfl, trivial⟩⟩ hm)
 ·have hS := hF hb15; clear hT hF
  refine Run.go rfl rfl rfl (sem_binI .i64 (i9) (i1) (.bool false) rfl rfl (binI_lss_f hb15) ?_)
  refine Run.region_end ?_
  refine Run.seq ?_
  refine Run.condF rfl ?_
  refine Run.exit rfl ?_
  refine Run.seq ?_
  refine Run.ops0 (idx := [0, 1]) rfl ?_
  refine Run.go rfl rfl rfl (sem_move ((Value.pointer (some ⟨k7, 0, none⟩))) rfl ?_)
  refine Run.go rfl rfl rfl (sem_assign ((Value.pointer (some ⟨k7, 0, none⟩))) rfl ?_)
  refine Run.region_end ?_
  refine Run.ret ⟨.inr rfl, ?_⟩
  exact hS.imp fun h' hq => ⟨(some ⟨k7, 0, none⟩), rfl, hq⟩
set_option maxHeartbeats 4000000 in
theorem C_sheet_New.of {B : RO} {h : Heap} {Q : Option Addr → Heap → Prop} (hS : S_sheet_New B h Q) : C_sheet_New B h Q := by
 unfold S_sheet_New at hS
 unfold C_sheet_New
 refine Spec.of_run Try.func61 (N := 5) (rs := [ResultVar.tmp 0]) rfl rfl rfl (Nat.le_of_ble_eq_true rfl) ?_
 refine Run.seq ?_
 refine Run.ops0 (idx := [0]) rfl ?_
 refine Run.go rfl rfl rfl (sem_assign ((Value.pointer none)) rfl ?_)
 refine Run.region_end ?_
 refine Run.seq ?_
 refine Run.ops0 (idx := [0, 1, 2, 3, 4]) rfl ?_
 refine Run.go rfl rfl rfl (sem_buildSL [] [(Value.slice none 0 0)] TF.zero_160 TF.places_160 rfl rfl ?_)
 refine Run.go rfl rfl rfl (sem_boxNN [(Value.slice none 0 0)] rfl (fun k2 hb1 hb2 h3 hb3 => ?_))
 have hS := hS k2 hb1 hb2 h3 hb3
 refine Run.go rfl rfl rfl (sem_buildSL [(0, (Value.pointer (some ⟨k2, 0, none⟩)))] [(Value.pointer (some ⟨k2, 0, none⟩))] TF.zero_128 TF.places_128 rfl rfl ?_)
 refine Run.go rfl rfl rfl (sem_boxNN [(Value.pointer (some ⟨k2, 0, none⟩))] rfl (fun k4 hb1 hb2 h5 hb3 => ?_))
 have hS := hS k4 hb1 hb2 h5 hb3
 refine Run.go rfl rfl rfl (sem_assign ((Value.pointer (some ⟨k4, 0, none⟩))) rfl ?_)
 refine Run.region_end ?_
 refine Run.ret ⟨.inr rfl, ?_⟩
 exact hS.imp fun h' hq => ⟨(some ⟨k4, 0, none⟩), rfl, hq⟩
set_option maxHeartbeats 4000000 in
theorem C_draft_Draft_int_find.of {B : RO} {p1 : Option Addr} {i2 : Int} {h : Heap} {Q : Int → Bool → Heap → Prop} (hS : S_draft_Draft_int_find B p1 i2 h Q) : C_draft_Draft_int_find B p1 i2 h Q := by
 unfold S_draft_Draft_int_find at hS
 unfold C_draft_Draft_int_find
 refine Spec.of_run Try.func62 (N := 14) (rs := [ResultVar.tmp 4, ResultVar.tmp 5]) rfl rfl rfl (Nat.le_of_ble_eq_true rfl) ?_
 refine Run.seq ?_
 refine Run.ops0 (idx := [0, 1]) rfl ?_
 refine Run.go rfl rfl rfl (sem_assign ((Value.int .i64 (0))) rfl ?_)
 refine Run.go rfl rfl rfl (sem_assign ((Value.bool false)) rfl ?_)
 refine Run.region_end ?_
 refine Run.seq ?_
 refine Run.ops0 (idx := [0, 1, 2, 3, 4, 5, 6, 7, 8, 9]) rfl ?_
 refine Run.go rfl rfl rfl (sem_move ((Value.pointer p1)) rfl ?_)
 obtain ⟨A5, e6, hS⟩ := hS
 refine Run.go rfl rfl rfl (sem_nilCheck A5 (congrArg Value.pointer e6) ?_)
 refine Run.go rfl rfl rfl (sem_fieldAddr A5 0 rfl TF.fld_116_0 ?_)
 refine Run.ldSl hS fun a7 n8 c9 h10 hl hS => ?_
 refine Run.go rfl rfl rfl (sem_load1 A5 ((Value.slice a7 n8 c9)) rfl TF.agg_114 hl ?_)
 refine Run.go rfl rfl rfl (sem_move ((Value.int .i64 (i2))) rfl ?_)
 refine Run.go rfl rfl rfl (sem_callL [(Value.slice a7 n8 c9), (Value.int .i64 (i2)), (Value.func (.func 100) #[] #[])] (TF.goes_99) rfl rfl (Spec.mono hS fun v h11 hv => ?_))
 obtain ⟨i12, b13, rfl, hS⟩ := hv
 refine Run.go rfl rfl rfl (sem_extract #[(Value.int .i64 (i12)), (Value.bool b13)] ((Value.int .i64 (i12))) rfl rfl ?_)
 refine Run.go rfl rfl rfl (sem_extract #[(Value.int .i64 (i12)), (Value.bool b13)] ((Value.bool b13)) rfl rfl ?_)
 refine Run.go rfl rfl rfl (sem_assign ((Value.int .i64 (i12))) rfl ?_)
 refine Run.go rfl rfl rfl (sem_assign ((Value.bool b13)) rfl ?_)
 refine Run.region_end ?_
 refine Run.ret ⟨.inr rfl, ?_⟩
 exact hS.imp fun h' hq => ⟨(i12), (b13), rfl, hq⟩
set_option maxHeartbeats 4000000 in
theorem C_slices_Insert_s_draft_entry_int_draft_entry_int.of {B : RO} {a1 : Option Addr} {n2 : Nat} {c3 : Nat} {i4 : Int} {a5 : Option Addr} {n6 : Nat} {c7 : Nat} {h : Heap} {Q : Option Addr → Nat → Nat → Heap → Prop} (hS : S_slices_Insert_s_draft_entry_int_draft_entry_int B a1 n2 c3 i4 a5 n6 c7 h Q) : C_slices_Insert_s_draft_entry_int_draft_entry_int B a1 n2 c3 i4 a5 n6 c7 h Q := by
 unfold S_slices_Insert_s_draft_entry_int_draft_entry_int at hS
 unfold C_slices_Insert_s_draft_entry_int_draft_entry_int
 refine Spec.of_run Try.func63 (N := 95) (rs := [ResultVar.tmp 6]) rfl rfl rfl (Nat.le_of_ble_eq_true rfl) ?_
 refine Run.seq ?_
 refine Run.ops0 (idx := [0]) rfl ?_
 refine Run.go rfl rfl rfl (sem_assign ((Value.slice none 0 0)) rfl ?_)
 refine Run.region_end ?_
 refine Run.seq ?_
 refine Run.ops0 (idx := [0, 1, 2]) rfl ?_
 refine Run.go rfl rfl rfl (sem_move ((Value.slice a1 n2 c3)) rfl ?_)
 refine Run.go rfl rfl rfl (sem_move ((Value.int .i64 (i4))) rfl ?_)
 obtain ⟨hi0, hi1, hi2, hS⟩ := hS
 refine Run.go rfl rfl rfl (sem_sliceSlI a1 n2 c3 (i4) ((n2 : Nat)) rfl TF.slc_114 ⟨_, rfl⟩ rfl hi0 hi1 hi2 ?_)
 refine Run.region_end ?_
 refine Run.seq ?_
 refine Run.ops0 (idx := [0, 1, 2]) rfl ?_
 refine Run.go rfl rfl rfl (sem_move ((Value.slice a5 n6 c7)) rfl ?_)
 refine Run.go rfl rfl rfl (sem_lenSl a5 n6 c7 rfl TF.sl_114 ?_)
 refine Run.go rfl rfl rfl (sem_assign ((Value.int .i64 ((n6 : Nat)))) rfl ?_)
 refine Run.region_end ?_
 refine Run.seq ?_
 refine Run.seq ?_
 refine Run.ops0 (idx := [0, 1]) rfl ?_
 refine Run.go rfl rfl rfl (sem_move ((Value.int .i64 ((n6 : Nat)))) rfl ?_)
 obtain ⟨hT, hF⟩ := hS
 by_cases hb11 : ((n6 : Nat) : Int) = 0
 ·have hS := hT hb11; clear hT hF
  refine Run.go rfl rfl rfl (sem_binI .i64 ((n6 : Nat)) (0) (.bool true) rfl rfl (binI_eql_t hb11) ?_)
  refine Run.region_end ?_
  refine Run.condT rfl ?_
  refine Run.seq ?_
  refine Run.ops0 (idx := [0, 1]) rfl ?_
  refine Run.go rfl rfl rfl (sem_move ((Value.slice a1 n2 c3)) rfl ?_)
  refine Run.go rfl rfl rfl (sem_assign ((Value.slice a1 n2 c3)) rfl ?_)
  refine Run.region_end ?_
  refine Run.ret ⟨.inr rfl, ?_⟩
  exact hS.imp fun h' hq => ⟨a1, n2, c3, rfl, hq⟩
 ·have hS := hF hb11; clear hT hF
  refine Run.go rfl rfl rfl (sem_binI .i64 ((n6 : Nat)) (0) (.bool false) rfl rfl (binI_eql_f hb11) ?_)
  refine Run.region_end ?_
  refine Run.condF rfl ?_
  refine Run.skip ?_
  refine Run.seq ?_
  refine Run.ops0 (idx := [0, 1, 2]) rfl ?_
  refine Run.go rfl rfl rfl (sem_move ((Value.slice a1 n2 c3)) rfl ?_)
  refine Run.go rfl rfl rfl (sem_lenSl a1 n2 c3 rfl TF.sl_114 ?_)
  refine Run.go rfl rfl rfl (sem_assign ((Value.int .i64 ((n2 : Nat)))) rfl ?_)
  refine Run.region_end ?_
  refine Run.seq ?_
  refine Run.seq ?_
  refine Run.ops0 (idx := [0, 1, 2]) rfl ?_
  refine Run.go rfl rfl rfl (sem_move ((Value.int .i64 (i4))) rfl ?_)
  refine Run.go rfl rfl rfl (sem_move ((Value.int .i64 ((n2 : Nat)))) rfl ?_)
  obtain ⟨hT, hF⟩ := hS
  by_cases hb12 : (i4 : Int) = (n2 : Nat)
  ·have hS := hT hb12; clear hT hF
   refine Run.go rfl rfl rfl (sem_binI .i64 (i4) ((n2 : Nat)) (.bool true) rfl rfl (binI_eql_t hb12) ?_)
   refine Run.region_end ?_
   refine Run.condT rfl ?_
   refine Run.seq ?_
   refine Run.ops0 (idx := [0, 1, 2, 3]) rfl ?_
   refine Run.go rfl rfl rfl (sem_move ((Value.slice a1 n2 c3)) rfl ?_)
   refine Run.go rfl rfl rfl (sem_move ((Value.slice a5 n6 c7)) rfl ?_)
   refine Run.go rfl rfl rfl (sem_appendL [(Value.slice a1 n2 c3), (Value.slice a5 n6 c7)] rfl (semH_mono (fun v h13 hv => ?_) hS))
   obtain ⟨a14, n15, c16, rfl, hS⟩ := hv
   refine Run.go rfl rfl rfl (sem_assign ((Value.slice a14 n15 c16)) rfl ?_)
   refine Run.region_end ?_
   refine Run.ret ⟨.inr rfl, ?_⟩
   exact hS.imp fun h' hq => ⟨a14, n15, c16, rfl, hq⟩
  ·have hS := hF hb12; clear hT hF
   refine Run.go rfl rfl rfl (sem_binI .i64 (i4) ((n2 : Nat)) (.bool false) rfl rfl (binI_eql_f hb12) ?_)
   refine Run.region_end ?_
   refine Run.condF rfl ?_
   refine Run.skip ?_
   refine Run.seq ?_
   refine Run.seq ?_
   refine Run.ops0 (idx := [0, 1, 2, 3, 4, 5]) rfl ?_
   refine Run.go rfl rfl rfl (sem_move ((Value.int .i64 ((n2 : Nat)))) rfl ?_)
   refine Run.go rfl rfl rfl (sem_move ((Value.int .i64 ((n6 : Nat)))) rfl ?_)
   refine Run.go rfl rfl rfl (sem_binI .i64 ((n2 : Nat)) ((n6 : Nat)) ((Value.int .i64 (IntKind.wrap .i64 (((n2 : Nat)) + ((n6 : Nat)))))) rfl rfl rfl ?_)
   refine Run.go rfl rfl rfl (sem_move ((Value.slice a1 n2 c3)) rfl ?_)
   refine Run.go rfl rfl rfl (sem_capSl a1 (n2) (c3) rfl TF.sl_114 ?_)
   obtain ⟨hT, hF⟩ := hS
   by_cases hb17 : (IntKind.wrap .i64 (((n2 : Nat)) + ((n6 : Nat))) : Int) > ((c3 : Nat))
   ·have hS := hT hb17; clear hT hF
    refine Run.go rfl rfl rfl (sem_binI .i64 (IntKind.wrap .i64 (((n2 : Nat)) + ((n6 : Nat)))) ((c3 : Nat)) (.bool true) rfl rfl (binI_gtr_t hb17) ?_)
    refine Run.region_end ?_
    refine Run.condT rfl ?_
    refine Run.seq ?_
    refine Run.ops0 (idx := [0, 1, 2, 3, 4, 5, 6, 7, 8, 9]) rfl ?_
    refine Run.go rfl rfl rfl (sem_move ((Value.slice a1 n2 c3)) rfl ?_)
    refine Run.go rfl rfl rfl (sem_move ((Value.int .i64 (i4))) rfl ?_)
    obtain ⟨hi0, hi1, hi2, hS⟩ := hS
    refine Run.go rfl rfl rfl (sem_sliceSlI a1 n2 c3 (0) (i4) rfl TF.slc_114 rfl ⟨_, rfl⟩ hi0 hi1 hi2 ?_)
    refine Run.go rfl rfl rfl (sem_move ((Value.int .i64 ((n2 : Nat)))) rfl ?_)
    refine Run.go rfl rfl rfl (sem_move ((Value.int .i64 ((n6 : Nat)))) rfl ?_)
    refine Run.go rfl rfl rfl (sem_binI .i64 ((n2 : Nat)) ((n6 : Nat)) ((Value.int .i64 (IntKind.wrap .i64 (((n2 : Nat)) + ((n6 : Nat)))))) rfl rfl rfl ?_)
    refine Run.go rfl rfl rfl (sem_move ((Value.int .i64 (i4))) rfl ?_)
    refine Run.go rfl rfl rfl (sem_binI .i64 (IntKind.wrap .i64 (((n2 : Nat)) + ((n6 : Nat)))) (i4) ((Value.int .i64 (IntKind.wrap .i64 ((IntKind.wrap .i64 (((n2 : Nat)) + ((n6 : Nat)))) - (i4))))) rfl rfl rfl ?_)
    refine Run.go rfl rfl rfl (sem_appendL [(Value.slice (if c3 = Int.toNat (0) then a1 else Option.map (·.add (Int.toNat (0) * 2)) a1) (Int.toNat (i4) - Int.toNat (0)) (c3 - Int.toNat (0))), (Value.int .i64 (IntKind.wrap .i64 ((IntKind.wrap .i64 (((n2 : Nat)) + ((n6 : Nat)))) - (i4))))] rfl (semH_mono (fun v h18 hv => ?_) hS))
    obtain ⟨a19, n20, c21, rfl, hS⟩ := hv
    refine Run.go rfl rfl rfl (sem_assign ((Value.slice a19 n20 c21)) rfl ?_)
    refine Run.region_end ?_
    refine Run.seq ?_
    refine Run.ops0 (idx := [0, 1, 2, 3, 4]) rfl ?_
    refine Run.go rfl rfl rfl (sem_move ((Value.slice a19 n20 c21)) rfl ?_)
    refine Run.go rfl rfl rfl (sem_move ((Value.int .i64 (i4))) rfl ?_)
    obtain ⟨hi0, hi1, hi2, hS⟩ := hS
    refine Run.go rfl rfl rfl (sem_sliceSlI a19 n20 c21 (i4) ((n20 : Nat)) rfl TF.slc_114 ⟨_, rfl⟩ rfl hi0 hi1 hi2 ?_)
    refine Run.go rfl rfl rfl (sem_move ((Value.slice a5 n6 c7)) rfl ?_)
    refine Run.go rfl rfl rfl (sem_copyL [(Value.slice (if c21 = Int.toNat (i4) then a19 else Option.map (·.add (Int.toNat (i4) * 2)) a19) (Int.toNat ((n20 : Nat)) - Int.toNat (i4)) (c21 - Int.toNat (i4))), (Value.slice a5 n6 c7)] rfl (semH_mono (fun v h22 hv => ?_) hS))
    obtain ⟨i23, rfl, hS⟩ := hv
    refine Run.region_end ?_
    refine Run.seq ?_
    refine Run.drawM (fun h' => h' = h22) [8] ⟨[0, 0, 0, 6, 9, 0, 0, 96, 144], [511, 511, 511, 505, 502, 511, 511, 415, 367], [0, 0, 0, 6, 15, 0, 0, 96, 255], 256⟩ (.q 0 (.q 1 (.q 2 (.q 3 (.q 4 (.q 5 (.q 6 (.q 7 (.x 8 .nil .no))))))))) TF.mixed (by kernel_rfl) rfl ?_
    refine RunT.quiet rfl rfl rfl (quiet_eq (sem_move ((Value.slice a19 n20 c21)) rfl ⟨rfl, rfl⟩)) ?_
    refine RunT.quiet rfl rfl rfl (quiet_eq (sem_move ((Value.int .i64 (i4))) rfl ⟨rfl, rfl⟩)) ?_
    refine RunT.quiet rfl rfl rfl (quiet_eq (sem_move ((Value.int .i64 ((n6 : Nat)))) rfl ⟨rfl, rfl⟩)) ?_
    refine RunT.quiet rfl rfl rfl (quiet_eq (sem_binI .i64 (i4) ((n6 : Nat)) ((Value.int .i64 (IntKind.wrap .i64 ((i4) + ((n6 : Nat)))))) rfl rfl rfl ⟨rfl, rfl⟩)) ?_
    obtain ⟨hi0, hi1, hi2, hS⟩ := hS
    refine RunT.quiet rfl rfl rfl (quiet_eq (sem_sliceSlI a19 n20 c21 (IntKind.wrap .i64 ((i4) + ((n6 : Nat)))) ((n20 : Nat)) rfl TF.slc_114 ⟨_, rfl⟩ rfl hi0 hi1 hi2 ⟨rfl, rfl⟩)) ?_
    refine RunT.quiet rfl rfl rfl (quiet_eq (sem_move ((Value.slice a1 n2 c3)) rfl ⟨rfl, rfl⟩)) ?_
    refine RunT.quiet rfl rfl rfl (quiet_eq (sem_move ((Value.int .i64 (i4))) rfl ⟨rfl, rfl⟩)) ?_
    obtain ⟨hi0, hi1, hi2, hS⟩ := hS
    refine RunT.quiet rfl rfl rfl (quiet_eq (sem_sliceSlI a1 n2 c3 (i4) ((n2 : Nat)) rfl TF.slc_114 ⟨_, rfl⟩ rfl hi0 hi1 hi2 ⟨rfl, rfl⟩)) ?_
    refine ⟨?_, trivial⟩
    refine OpH.go rfl rfl rfl (sem_copyL [(Value.slice (if c21 = Int.toNat (IntKind.wrap .i64 ((i4) + ((n6 : Nat)))) then a19 else Option.map (·.add (Int.toNat (IntKind.wrap .i64 ((i4) + ((n6 : Nat)))) * 2)) a19) (Int.toNat ((n20 : Nat)) - Int.toNat (IntKind.wrap .i64 ((i4) + ((n6 : Nat))))) (c21 - Int.toNat (IntKind.wrap .i64 ((i4) + ((n6 : Nat)))))), (Value.slice (if c3 = Int.toNat (i4) then a1 else Option.map (·.add (Int.toNat (i4) * 2)) a1) (Int.toNat ((n2 : Nat)) - Int.toNat (i4)) (c3 - Int.toNat (i4)))] rfl (semH_mono (fun v h24 hv => ?_) hS))
    obtain ⟨i25, rfl, hS⟩ := hv
    refine ⟨fun hz => Bool.noConfusion hz, ?_⟩
    refine Run.seq ?_
    refine Run.ops0 (idx := [0, 1]) rfl ?_
    refine Run.go rfl rfl rfl (sem_move ((Value.slice a19 n20 c21)) rfl ?_)
    refine Run.go rfl rfl rfl (sem_assign ((Value.slice a19 n20 c21)) rfl ?_)
    refine Run.region_end ?_
    refine Run.ret ⟨.inr rfl, ?_⟩
    exact hS.imp fun h' hq => ⟨a19, n20, c21, rfl, hq⟩
   ·have hS := hF hb17; clear hT hF
    refine Run.go rfl rfl rfl (sem_binI .i64 (IntKind.wrap .i64 (((n2 : Nat)) + ((n6 : Nat)))) ((c3 : Nat)) (.bool false) rfl rfl (binI_gtr_f hb17) ?_)
    refine Run.region_end ?_
    refine Run.condF rfl ?_
    refine Run.skip ?_
    refine Run.seq ?_
    refine Run.ops0 (idx := [0, 1, 2, 3, 4, 5]) rfl ?_
    refine Run.go rfl rfl rfl (sem_move ((Value.slice a1 n2 c3)) rfl ?_)
    refine Run.go rfl rfl rfl (sem_move ((Value.int .i64 ((n2 : Nat)))) rfl ?_)
    refine Run.go rfl rfl rfl (sem_move ((Value.int .i64 ((n6 : Nat)))) rfl ?_)
    refine Run.go rfl rfl rfl (sem_binI .i64 ((n2 : Nat)) ((n6 : Nat)) ((Value.int .i64 (IntKind.wrap .i64 (((n2 : Nat)) + ((n6 : Nat)))))) rfl rfl rfl ?_)
    obtain ⟨hi0, hi1, hi2, hS⟩ := hS
    refine Run.go rfl rfl rfl (sem_sliceSlI a1 n2 c3 (0) (IntKind.wrap .i64 (((n2 : Nat)) + ((n6 : Nat)))) rfl TF.slc_114 rfl ⟨_, rfl⟩ hi0 hi1 hi2 ?_)
    refine Run.go rfl rfl rfl (sem_assign ((Value.slice (if c3 = Int.toNat (0) then a1 else Option.map (·.add (Int.toNat (0) * 2)) a1) (Int.toNat (IntKind.wrap .i64 (((n2 : Nat)) + ((n6 : Nat)))) - Int.toNat (0)) (c3 - Int.toNat (0)))) rfl ?_)
    refine Run.region_end ?_
    refine Run.seq ?_
    refine Run.seq ?_
    refine Run.ops0 (idx := [0, 1, 2, 3, 4, 5, 6, 7]) rfl ?_
    refine Run.go rfl rfl rfl (sem_move ((Value.slice a5 n6 c7)) rfl ?_)
    refine Run.go rfl rfl rfl (sem_move ((Value.slice (if c3 = Int.toNat (0) then a1 else Option.map (·.add (Int.toNat (0) * 2)) a1) (Int.toNat (IntKind.wrap .i64 (((n2 : Nat)) + ((n6 : Nat)))) - Int.toNat (0)) (c3 - Int.toNat (0)))) rfl ?_)
    refine Run.go rfl rfl rfl (sem_move ((Value.int .i64 (i4))) rfl ?_)
    refine Run.go rfl rfl rfl (sem_move ((Value.int .i64 ((n6 : Nat)))) rfl ?_)
    refine Run.go rfl rfl rfl (sem_binI .i64 (i4) ((n6 : Nat)) ((Value.int .i64 (IntKind.wrap .i64 ((i4) + ((n6 : Nat)))))) rfl rfl rfl ?_)
    obtain ⟨hi0, hi1, hi2, hS⟩ := hS
    refine Run.go rfl rfl rfl (sem_sliceSlI (if c3 = Int.toNat (0) then a1 else Option.map (·.add (Int.toNat (0) * 2)) a1) (Int.toNat (IntKind.wrap .i64 (((n2 : Nat)) + ((n6 : Nat)))) - Int.toNat (0)) (c3 - Int.toNat (0)) (IntKind.wrap .i64 ((i4) + ((n6 : Nat)))) (((Int.toNat (IntKind.wrap .i64 (((n2 : Nat)) + ((n6 : Nat)))) - Int.toNat (0)) : Nat)) rfl TF.slc_114 ⟨_, rfl⟩ rfl hi0 hi1 hi2 ?_)
    refine Run.go rfl rfl rfl (sem_callXL [(Value.slice a5 n6 c7), (Value.slice (if (c3 - Int.toNat (0)) = Int.toNat (IntKind.wrap .i64 ((i4) + ((n6 : Nat)))) then (if c3 = Int.toNat (0) then a1 else Option.map (·.add (Int.toNat (0) * 2)) a1) else Option.map (·.add (Int.toNat (IntKind.wrap .i64 ((i4) + ((n6 : Nat)))) * 2)) (if c3 = Int.toNat (0) then a1 else Option.map (·.add (Int.toNat (0) * 2)) a1)) (Int.toNat (((Int.toNat (IntKind.wrap .i64 (((n2 : Nat)) + ((n6 : Nat)))) - Int.toNat (0)) : Nat)) - Int.toNat (IntKind.wrap .i64 ((i4) + ((n6 : Nat))))) ((c3 - Int.toNat (0)) - Int.toNat (IntKind.wrap .i64 ((i4) + ((n6 : Nat))))))] (TF.goesx_101) rfl rfl (semH_mono (fun v h26 hv => ?_) hS))
    obtain ⟨b27, rfl, hS⟩ := hv
    obtain ⟨hT, hF⟩ := hS
    cases b27
    ·have hS := hF rfl; clear hT hF
     refine Run.go rfl rfl rfl (sem_not false rfl ?_)
     refine Run.region_end ?_
     refine Run.condT rfl ?_
     refine Run.seq ?_
     refine Run.drawM (fun h' => h' = h26) [8] ⟨[0, 0, 0, 6, 9, 0, 0, 96, 144], [511, 511, 511, 505, 502, 511, 511, 415, 367], [0, 0, 0, 6, 15, 0, 0, 96, 255], 256⟩ (.q 0 (.q 1 (.q 2 (.q 3 (.q 4 (.q 5 (.q 6 (.q 7 (.x 8 .nil .no))))))))) TF.mixed (by kernel_rfl) rfl ?_
     refine RunT.quiet rfl rfl rfl (quiet_eq (sem_move ((Value.slice (if c3 = Int.toNat (0) then a1 else Option.map (·.add (Int.toNat (0) * 2)) a1) (Int.toNat (IntKind.wrap .i64 (((n2 : Nat)) + ((n6 : Nat)))) - Int.toNat (0)) (c3 - Int.toNat (0)))) rfl ⟨rfl, rfl⟩)) ?_
     refine RunT.quiet rfl rfl rfl (quiet_eq (sem_move ((Value.int .i64 (i4))) rfl ⟨rfl, rfl⟩)) ?_
     refine RunT.quiet rfl rfl rfl (quiet_eq (sem_move ((Value.int .i64 ((n6 : Nat)))) rfl ⟨rfl, rfl⟩)) ?_
     refine RunT.quiet rfl rfl rfl (quiet_eq (sem_binI .i64 (i4) ((n6 : Nat)) ((Value.int .i64 (IntKind.wrap .i64 ((i4) + ((n6 : Nat)))))) rfl rfl rfl ⟨rfl, rfl⟩)) ?_
     obtain ⟨hi0, hi1, hi2, hS⟩ := hS
     refine RunT.quiet rfl rfl rfl (quiet_eq (sem_sliceSlI (if c3 = Int.toNat (0) then a1 else Option.map (·.add (Int.toNat (0) * 2)) a1) (Int.toNat (IntKind.wrap .i64 (((n2 : Nat)) + ((n6 : Nat)))) - Int.toNat (0)) (c3 - Int.toNat (0)) (IntKind.wrap .i64 ((i4) + ((n6 : Nat)))) (((Int.toNat (IntKind.wrap .i64 (((n2 : Nat)) + ((n6 : Nat)))) - Int.toNat (0)) : Nat)) rfl TF.slc_114 ⟨_, rfl⟩ rfl hi0 hi1 hi2 ⟨rfl, rfl⟩)) ?_
     refine RunT.quiet rfl rfl rfl (quiet_eq (sem_move ((Value.slice (if c3 = Int.toNat (0) then a1 else Option.map (·.add (Int.toNat (0) * 2)) a1) (Int.toNat (IntKind.wrap .i64 (((n2 : Nat)) + ((n6 : Nat)))) - Int.toNat (0)) (c3 - Int.toNat (0)))) rfl ⟨rfl, rfl⟩)) ?_
     refine RunT.quiet rfl rfl rfl (quiet_eq (sem_move ((Value.int .i64 (i4))) rfl ⟨rfl, rfl⟩)) ?_
     obtain ⟨hi0, hi1, hi2, hS⟩ := hS
     refine RunT.quiet rfl rfl rfl (quiet_eq (sem_sliceSlI (if c3 = Int.toNat (0) then a1 else Option.map (·.add (Int.toNat (0) * 2)) a1) (Int.toNat (IntKind.wrap .i64 (((n2 : Nat)) + ((n6 : Nat)))) - Int.toNat (0)) (c3 - Int.toNat (0)) (i4) (((Int.toNat (IntKind.wrap .i64 (((n2 : Nat)) + ((n6 : Nat)))) - Int.toNat (0)) : Nat)) rfl TF.slc_114 ⟨_, rfl⟩ rfl hi0 hi1 hi2 ⟨rfl, rfl⟩)) ?_
     refine ⟨?_, trivial⟩
     refine OpH.go rfl rfl rfl (sem_copyL [(Value.slice (if (c3 - Int.toNat (0)) = Int.toNat (IntKind.wrap .i64 ((i4) + ((n6 : Nat)))) then (if c3 = Int.toNat (0) then a1 else Option.map (·.add (Int.toNat (0) * 2)) a1) else Option.map (·.add (Int.toNat (IntKind.wrap .i64 ((i4) + ((n6 : Nat)))) * 2)) (if c3 = Int.toNat (0) then a1 else Option.map (·.add (Int.toNat (0) * 2)) a1)) (Int.toNat (((Int.toNat (IntKind.wrap .i64 (((n2 : Nat)) + ((n6 : Nat)))) - Int.toNat (0)) : Nat)) - Int.toNat (IntKind.wrap .i64 ((i4) + ((n6 : Nat))))) ((c3 - Int.toNat (0)) - Int.toNat (IntKind.wrap .i64 ((i4) + ((n6 : Nat)))))), (Value.slice (if (c3 - Int.toNat (0)) = Int.toNat (i4) then (if c3 = Int.toNat (0) then a1 else Option.map (·.add (Int.toNat (0) * 2)) a1) else Option.map (·.add (Int.toNat (i4) * 2)) (if c3 = Int.toNat (0) then a1 else Option.map (·.add (Int.toNat (0) * 2)) a1)) (Int.toNat (((Int.toNat (IntKind.wrap .i64 (((n2 : Nat)) + ((n6 : Nat)))) - Int.toNat (0)) : Nat)) - Int.toNat (i4)) ((c3 - Int.toNat (0)) - Int.toNat (i4)))] rfl (semH_mono (fun v h28 hv => ?_) hS))
     obtain ⟨i29, rfl, hS⟩ := hv
     refine ⟨fun hz => Bool.noConfusion hz, ?_⟩
     refine Run.seq ?_
     refine Run.ops0 (idx := [0, 1, 2, 3, 4]) rfl ?_
     refine Run.go rfl rfl rfl (sem_move ((Value.slice (if c3 = Int.toNat (0) then a1 else Option.map (·.add (Int.toNat (0) * 2)) a1) (Int.toNat (IntKind.wrap .i64 (((n2 : Nat)) + ((n6 : Nat)))) - Int.toNat (0)) (c3 - Int.toNat (0)))) rfl ?_)
     refine Run.go rfl rfl rfl (sem_move ((Value.int .i64 (i4))) rfl ?_)
     obtain ⟨hi0, hi1, hi2, hS⟩ := hS
     refine Run.go rfl rfl rfl (sem_sliceSlI (if c3 = Int.toNat (0) then a1 else Option.map (·.add (Int.toNat (0) * 2)) a1) (Int.toNat (IntKind.wrap .i64 (((n2 : Nat)) + ((n6 : Nat)))) - Int.toNat (0)) (c3 - Int.toNat (0)) (i4) (((Int.toNat (IntKind.wrap .i64 (((n2 : Nat)) + ((n6 : Nat)))) - Int.toNat (0)) : Nat)) rfl TF.slc_114 ⟨_, rfl⟩ rfl hi0 hi1 hi2 ?_)
     refine Run.go rfl rfl rfl (sem_move ((Value.slice a5 n6 c7)) rfl ?_)
     refine Run.go rfl rfl rfl (sem_copyL [(Value.slice (if (c3 - Int.toNat (0)) = Int.toNat (i4) then (if c3 = Int.toNat (0) then a1 else Option.map (·.add (Int.toNat (0) * 2)) a1) else Option.map (·.add (Int.toNat (i4) * 2)) (if c3 = Int.toNat (0) then a1 else Option.map (·.add (Int.toNat (0) * 2)) a1)) (Int.toNat (((Int.toNat (IntKind.wrap .i64 (((n2 : Nat)) + ((n6 : Nat)))) - Int.toNat (0)) : Nat)) - Int.toNat (i4)) ((c3 - Int.toNat (0)) - Int.toNat (i4))), (Value.slice a5 n6 c7)] rfl (semH_mono (fun v h30 hv => ?_) hS))
     obtain ⟨i31, rfl, hS⟩ := hv
     refine Run.region_end ?_
     refine Run.seq ?_
     refine Run.ops0 (idx := [0, 1]) rfl ?_
     refine Run.go rfl rfl rfl (sem_move ((Value.slice (if c3 = Int.toNat (0) then a1 else Option.map (·.add (Int.toNat (0) * 2)) a1) (Int.toNat (IntKind.wrap .i64 (((n2 : Nat)) + ((n6 : Nat)))) - Int.toNat (0)) (c3 - Int.toNat (0)))) rfl ?_)
     refine Run.go rfl rfl rfl (sem_assign ((Value.slice (if c3 = Int.toNat (0) then a1 else Option.map (·.add (Int.toNat (0) * 2)) a1) (Int.toNat (IntKind.wrap .i64 (((n2 : Nat)) + ((n6 : Nat)))) - Int.toNat (0)) (c3 - Int.toNat (0)))) rfl ?_)
     refine Run.region_end ?_
     refine Run.ret ⟨.inr rfl, ?_⟩
     exact hS.imp fun h' hq => ⟨(if c3 = Int.toNat (0) then a1 else Option.map (·.add (Int.toNat (0) * 2)) a1), (Int.toNat (IntKind.wrap .i64 (((n2 : Nat)) + ((n6 : Nat)))) - Int.toNat (0)), (c3 - Int.toNat (0)), rfl, hq⟩
    ·have hS := hT rfl; clear hT hF
     refine Run.go rfl rfl rfl (sem_not true rfl ?_)
     refine Run.region_end ?_
     refine Run.condF rfl ?_
     refine Run.skip ?_
     refine Run.seq ?_
     refine Run.ops0 (idx := [0, 1, 2, 3, 4]) rfl ?_
     refine Run.go rfl rfl rfl (sem_move ((Value.slice (if c3 = Int.toNat (0) then a1 else Option.map (·.add (Int.toNat (0) * 2)) a1) (Int.toNat (IntKind.wrap .i64 (((n2 : Nat)) + ((n6 : Nat)))) - Int.toNat (0)) (c3 - Int.toNat (0)))) rfl ?_)
     refine Run.go rfl rfl rfl (sem_move ((Value.int .i64 ((n2 : Nat)))) rfl ?_)
     obtain ⟨hi0, hi1, hi2, hS⟩ := hS
     refine Run.go rfl rfl rfl (sem_sliceSlI (if c3 = Int.toNat (0) then a1 else Option.map (·.add (Int.toNat (0) * 2)) a1) (Int.toNat (IntKind.wrap .i64 (((n2 : Nat)) + ((n6 : Nat)))) - Int.toNat (0)) (c3 - Int.toNat (0)) ((n2 : Nat)) (((Int.toNat (IntKind.wrap .i64 (((n2 : Nat)) + ((n6 : Nat)))) - Int.toNat (0)) : Nat)) rfl TF.slc_114 ⟨_, rfl⟩ rfl hi0 hi1 hi2 ?_)
     refine Run.go rfl rfl rfl (sem_move ((Value.slice a5 n6 c7)) rfl ?_)
     refine Run.go rfl rfl rfl (sem_copyL [(Value.slice (if (c3 - Int.toNat (0)) = Int.toNat ((n2 : Nat)) then (if c3 = Int.toNat (0) then a1 else Option.map (·.add (Int.toNat (0) * 2)) a1) else Option.map (·.add (Int.toNat ((n2 : Nat)) * 2)) (if c3 = Int.toNat (0) then a1 else Option.map (·.add (Int.toNat (0) * 2)) a1)) (Int.toNat (((Int.toNat (IntKind.wrap .i64 (((n2 : Nat)) + ((n6 : Nat)))) - Int.toNat (0)) : Nat)) - Int.toNat ((n2 : Nat))) ((c3 - Int.toNat (0)) - Int.toNat ((n2 : Nat)))), (Value.slice a5 n6 c7)] rfl (semH_mono (fun v h32 hv => ?_) hS))
     obtain ⟨i33, rfl, hS⟩ := hv
     refine Run.region_end ?_
     refine Run.seq ?_
     refine Run.ops0 (idx := [0, 1, 2, 3, 4]) rfl ?_
     refine Run.go rfl rfl rfl (sem_move ((Value.slice (if c3 = Int.toNat (0) then a1 else Option.map (·.add (Int.toNat (0) * 2)) a1) (Int.toNat (IntKind.wrap .i64 (((n2 : Nat)) + ((n6 : Nat)))) - Int.toNat (0)) (c3 - Int.toNat (0)))) rfl ?_)
     refine Run.go rfl rfl rfl (sem_move ((Value.int .i64 (i4))) rfl ?_)
     obtain ⟨hi0, hi1, hi2, hS⟩ := hS
     refine Run.go rfl rfl rfl (sem_sliceSlI (if c3 = Int.toNat (0) then a1 else Option.map (·.add (Int.toNat (0) * 2)) a1) (Int.toNat (IntKind.wrap .i64 (((n2 : Nat)) + ((n6 : Nat)))) - Int.toNat (0)) (c3 - Int.toNat (0)) (i4) (((Int.toNat (IntKind.wrap .i64 (((n2 : Nat)) + ((n6 : Nat)))) - Int.toNat (0)) : Nat)) rfl TF.slc_114 ⟨_, rfl⟩ rfl hi0 hi1 hi2 ?_)
     refine Run.go rfl rfl rfl (sem_move ((Value.int .i64 ((n6 : Nat)))) rfl ?_)
     refine Run.go rfl rfl rfl (sem_callL [(Value.slice (if (c3 - Int.toNat (0)) = Int.toNat (i4) then (if c3 = Int.toNat (0) then a1 else Option.map (·.add (Int.toNat (0) * 2)) a1) else Option.map (·.add (Int.toNat (i4) * 2)) (if c3 = Int.toNat (0) then a1 else Option.map (·.add (Int.toNat (0) * 2)) a1)) (Int.toNat (((Int.toNat (IntKind.wrap .i64 (((n2 : Nat)) + ((n6 : Nat)))) - Int.toNat (0)) : Nat)) - Int.toNat (i4)) ((c3 - Int.toNat (0)) - Int.toNat (i4))), (Value.int .i64 ((n6 : Nat)))] (TF.goes_102) rfl rfl (Spec.mono hS fun v h34 hv => ?_))
     obtain ⟨rfl, hS⟩ := hv
     refine Run.region_end ?_
     refine Run.seq ?_
     refine Run.ops0 (idx := [0, 1]) rfl ?_
     refine Run.go rfl rfl rfl (sem_move ((Value.slice (if c3 = Int.toNat (0) then a1 else Option.map (·.add (Int.toNat (0) * 2)) a1) (Int.toNat (IntKind.wrap .i64 (((n2 : Nat)) + ((n6 : Nat)))) - Int.toNat (0)) (c3 - Int.toNat (0)))) rfl ?_)
     refine Run.go rfl rfl rfl (sem_assign ((Value.slice (if c3 = Int.toNat (0) then a1 else Option.map (·.add (Int.toNat (0) * 2)) a1) (Int.toNat (IntKind.wrap .i64 (((n2 : Nat)) + ((n6 : Nat)))) - Int.toNat (0)) (c3 - Int.toNat (0)))) rfl ?_)
     refine Run.region_end ?_
     refine Run.ret ⟨.inr rfl, ?_⟩
     exact hS.imp fun h' hq => ⟨(if c3 = Int.toNat (0) then a1 else Option.map (·.add (Int.toNat (0) * 2)) a1), (Int.toNat (IntKind.wrap .i64 (((n2 : Nat)) + ((n6 : Nat)))) - Int.toNat (0)), (c3 - Int.toNat (0)), rfl, hq⟩
set_option maxHeartbeats 4000000 in
theorem C_cursor_is.of {B : RO} {i1 : Int} {h : Heap} {Q : Bool → Heap → Prop} (hS : S_cursor_is B i1 h Q) : C_cursor_is B i1 h Q := by
 unfold S_cursor_is at hS
 unfold C_cursor_is
 refine Spec.of_run Try.func64 (N := 9) (rs := [ResultVar.tmp 2]) rfl rfl rfl (Nat.le_of_ble_eq_true rfl) ?_
 refine Run.seq ?_
 refine Run.ops0 (idx := [0]) rfl ?_
 refine Run.go rfl rfl rfl (sem_assign ((Value.bool false)) rfl ?_)
 refine Run.region_end ?_
 refine Run.seq ?_
 refine Run.ops0 (idx := [0, 1, 2, 3, 4, 5, 6]) rfl ?_
 refine Run.go rfl rfl rfl (sem_move ((Value.int .i64 (i1))) rfl ?_)
 obtain ⟨hT, hF⟩ := hS
 by_cases hb3 : (i1 : Int) ≥ (0)
 ·have hS := hT hb3; clear hT hF
  refine Run.go rfl rfl rfl (sem_binI .i64 (i1) (0) (.bool true) rfl rfl (binI_geq_t hb3) ?_)
  refine Run.go rfl rfl rfl (sem_move ((Value.bool true)) rfl ?_)
  refine Run.go rfl rfl rfl (sem_move ((Value.int .i64 (i1))) rfl ?_)
  refine Run.go rfl rfl rfl (sem_binI .i64 (i1) (3) ((Value.bool (decide ((i1 : Int) < (3))))) rfl rfl rfl ?_)
  refine Run.go rfl rfl rfl (sem_pick true ((Value.bool (decide ((i1 : Int) < (3))))) rfl rfl ?_)
  refine Run.go rfl rfl rfl (sem_assign ((Value.bool (decide ((i1 : Int) < (3))))) rfl ?_)
  refine Run.region_end ?_
  refine Run.ret ⟨.inr rfl, ?_⟩
  exact hS.imp fun h' hq => ⟨((decide ((i1 : Int) < (3)))), rfl, hq⟩
 ·have hS := hF hb3; clear hT hF
  refine Run.go rfl rfl rfl (sem_binI .i64 (i1) (0) (.bool false) rfl rfl (binI_geq_f hb3) ?_)
  refine Run.go rfl rfl rfl (sem_move ((Value.bool false)) rfl ?_)
  refine Run.no rfl rfl rfl ?_
  refine Run.no rfl rfl rfl ?_
  refine Run.go rfl rfl rfl (sem_pick false ((Value.bool false)) rfl rfl ?_)
  refine Run.go rfl rfl rfl (sem_assign ((Value.bool false)) rfl ?_)
  refine Run.region_end ?_
  refine Run.ret ⟨.inr rfl, ?_⟩
  exact hS.imp fun h' hq => ⟨(false), rfl, hq⟩
set_option maxHeartbeats 4000000 in
theorem C_draft_Draft_int_Copy.of {B : RO} {p1 : Option Addr} {h : Heap} {Q : Option Addr → Heap → Prop} (hS : S_draft_Draft_int_Copy B p1 h Q) : C_draft_Draft_int_Copy B p1 h Q := by
 unfold S_draft_Draft_int_Copy at hS
 unfold C_draft_Draft_int_Copy
 refine Spec.of_run Try.func65 (N := 12) (rs := [ResultVar.tmp 2]) rfl rfl rfl (Nat.le_of_ble_eq_true rfl) ?_
 refine Run.seq ?_
 refine Run.ops0 (idx := [0]) rfl ?_
 refine Run.go rfl rfl rfl (sem_assign ((Value.pointer none)) rfl ?_)
 refine Run.region_end ?_
 refine Run.seq ?_
 refine Run.seq ?_
 refine Run.ops0 (idx := [0, 1]) rfl ?_
 refine Run.go rfl rfl rfl (sem_move ((Value.pointer p1)) rfl ?_)
 obtain ⟨hT, hF⟩ := hS
 by_cases hb3 : p1 = none
 ·have hS := hT hb3; clear hT hF
  refine Run.go rfl rfl rfl (sem_ptrNilT p1 (.inl rfl) true rfl rfl TF.ptr_27 hb3 rfl ?_)
  refine Run.region_end ?_
  refine Run.condT rfl ?_
  refine Run.seq ?_
  refine Run.ops0 (idx := [0]) rfl ?_
  refine Run.go rfl rfl rfl (sem_assign ((Value.pointer none)) rfl ?_)
  refine Run.region_end ?_
  refine Run.ret ⟨.inr rfl, ?_⟩
  exact hS.imp fun h' hq => ⟨none, rfl, hq⟩
 ·have hS := hF hb3; clear hT hF
  refine Run.go rfl rfl rfl (sem_ptrNilF p1 (.inl rfl) false rfl rfl TF.ptr_27 hb3 rfl ?_)
  refine Run.region_end ?_
  refine Run.condF rfl ?_
  refine Run.skip ?_
  refine Run.seq ?_
  refine Run.ops0 (idx := [0, 1, 2, 3, 4, 5, 6, 7]) rfl ?_
  refine Run.go rfl rfl rfl (sem_move ((Value.pointer p1)) rfl ?_)
  obtain ⟨A4, e5, hS⟩ := hS
  refine Run.go rfl rfl rfl (sem_nilCheck A4 (congrArg Value.pointer e5) ?_)
  refine Run.go rfl rfl rfl (sem_fieldAddr A4 0 rfl TF.fld_116_0 ?_)
  refine Run.ldSl hS fun a6 n7 c8 h9 hl hS => ?_
  refine Run.go rfl rfl rfl (sem_load1 A4 ((Value.slice a6 n7 c8)) rfl TF.agg_114 hl ?_)
  refine Run.go rfl rfl rfl (sem_callL [(Value.slice a6 n7 c8)] (TF.goes_103) rfl rfl (Spec.mono hS fun v h10 hv => ?_))
  obtain ⟨a11, n12, c13, rfl, hS⟩ := hv
  refine Run.go rfl rfl rfl (sem_buildSL [(0, (Value.slice a11 n12 c13))] [(Value.slice a11 n12 c13)] TF.zero_116 TF.places_116 rfl rfl ?_)
  refine Run.go rfl rfl rfl (sem_boxNN [(Value.slice a11 n12 c13)] rfl (fun k14 hb1 hb2 h15 hb3 => ?_))
  have hS := hS k14 hb1 hb2 h15 hb3
  refine Run.go rfl rfl rfl (sem_assign ((Value.pointer (some ⟨k14, 0, none⟩))) rfl ?_)
  refine Run.region_end ?_
  refine Run.ret ⟨.inr rfl, ?_⟩
  exact hS.imp fun h' hq => ⟨(some ⟨k14, 0, none⟩), rfl, hq⟩
set_option maxHeartbeats 4000000 in
theorem C_cursor_Cursor_Copy.of {B : RO} {p1 : Option Addr} {h : Heap} {Q : Option Addr → Heap → Prop} (hS : S_cursor_Cursor_Copy B p1 h Q) : C_cursor_Cursor_Copy B p1 h Q := by
 unfold S_cursor_Cursor_Copy at hS
 unfold C_cursor_Cursor_Copy
 refine Spec.of_run Try.func66 (N := 9) (rs := [ResultVar.tmp 2]) rfl rfl rfl (Nat.le_of_ble_eq_true rfl) ?_
 refine Run.seq ?_
 refine Run.ops0 (idx := [0]) rfl ?_
 refine Run.go rfl rfl rfl (sem_assign ((Value.pointer none)) rfl ?_)
 refine Run.region_end ?_
 refine Run.seq ?_
 refine Run.seq ?_
 refine Run.ops0 (idx := [0, 1]) rfl ?_
 refine Run.go rfl rfl rfl (sem_move ((Value.pointer p1)) rfl ?_)
 obtain ⟨hT, hF⟩ := hS
 by_cases hb3 : p1 = none
 ·have hS := hT hb3; clear hT hF
  refine Run.go rfl rfl rfl (sem_ptrNilT p1 (.inl rfl) true rfl rfl TF.ptr_29 hb3 rfl ?_)
  refine Run.region_end ?_
  refine Run.condT rfl ?_
  refine Run.seq ?_
  refine Run.ops0 (idx := [0]) rfl ?_
  refine Run.go rfl rfl rfl (sem_assign ((Value.pointer none)) rfl ?_)
  refine Run.region_end ?_
  refine Run.ret ⟨.inr rfl, ?_⟩
  exact hS.imp fun h' hq => ⟨none, rfl, hq⟩
 ·have hS := hF hb3; clear hT hF
  refine Run.go rfl rfl rfl (sem_ptrNilF p1 (.inl rfl) false rfl rfl TF.ptr_29 hb3 rfl ?_)
  refine Run.region_end ?_
  refine Run.condF rfl ?_
  refine Run.skip ?_
  refine Run.seq ?_
  refine Run.ops0 (idx := [0, 1, 2, 3, 4]) rfl ?_
  refine Run.go rfl rfl rfl (sem_move ((Value.pointer p1)) rfl ?_)
  obtain ⟨A4, e5, hS⟩ := hS
  refine Run.go rfl rfl rfl (sem_nilCheck A4 (congrArg Value.pointer e5) ?_)
  obtain ⟨i6, i7, i8, hl, hS⟩ := hS
  refine Run.go rfl rfl rfl (sem_loadN A4 [(Value.int .i64 (i6)), (Value.int .i64 (i7)), (Value.int .i64 (i8))] rfl TF.agg_119 TF.sz_119 hl ?_)
  refine Run.go rfl rfl rfl (sem_allocN [(Value.int .i64 (0)), (Value.int .i64 (0)), (Value.int .i64 (0))] TF.zero_119 (fun k9 hb1 hb2 h10 hb3 => ?_))
  have hS := hS k9 hb1 hb2 h10 hb3
  obtain ⟨h11, hst, hS⟩ := hS
  refine Run.go rfl rfl rfl (sem_storeN ⟨k9, 0, none⟩ [(Value.int .i64 (i6)), (Value.int .i64 (i7)), (Value.int .i64 (i8))] h11 rfl rfl TF.sz_119 hst ?_)
  refine Run.region_end ?_
  refine Run.seq ?_
  refine Run.ops0 (idx := [0]) rfl ?_
  refine Run.go rfl rfl rfl (sem_assign ((Value.pointer (some ⟨k9, 0, none⟩))) rfl ?_)
  refine Run.region_end ?_
  refine Run.ret ⟨.inr rfl, ?_⟩
  exact hS.imp fun h' hq => ⟨(some ⟨k9, 0, none⟩), rfl, hq⟩
set_option maxHeartbeats 4000000 in
theorem C_sheet_Sheet_put.of {B : RO} {p1 : Option Addr} {p2 : Option Addr} {i3 : Int} {b4 : Bool} {s5 : ByteArray} {h : Heap} {Q : Bool → Heap → Prop} (hS : S_sheet_Sheet_put B p1 p2 i3 b4 s5 h Q) : C_sheet_Sheet_put B p1 p2 i3 b4 s5 h Q := by
 unfold S_sheet_Sheet_put at hS
 unfold C_sheet_Sheet_put
 refine Spec.of_run Try.func67 (N := 38) (rs := [ResultVar.tmp 8]) rfl rfl rfl (Nat.le_of_ble_eq_true rfl) ?_
 refine Run.seq ?_
 refine Run.ops0 (idx := [0, 1]) rfl ?_
 refine Run.go rfl rfl rfl (sem_boxNN [(Value.bool b4), (Value.string s5)] rfl (fun k7 hb1 hb2 h8 hb3 => ?_))
 have hS := hS k7 hb1 hb2 h8 hb3
 refine Run.go rfl rfl rfl (sem_assign ((Value.bool false)) rfl ?_)
 refine Run.region_end ?_
 refine Run.seqJ (fun e h10 => Agree [(0, (Value.pointer p1)), (1, (Value.pointer p2)), (2, (Value.int .i64 (i3))), (7, (Value.pointer (some ⟨k7, 0, none⟩)))] e ∧ S_sheet_Sheet_put_J1 B p1 p2 i3 k7 h10 Q) ?_ fun j9 => ?_
 ·rintro e h10 ⟨hag, hS⟩
  refine Run.env hag ?_; clear hag
  refine Run.seq ?_
  refine Run.seq ?_
  refine Run.ops0 (idx := [0, 1, 2, 3, 4, 5, 6, 7, 8, 9]) rfl ?_
  refine Run.go rfl rfl rfl (sem_move ((Value.pointer p1)) rfl ?_)
  refine Run.go rfl rfl rfl (sem_move ((Value.pointer p2)) rfl ?_)
  refine Run.go rfl rfl rfl (sem_move ((Value.int .i64 (i3))) rfl ?_)
  refine Run.go rfl rfl rfl (sem_callL [(Value.pointer p1), (Value.pointer p2), (Value.int .i64 (i3))] (TF.goes_23) rfl rfl (Spec.mono hS fun v h11 hv => ?_))
  obtain ⟨b12, s13, b14, rfl, hS⟩ := hv
  refine Run.go rfl rfl rfl (sem_move ((Value.tuple #[(Value.agg #[(Value.bool b12), (Value.string s13)]), (Value.bool b14)])) rfl ?_)
  refine Run.go rfl rfl rfl (sem_extract #[(Value.agg #[(Value.bool b12), (Value.string s13)]), (Value.bool b14)] ((Value.agg #[(Value.bool b12), (Value.string s13)])) rfl rfl ?_)
  refine Run.go rfl rfl rfl (sem_extract #[(Value.agg #[(Value.bool b12), (Value.string s13)]), (Value.bool b14)] ((Value.bool b14)) rfl rfl ?_)
  refine Run.go rfl rfl rfl (sem_allocN [(Value.bool false), (Value.string ByteArray.empty)] TF.zero_41 (fun k15 hb1 hb2 h16 hb3 => ?_))
  have hS := hS k15 hb1 hb2 h16 hb3
  obtain ⟨h17, hst, hS⟩ := hS
  refine Run.go rfl rfl rfl (sem_storeN ⟨k15, 0, none⟩ [(Value.bool b12), (Value.string s13)] h17 rfl rfl TF.sz_41 hst ?_)
  refine Run.go rfl rfl rfl (sem_assign ((Value.bool b14)) rfl ?_)
  refine Run.region_end ?_
  refine Run.seq ?_
  refine Run.ops0 (idx := [0, 1, 2]) rfl ?_
  obtain ⟨b18, s19, hl, hS⟩ := hS
  refine Run.go rfl rfl rfl (sem_loadN ⟨k15, 0, none⟩ [(Value.bool b18), (Value.string s19)] rfl TF.agg_41 TF.sz_41 hl ?_)
  obtain ⟨b20, s21, hl, hS⟩ := hS
  refine Run.go rfl rfl rfl (sem_loadN ⟨k7, 0, none⟩ [(Value.bool b20), (Value.string s21)] rfl TF.agg_41 TF.sz_41 hl ?_)
  obtain ⟨hT, hF⟩ := hS
  by_cases hb22 : eqL [(Value.bool b18), (Value.string s19)] [(Value.bool b20), (Value.string s21)] = true
  ·have hS := hT hb22; clear hT hF
   refine Run.go rfl rfl rfl (sem_aggEq [(Value.bool b18), (Value.string s19)] [(Value.bool b20), (Value.string s21)] _ (true) (.inl rfl) rfl rfl TF.agg_41 TF.flat_41 TF.eqg_41 ⟨⟨_, rfl⟩, ⟨_, rfl⟩, trivial⟩ ⟨⟨_, rfl⟩, ⟨_, rfl⟩, trivial⟩ (eqLT_eql hb22) ?_)
   refine Run.region_end ?_
   refine Run.condT rfl ?_
   refine Run.seq ?_
   refine Run.ops0 (idx := [0]) rfl ?_
   refine Run.go rfl rfl rfl (sem_assign ((Value.bool true)) rfl ?_)
   refine Run.region_end ?_
   refine Run.ret ⟨.inr rfl, ?_⟩
   exact hS.imp fun h' hq => ⟨(true), rfl, hq⟩
  ·have hS := hF hb22; clear hT hF
   refine Run.go rfl rfl rfl (sem_aggEq [(Value.bool b18), (Value.string s19)] [(Value.bool b20), (Value.string s21)] _ (false) (.inl rfl) rfl rfl TF.agg_41 TF.flat_41 TF.eqg_41 ⟨⟨_, rfl⟩, ⟨_, rfl⟩, trivial⟩ ⟨⟨_, rfl⟩, ⟨_, rfl⟩, trivial⟩ (eqLF_eql hb22) ?_)
   refine Run.region_end ?_
   refine Run.condF rfl ?_
   refine Run.skip ?_
   refine Run.seq ?_
   skip
   obtain ⟨A24, e25, hS⟩ := hS
   skip
   skip
   obtain ⟨p28, hl, hS⟩ := hS
   have f29 := hl
   skip
   obtain ⟨b31, s32, hl, hS⟩ := hS
   have f33 := hl
   refine Run.drawM (fun h' => cellH B h' A24 = some (Value.pointer p28) ∧ CellsAt B h' ⟨k7, 0, none⟩ 0 [(Value.bool b31), (Value.string s32)] ∧ True) [] ⟨[0, 1, 2, 4, 0, 0, 56, 127], [255, 254, 253, 251, 255, 255, 199, 191], [0, 0, 0, 0, 0, 0, 0, 0], 0⟩ (.q 0 (.q 1 (.q 2 (.q 3 (.q 4 (.q 5 (.x 6 (.q 7 .nil) .no))))))) TF.mixed (by kernel_rfl) ⟨f29, f33, trivial⟩ ?_
   refine RunT.quiet rfl rfl rfl (fun h' hC => sem_move ((Value.pointer p1)) rfl ⟨rfl, rfl⟩) ?_
   refine RunT.quiet rfl rfl rfl (fun h' hC => sem_nilCheck A24 (congrArg Value.pointer e25) ⟨rfl, rfl⟩) ?_
   refine RunT.quiet rfl rfl rfl (fun h' hC => sem_fieldAddr A24 0 rfl TF.fld_128_0 ⟨rfl, rfl⟩) ?_
   refine RunT.quiet rfl rfl rfl (fun h' hC => sem_load1 A24 ((Value.pointer p28)) rfl TF.agg_95 hC.1 ⟨rfl, rfl⟩) ?_
   refine RunT.quiet rfl rfl rfl (fun h' hC => sem_move ((Value.int .i64 (i3))) rfl ⟨rfl, rfl⟩) ?_
   refine RunT.quiet rfl rfl rfl (fun h' hC => sem_loadN ⟨k7, 0, none⟩ [(Value.bool b31), (Value.string s32)] rfl TF.agg_41 TF.sz_41 hC.2.1 ⟨rfl, rfl⟩) ?_
   refine ⟨?_, trivial⟩
   refine OpH.go rfl rfl rfl (sem_callL [(Value.pointer p28), (Value.int .i64 (i3)), (Value.agg #[(Value.bool b31), (Value.string s32)])] (TF.goes_104) rfl rfl (Spec.mono hS fun v h34 hv => ?_))
   obtain ⟨b35, rfl, hS⟩ := hv
   obtain ⟨g36, g37, hS⟩ := hS
   refine ⟨fun _ => ⟨g36, g37, trivial⟩, ?_⟩
   refine RunT.quiet rfl rfl rfl (fun h' hC => sem_assign ((Value.bool b35)) rfl ⟨rfl, rfl⟩) ?_
   refine Run.ret ⟨.inr rfl, ?_⟩
   exact hS.imp fun h' hq => ⟨(b35), rfl, hq⟩
 refine Run.seq ?_
 refine Run.ops0 (idx := [0, 1, 2, 3, 4, 5, 6, 7, 8, 9]) rfl ?_
 refine Run.go rfl rfl rfl (sem_move ((Value.pointer p1)) rfl ?_)
 obtain ⟨hT, hF⟩ := hS
 by_cases hb38 : p1 = none
 ·have hS := hT hb38; clear hT hF
  refine Run.go rfl rfl rfl (sem_ptrNilT p1 (.inl rfl) true rfl rfl TF.ptr_28 hb38 rfl ?_)
  refine Run.go rfl rfl rfl (sem_move ((Value.bool true)) rfl ?_)
  refine Run.no rfl rfl rfl ?_
  refine Run.no rfl rfl rfl ?_
  refine Run.go rfl rfl rfl (sem_pick true ((Value.bool true)) rfl rfl ?_)
  refine Run.go rfl rfl rfl (sem_move ((Value.bool true)) rfl ?_)
  refine Run.no rfl rfl rfl ?_
  refine Run.no rfl rfl rfl ?_
  refine Run.go rfl rfl rfl (sem_pick true ((Value.bool true)) rfl rfl ?_)
  refine Run.region_end ?_
  refine Run.condT rfl ?_
  refine Run.seq ?_
  refine Run.ops0 (idx := [0]) rfl ?_
  refine Run.go rfl rfl rfl (sem_assign ((Value.bool false)) rfl ?_)
  refine Run.region_end ?_
  refine Run.ret ⟨.inr rfl, ?_⟩
  exact hS.imp fun h' hq => ⟨(false), rfl, hq⟩
 ·have hS := hF hb38; clear hT hF
  refine Run.go rfl rfl rfl (sem_ptrNilF p1 (.inl rfl) false rfl rfl TF.ptr_28 hb38 rfl ?_)
  refine Run.go rfl rfl rfl (sem_move ((Value.bool false)) rfl ?_)
  refine Run.go rfl rfl rfl (sem_move ((Value.int .i64 (i3))) rfl ?_)
  obtain ⟨hT, hF⟩ := hS
  by_cases hb39 : (i3 : Int) < (0)
  ·have hS := hT hb39; clear hT hF
   refine Run.go rfl rfl rfl (sem_binI .i64 (i3) (0) (.bool true) rfl rfl (binI_lss_t hb39) ?_)
   refine Run.go rfl rfl rfl (sem_pick false ((Value.bool true)) rfl rfl ?_)
   refine Run.go rfl rfl rfl (sem_move ((Value.bool true)) rfl ?_)
   refine Run.no rfl rfl rfl ?_
   refine Run.no rfl rfl rfl ?_
   refine Run.go rfl rfl rfl (sem_pick true ((Value.bool true)) rfl rfl ?_)
   refine Run.region_end ?_
   refine Run.condT rfl ?_
   refine Run.seq ?_
   refine Run.ops0 (idx := [0]) rfl ?_
   refine Run.go rfl rfl rfl (sem_assign ((Value.bool false)) rfl ?_)
   refine Run.region_end ?_
   refine Run.ret ⟨.inr rfl, ?_⟩
   exact hS.imp fun h' hq => ⟨(false), rfl, hq⟩
  ·have hS := hF hb39; clear hT hF
   refine Run.go rfl rfl rfl (sem_binI .i64 (i3) (0) (.bool false) rfl rfl (binI_lss_f hb39) ?_)
   refine Run.go rfl rfl rfl (sem_pick false ((Value.bool false)) rfl rfl ?_)
   refine Run.go rfl rfl rfl (sem_move ((Value.bool false)) rfl ?_)
   refine Run.go rfl rfl rfl (sem_move ((Value.int .i64 (i3))) rfl ?_)
   obtain ⟨hT, hF⟩ := hS
   by_cases hb40 : (i3 : Int) ≥ (6)
   ·have hS := hT hb40; clear hT hF
    refine Run.go rfl rfl rfl (sem_binI .i64 (i3) (6) (.bool true) rfl rfl (binI_geq_t hb40) ?_)
    refine Run.go rfl rfl rfl (sem_pick false ((Value.bool true)) rfl rfl ?_)
    refine Run.region_end ?_
    refine Run.condT rfl ?_
    refine Run.seq ?_
    refine Run.ops0 (idx := [0]) rfl ?_
    refine Run.go rfl rfl rfl (sem_assign ((Value.bool false)) rfl ?_)
    refine Run.region_end ?_
    refine Run.ret ⟨.inr rfl, ?_⟩
    exact hS.imp fun h' hq => ⟨(false), rfl, hq⟩
   ·have hS := hF hb40; clear hT hF
    refine Run.go rfl rfl rfl (sem_binI .i64 (i3) (6) (.bool false) rfl rfl (binI_geq_f hb40) ?_)
    refine Run.go rfl rfl rfl (sem_pick false ((Value.bool false)) rfl rfl ?_)
    refine Run.region_end ?_
    refine Run.condF rfl ?_
    refine Run.skip ?_
    exact Run.of_fin (hS.imp fun h' hS => j9 _ _ ⟨⟨rfl, rfl, rfl, rfl, trivial⟩, hS⟩)
set_option maxHeartbeats 4000000 in
theorem C_file_Make.of {B : RO} {b1 : Bool} {s2 : ByteArray} {h : Heap} {Q : Bool → ByteArray → Heap → Prop} (hS : S_file_Make B b1 s2 h Q) : C_file_Make B b1 s2 h Q := by
 unfold S_file_Make at hS
 unfold C_file_Make
 refine Spec.of_run Try.func68 (N := 6) (rs := [ResultVar.cell 2 41]) rfl rfl rfl (Nat.le_of_ble_eq_true rfl) ?_
 refine Run.seq ?_
 refine Run.ops0 (idx := [0, 1]) rfl ?_
 refine Run.go rfl rfl rfl (sem_boxNN [(Value.bool b1), (Value.string s2)] rfl (fun k5 hb1 hb2 h6 hb3 => ?_))
 have hS := hS k5 hb1 hb2 h6 hb3
 refine Run.go rfl rfl rfl (sem_allocN [(Value.bool false), (Value.string ByteArray.empty)] TF.zero_41 (fun k7 hb1 hb2 h8 hb3 => ?_))
 have hS := hS k7 hb1 hb2 h8 hb3
 refine Run.region_end ?_
 refine Run.seq ?_
 refine Run.ops0 (idx := [0, 1, 2, 3]) rfl ?_
 refine Run.go rfl rfl rfl (sem_fieldAddr ⟨k5, 0, none⟩ 1 rfl TF.fld_41_1 ?_)
 obtain ⟨s9, hl, hS⟩ := hS
 refine Run.go rfl rfl rfl (sem_load1 ⟨k5, 1, none⟩ ((Value.string s9)) rfl TF.agg_9 hl ?_)
 refine Run.go rfl rfl rfl (sem_buildSL [(0, (Value.bool true)), (1, (Value.string s9))] [(Value.bool true), (Value.string s9)] TF.zero_41 TF.places_41 rfl rfl ?_)
 obtain ⟨h10, hst, hS⟩ := hS
 refine Run.go rfl rfl rfl (sem_storeN ⟨k7, 0, none⟩ [(Value.bool true), (Value.string s9)] h10 rfl rfl TF.sz_41 hst ?_)
 refine Run.region_end ?_
 obtain ⟨b11, s12, hl0, hS⟩ := hS
 refine Run.ret ⟨.inr rfl, ?_⟩
 exact ⟨⟨k7, 0, none⟩, (Value.agg #[(Value.bool b11), (Value.string s12)]), rfl, loadHN TF.agg_41 TF.sz_41 hl0, hS.imp fun h' hq => ⟨(b11), s12, rfl, hq⟩⟩
set_option maxHeartbeats 4000000 in
theorem C_draft_Draft_file_File_Get.of {B : RO} {p1 : Option Addr} {i2 : Int} {h : Heap} {Q : Bool → ByteArray → Bool → Heap → Prop} (hS : S_draft_Draft_file_File_Get B p1 i2 h Q) : C_draft_Draft_file_File_Get B p1 i2 h Q := by
 unfold S_draft_Draft_file_File_Get at hS
 unfold C_draft_Draft_file_File_Get
 refine Spec.of_run Try.func69 (N := 29) (rs := [ResultVar.cell 4 41, ResultVar.tmp 5]) rfl rfl rfl (Nat.le_of_ble_eq_true rfl) ?_
 refine Run.seq ?_
 refine Run.ops0 (idx := [0, 1]) rfl ?_
 refine Run.go rfl rfl rfl (sem_allocN [(Value.bool false), (Value.string ByteArray.empty)] TF.zero_41 (fun k6 hb1 hb2 h7 hb3 => ?_))
 have hS := hS k6 hb1 hb2 h7 hb3
 refine Run.go rfl rfl rfl (sem_assign ((Value.bool false)) rfl ?_)
 refine Run.region_end ?_
 refine Run.seq ?_
 refine Run.ops0 (idx := [0]) rfl ?_
 refine Run.go rfl rfl rfl (sem_allocN [(Value.bool false), (Value.string ByteArray.empty)] TF.zero_41 (fun k8 hb1 hb2 h9 hb3 => ?_))
 have hS := hS k8 hb1 hb2 h9 hb3
 refine Run.region_end ?_
 refine Run.seq ?_
 refine Run.seq ?_
 refine Run.ops0 (idx := [0, 1]) rfl ?_
 refine Run.go rfl rfl rfl (sem_move ((Value.pointer p1)) rfl ?_)
 obtain ⟨hT, hF⟩ := hS
 by_cases hb10 : p1 = none
 ·have hS := hT hb10; clear hT hF
  refine Run.go rfl rfl rfl (sem_ptrNilT p1 (.inl rfl) true rfl rfl TF.ptr_95 hb10 rfl ?_)
  refine Run.region_end ?_
  refine Run.condT rfl ?_
  refine Run.seq ?_
  refine Run.ops0 (idx := [0, 1, 2]) rfl ?_
  obtain ⟨b11, s12, hl, hS⟩ := hS
  refine Run.go rfl rfl rfl (sem_loadN ⟨k8, 0, none⟩ [(Value.bool b11), (Value.string s12)] rfl TF.agg_41 TF.sz_41 hl ?_)
  obtain ⟨h13, hst, hS⟩ := hS
  refine Run.go rfl rfl rfl (sem_storeN ⟨k6, 0, none⟩ [(Value.bool b11), (Value.string s12)] h13 rfl rfl TF.sz_41 hst ?_)
  refine Run.go rfl rfl rfl (sem_assign ((Value.bool false)) rfl ?_)
  refine Run.region_end ?_
  obtain ⟨b14, s15, hl0, hS⟩ := hS
  refine Run.ret ⟨.inr rfl, ?_⟩
  exact ⟨⟨k6, 0, none⟩, (Value.agg #[(Value.bool b14), (Value.string s15)]), rfl, loadHN TF.agg_41 TF.sz_41 hl0, hS.imp fun h' hq => ⟨(b14), s15, (false), rfl, hq⟩⟩
 ·have hS := hF hb10; clear hT hF
  refine Run.go rfl rfl rfl (sem_ptrNilF p1 (.inl rfl) false rfl rfl TF.ptr_95 hb10 rfl ?_)
  refine Run.region_end ?_
  refine Run.condF rfl ?_
  refine Run.skip ?_
  refine Run.seq ?_
  refine Run.ops0 (idx := [0, 1, 2, 3, 4, 5, 6, 7]) rfl ?_
  refine Run.go rfl rfl rfl (sem_move ((Value.pointer p1)) rfl ?_)
  refine Run.go rfl rfl rfl (sem_move ((Value.int .i64 (i2))) rfl ?_)
  refine Run.go rfl rfl rfl (sem_callL [(Value.pointer p1), (Value.int .i64 (i2))] (TF.goes_105) rfl rfl (Spec.mono hS fun v h16 hv => ?_))
  obtain ⟨i17, b18, rfl, hS⟩ := hv
  refine Run.go rfl rfl rfl (sem_move ((Value.tuple #[(Value.int .i64 (i17)), (Value.bool b18)])) rfl ?_)
  refine Run.go rfl rfl rfl (sem_extract #[(Value.int .i64 (i17)), (Value.bool b18)] ((Value.int .i64 (i17))) rfl rfl ?_)
  obtain ⟨hT, hF⟩ := hS
  cases b18
  ·have hS := hF rfl; clear hT hF
   refine Run.go rfl rfl rfl (sem_extract #[(Value.int .i64 (i17)), (Value.bool false)] (.bool false) rfl rfl ?_)
   refine Run.go rfl rfl rfl (sem_assign ((Value.int .i64 (i17))) rfl ?_)
   refine Run.go rfl rfl rfl (sem_assign ((Value.bool false)) rfl ?_)
   refine Run.region_end ?_
   refine Run.seq ?_
   refine Run.seq ?_
   refine Run.ops0 (idx := [0, 1]) rfl ?_
   refine Run.go rfl rfl rfl (sem_move ((Value.bool false)) rfl ?_)
   refine Run.go rfl rfl rfl (sem_not false rfl ?_)
   refine Run.region_end ?_
   refine Run.condT rfl ?_
   refine Run.seq ?_
   refine Run.ops0 (idx := [0, 1, 2]) rfl ?_
   obtain ⟨b19, s20, hl, hS⟩ := hS
   refine Run.go rfl rfl rfl (sem_loadN ⟨k8, 0, none⟩ [(Value.bool b19), (Value.string s20)] rfl TF.agg_41 TF.sz_41 hl ?_)
   obtain ⟨h21, hst, hS⟩ := hS
   refine Run.go rfl rfl rfl (sem_storeN ⟨k6, 0, none⟩ [(Value.bool b19), (Value.string s20)] h21 rfl rfl TF.sz_41 hst ?_)
   refine Run.go rfl rfl rfl (sem_assign ((Value.bool false)) rfl ?_)
   refine Run.region_end ?_
   obtain ⟨b22, s23, hl0, hS⟩ := hS
   refine Run.ret ⟨.inr rfl, ?_⟩
   exact ⟨⟨k6, 0, none⟩, (Value.agg #[(Value.bool b22), (Value.string s23)]), rfl, loadHN TF.agg_41 TF.sz_41 hl0, hS.imp fun h' hq => ⟨(b22), s23, (false), rfl, hq⟩⟩
  ·have hS := hT rfl; clear hT hF
   refine Run.go rfl rfl rfl (sem_extract #[(Value.int .i64 (i17)), (Value.bool true)] (.bool true) rfl rfl ?_)
   refine Run.go rfl rfl rfl (sem_assign ((Value.int .i64 (i17))) rfl ?_)
   refine Run.go rfl rfl rfl (sem_assign ((Value.bool true)) rfl ?_)
   refine Run.region_end ?_
   refine Run.seq ?_
   refine Run.seq ?_
   refine Run.ops0 (idx := [0, 1]) rfl ?_
   refine Run.go rfl rfl rfl (sem_move ((Value.bool true)) rfl ?_)
   refine Run.go rfl rfl rfl (sem_not true rfl ?_)
   refine Run.region_end ?_
   refine Run.condF rfl ?_
   refine Run.skip ?_
   refine Run.seq ?_
   refine Run.ops0 (idx := [0, 1, 2, 3, 4, 5, 6, 7, 8, 9]) rfl ?_
   refine Run.go rfl rfl rfl (sem_move ((Value.pointer p1)) rfl ?_)
   obtain ⟨A24, e25, hS⟩ := hS
   refine Run.go rfl rfl rfl (sem_nilCheck A24 (congrArg Value.pointer e25) ?_)
   refine Run.go rfl rfl rfl (sem_fieldAddr A24 0 rfl TF.fld_160_0 ?_)
   refine Run.ldSl hS fun a26 n27 c28 h29 hl hS => ?_
   refine Run.go rfl rfl rfl (sem_load1 A24 ((Value.slice a26 n27 c28)) rfl TF.agg_158 hl ?_)
   refine Run.go rfl rfl rfl (sem_move ((Value.int .i64 (i17))) rfl ?_)
   obtain ⟨A30, e31, hi0, hi1, hS⟩ := hS
   refine Run.go rfl rfl rfl (sem_indexAddrS A30 n27 c28 .i64 (i17) (congrArg (fun a => Value.slice a n27 c28) e31) rfl TF.slc_158 hi0 hi1 ?_)
   refine Run.go rfl rfl rfl (sem_fieldAddr (Addr.add A30 (Int.toNat (i17) * 3)) 1 rfl TF.fld_162_1 ?_)
   obtain ⟨b32, s33, hl, hS⟩ := hS
   refine Run.go rfl rfl rfl (sem_loadN (Addr.add (Addr.add A30 (Int.toNat (i17) * 3)) 1) [(Value.bool b32), (Value.string s33)] rfl TF.agg_41 TF.sz_41 hl ?_)
   obtain ⟨h34, hst, hS⟩ := hS
   refine Run.go rfl rfl rfl (sem_storeN ⟨k6, 0, none⟩ [(Value.bool b32), (Value.string s33)] h34 rfl rfl TF.sz_41 hst ?_)
   refine Run.go rfl rfl rfl (sem_assign ((Value.bool true)) rfl ?_)
   refine Run.region_end ?_
   obtain ⟨b35, s36, hl0, hS⟩ := hS
   refine Run.ret ⟨.inr rfl, ?_⟩
   exact ⟨⟨k6, 0, none⟩, (Value.agg #[(Value.bool b35), (Value.string s36)]), rfl, loadHN TF.agg_41 TF.sz_41 hl0, hS.imp fun h' hq => ⟨(b35), s36, (true), rfl, hq⟩⟩
set_option maxHeartbeats 4000000 in
theorem C_draft_Draft_file_File_Copy.of {B : RO} {p1 : Option Addr} {h : Heap} {Q : Option Addr → Heap → Prop} (hS : S_draft_Draft_file_File_Copy B p1 h Q) : C_draft_Draft_file_File_Copy B p1 h Q := by
 unfold S_draft_Draft_file_File_Copy at hS
 unfold C_draft_Draft_file_File_Copy
 refine Spec.of_run Try.func91 (N := 12) (rs := [ResultVar.tmp 2]) rfl rfl rfl (Nat.le_of_ble_eq_true rfl) ?_
 refine Run.seq ?_
 refine Run.ops0 (idx := [0]) rfl ?_
 refine Run.go rfl rfl rfl (sem_assign ((Value.pointer none)) rfl ?_)
 refine Run.region_end ?_
 refine Run.seq ?_
 refine Run.seq ?_
 refine Run.ops0 (idx := [0, 1]) rfl ?_
 refine Run.go rfl rfl rfl (sem_move ((Value.pointer p1)) rfl ?_)
 obtain ⟨hT, hF⟩ := hS
 by_cases hb3 : p1 = none
 ·have hS := hT hb3; clear hT hF
  refine Run.go rfl rfl rfl (sem_ptrNilT p1 (.inl rfl) true rfl rfl TF.ptr_95 hb3 rfl ?_)
  refine Run.region_end ?_
  refine Run.condT rfl ?_
  refine Run.seq ?_
  refine Run.ops0 (idx := [0]) rfl ?_
  refine Run.go rfl rfl rfl (sem_assign ((Value.pointer none)) rfl ?_)
  refine Run.region_end ?_
  refine Run.ret ⟨.inr rfl, ?_⟩
  exact hS.imp fun h' hq => ⟨none, rfl, hq⟩
 ·have hS := hF hb3; clear hT hF
  refine Run.go rfl rfl rfl (sem_ptrNilF p1 (.inl rfl) false rfl rfl TF.ptr_95 hb3 rfl ?_)
  refine Run.region_end ?_
  refine Run.condF rfl ?_
  refine Run.skip ?_
  refine Run.seq ?_
  refine Run.ops0 (idx := [0, 1, 2, 3, 4, 5, 6, 7]) rfl ?_
  refine Run.go rfl rfl rfl (sem_move ((Value.pointer p1)) rfl ?_)
  obtain ⟨A4, e5, hS⟩ := hS
  refine Run.go rfl rfl rfl (sem_nilCheck A4 (congrArg Value.pointer e5) ?_)
  refine Run.go rfl rfl rfl (sem_fieldAddr A4 0 rfl TF.fld_160_0 ?_)
  refine Run.ldSl hS fun a6 n7 c8 h9 hl hS => ?_
  refine Run.go rfl rfl rfl (sem_load1 A4 ((Value.slice a6 n7 c8)) rfl TF.agg_158 hl ?_)
  refine Run.go rfl rfl rfl (sem_callL [(Value.slice a6 n7 c8)] (TF.goes_119) rfl rfl (Spec.mono hS fun v h10 hv => ?_))
  obtain ⟨a11, n12, c13, rfl, hS⟩ := hv
  refine Run.go rfl rfl rfl (sem_buildSL [(0, (Value.slice a11 n12 c13))] [(Value.slice a11 n12 c13)] TF.zero_160 TF.places_160 rfl rfl ?_)
  refine Run.go rfl rfl rfl (sem_boxNN [(Value.slice a11 n12 c13)] rfl (fun k14 hb1 hb2 h15 hb3 => ?_))
  have hS := hS k14 hb1 hb2 h15 hb3
  refine Run.go rfl rfl rfl (sem_assign ((Value.pointer (some ⟨k14, 0, none⟩))) rfl ?_)
  refine Run.region_end ?_
  refine Run.ret ⟨.inr rfl, ?_⟩
  exact hS.imp fun h' hq => ⟨(some ⟨k14, 0, none⟩), rfl, hq⟩
end Go.Proofs.Ytcncdfmnpmmikaa.H
