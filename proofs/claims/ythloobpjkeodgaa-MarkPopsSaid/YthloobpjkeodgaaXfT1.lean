/- The functions do what they ask for. No condition. -/
import Derived.Test.YthloobpjkeodgaaXfS
namespace Go.Proofs.Ythloobpjkeodgaa.H
open Go
set_option linter.unusedVariables false
set_option maxRecDepth 100000

set_option maxHeartbeats 4000000 in
theorem C_countermandlaw17_MarkPops.of {B : RO} {a1 : Option Addr} {n2 : Nat} {c3 : Nat} {h : Heap} {Q : Bool → Heap → Prop} (hS : S_countermandlaw17_MarkPops B a1 n2 c3 h Q) : C_countermandlaw17_MarkPops B a1 n2 c3 h Q := by
 unfold S_countermandlaw17_MarkPops at hS
 unfold C_countermandlaw17_MarkPops
 refine Spec.of_run Try.func14 (N := 179) (rs := [ResultVar.tmp 2]) rfl rfl rfl (Nat.le_of_ble_eq_true rfl) ?_
 refine Run.seq ?_
 refine Run.ops0 (idx := [0]) rfl ?_
 refine Run.go rfl rfl rfl (sem_assign ((Value.bool false)) rfl ?_)
 refine Run.region_end ?_
 refine Run.seq ?_
 refine Run.seq ?_
 refine Run.ops0 (idx := [0, 1]) rfl ?_
 refine Run.go rfl rfl rfl (sem_callL [] (TF.goes_73) rfl rfl (Spec.mono hS fun v h5 hv => ?_))
 obtain ⟨b6, rfl, hS⟩ := hv
 obtain ⟨hT, hF⟩ := hS
 cases b6
 ·have hS := hF rfl; clear hT hF
  refine Run.go rfl rfl rfl (sem_not false rfl ?_)
  refine Run.region_end ?_
  refine Run.condT rfl ?_
  refine Run.seq ?_
  refine Run.ops0 (idx := [0]) rfl ?_
  refine Run.go rfl rfl rfl (sem_assign ((Value.bool false)) rfl ?_)
  refine Run.region_end ?_
  refine Run.ret ⟨.inr rfl, ?_⟩
  exact hS.imp fun h' hq => ⟨(false), rfl, hq⟩
 ·have hS := hT rfl; clear hT hF
  refine Run.go rfl rfl rfl (sem_not true rfl ?_)
  refine Run.region_end ?_
  refine Run.condF rfl ?_
  refine Run.skip ?_
  refine Run.seq ?_
  refine Run.seq ?_
  refine Run.ops0 (idx := [0, 1, 2]) rfl ?_
  refine Run.go rfl rfl rfl (sem_move ((Value.slice a1 n2 c3)) rfl ?_)
  refine Run.go rfl rfl rfl (sem_lenSl a1 n2 c3 rfl TF.sl_130 ?_)
  obtain ⟨hT, hF⟩ := hS
  by_cases hb7 : ((n2 : Nat) : Int) > (80)
  ·have hS := hT hb7; clear hT hF
   refine Run.go rfl rfl rfl (sem_binI .i64 ((n2 : Nat)) (80) (.bool true) rfl rfl (binI_gtr_t hb7) ?_)
   refine Run.region_end ?_
   refine Run.condT rfl ?_
   refine Run.seq ?_
   refine Run.ops0 (idx := [0]) rfl ?_
   refine Run.go rfl rfl rfl (sem_assign ((Value.bool true)) rfl ?_)
   refine Run.region_end ?_
   refine Run.ret ⟨.inr rfl, ?_⟩
   exact hS.imp fun h' hq => ⟨(true), rfl, hq⟩
  ·have hS := hF hb7; clear hT hF
   refine Run.go rfl rfl rfl (sem_binI .i64 ((n2 : Nat)) (80) (.bool false) rfl rfl (binI_gtr_f hb7) ?_)
   refine Run.region_end ?_
   refine Run.condF rfl ?_
   refine Run.skip ?_
   refine Run.seq ?_
   refine Run.ops0 (idx := [0, 1, 2]) rfl ?_
   refine Run.go rfl rfl rfl (sem_buildSL [] [(Value.slice none 0 0)] TF.zero_134 TF.places_134 rfl rfl ?_)
   refine Run.go rfl rfl rfl (sem_boxNN [(Value.slice none 0 0)] rfl (fun k8 hb1 hb2 h9 hb3 => ?_))
   have hS := hS k8 hb1 hb2 h9 hb3
   refine Run.go rfl rfl rfl (sem_assign ((Value.pointer (some ⟨k8, 0, none⟩))) rfl ?_)
   refine Run.region_end ?_
   refine Run.seq ?_
   refine Run.ops0 (idx := [0, 1, 2, 3]) rfl ?_
   refine Run.go rfl rfl rfl (sem_buildAL [] [(Value.int .i64 (0)), (Value.int .i64 (0)), (Value.int .i64 (0)), (Value.int .i64 (0))] TF.zero_138 TF.arr_138 rfl rfl ?_)
   refine Run.go rfl rfl rfl (sem_callL [(Value.agg #[(Value.int .i64 (0)), (Value.int .i64 (0)), (Value.int .i64 (0)), (Value.int .i64 (0))])] (TF.goes_74) rfl rfl (Spec.mono hS fun v h10 hv => ?_))
   obtain ⟨p11, p12, p13, i14, i15, i16, i17, rfl, hS⟩ := hv
   refine Run.go rfl rfl rfl (sem_allocN [(Value.pointer none), (Value.pointer none), (Value.pointer none), (Value.int .i64 (0)), (Value.int .i64 (0)), (Value.int .i64 (0)), (Value.int .i64 (0))] TF.zero_140 (fun k18 hb1 hb2 h19 hb3 => ?_))
   have hS := hS k18 hb1 hb2 h19 hb3
   obtain ⟨h20, hst, hS⟩ := hS
   refine Run.go rfl rfl rfl (sem_storeN ⟨k18, 0, none⟩ [(Value.pointer p11), (Value.pointer p12), (Value.pointer p13), (Value.int .i64 (i14)), (Value.int .i64 (i15)), (Value.int .i64 (i16)), (Value.int .i64 (i17))] h20 rfl rfl TF.sz_140 hst ?_)
   refine Run.region_end ?_
   refine Run.seq ?_
   refine Run.ops0 (idx := [0, 1, 2]) rfl ?_
   refine Run.go rfl rfl rfl (sem_buildSL [] [(Value.slice none 0 0), (Value.int .i64 (0)), (Value.int .i64 (0))] TF.zero_144 TF.places_144 rfl rfl ?_)
   refine Run.go rfl rfl rfl (sem_allocN [(Value.slice none 0 0), (Value.int .i64 (0)), (Value.int .i64 (0))] TF.zero_144 (fun k21 hb1 hb2 h22 hb3 => ?_))
   have hS := hS k21 hb1 hb2 h22 hb3
   obtain ⟨h23, hst, hS⟩ := hS
   refine Run.go rfl rfl rfl (sem_storeN ⟨k21, 0, none⟩ [(Value.slice none 0 0), (Value.int .i64 (0)), (Value.int .i64 (0))] h23 rfl rfl TF.sz_144 hst ?_)
   refine Run.region_end ?_
   refine Run.seq ?_
   refine Run.ops0 (idx := [0]) rfl ?_
   refine Run.go rfl rfl rfl (sem_assign ((Value.slice none 0 0)) rfl ?_)
   refine Run.region_end ?_
   refine Run.seqJ (fun e h25 => Agree [] e ∧ S_countermandlaw17_MarkPops_J1 B h25 Q) ?_ fun j24 => ?_
   ·rintro e h25 ⟨hag, hS⟩
    refine Run.env hag ?_; clear hag
    refine Run.seq ?_
    refine Run.ops0 (idx := [0]) rfl ?_
    refine Run.go rfl rfl rfl (sem_assign ((Value.pointer none)) rfl ?_)
    refine Run.region_end ?_
    refine Run.seq ?_
    refine Run.ops0 (idx := [0, 1]) rfl ?_
    refine Run.go rfl rfl rfl (sem_move ((Value.pointer none)) rfl ?_)
    refine Run.go rfl rfl rfl (sem_callL [(Value.pointer none)] (TF.goes_81) rfl rfl (Spec.mono hS fun v h26 hv => ?_))
    obtain ⟨rfl, hS⟩ := hv
    refine Run.region_end ?_
    refine Run.seq ?_
    refine Run.ops0 (idx := [0, 1, 2, 3, 4, 5, 6, 7]) rfl ?_
    refine Run.go rfl rfl rfl (sem_move ((Value.pointer none)) rfl ?_)
    refine Run.go rfl rfl rfl (sem_callL [(Value.pointer none)] (TF.goes_79) rfl rfl (Spec.mono hS fun v h27 hv => ?_))
    obtain ⟨p28, p29, p30, i31, i32, i33, i34, i35, i36, i37, i38, i39, b40, rfl, hS⟩ := hv
    refine Run.go rfl rfl rfl (sem_move ((Value.tuple #[(Value.agg #[(Value.pointer p28), (Value.pointer p29), (Value.pointer p30), (Value.int .i64 (i31)), (Value.int .i64 (i32)), (Value.int .i64 (i33)), (Value.int .i64 (i34)), (Value.int .i64 (i35)), (Value.int .i64 (i36)), (Value.int .i64 (i37)), (Value.int .i64 (i38)), (Value.int .i64 (i39))]), (Value.bool b40)])) rfl ?_)
    refine Run.go rfl rfl rfl (sem_extract #[(Value.agg #[(Value.pointer p28), (Value.pointer p29), (Value.pointer p30), (Value.int .i64 (i31)), (Value.int .i64 (i32)), (Value.int .i64 (i33)), (Value.int .i64 (i34)), (Value.int .i64 (i35)), (Value.int .i64 (i36)), (Value.int .i64 (i37)), (Value.int .i64 (i38)), (Value.int .i64 (i39))]), (Value.bool b40)] ((Value.agg #[(Value.pointer p28), (Value.pointer p29), (Value.pointer p30), (Value.int .i64 (i31)), (Value.int .i64 (i32)), (Value.int .i64 (i33)), (Value.int .i64 (i34)), (Value.int .i64 (i35)), (Value.int .i64 (i36)), (Value.int .i64 (i37)), (Value.int .i64 (i38)), (Value.int .i64 (i39))])) rfl rfl ?_)
    obtain ⟨hT, hF⟩ := hS
    cases b40
    ·have hS := hF rfl; clear hT hF
     refine Run.go rfl rfl rfl (sem_extract #[(Value.agg #[(Value.pointer p28), (Value.pointer p29), (Value.pointer p30), (Value.int .i64 (i31)), (Value.int .i64 (i32)), (Value.int .i64 (i33)), (Value.int .i64 (i34)), (Value.int .i64 (i35)), (Value.int .i64 (i36)), (Value.int .i64 (i37)), (Value.int .i64 (i38)), (Value.int .i64 (i39))]), (Value.bool false)] (.bool false) rfl rfl ?_)
     refine Run.go rfl rfl rfl (sem_allocN [(Value.pointer none), (Value.pointer none), (Value.pointer none), (Value.int .i64 (0)), (Value.int .i64 (0)), (Value.int .i64 (0)), (Value.int .i64 (0)), (Value.int .i64 (0)), (Value.int .i64 (0)), (Value.int .i64 (0)), (Value.int .i64 (0)), (Value.int .i64 (0))] TF.zero_151 (fun k41 hb1 hb2 h42 hb3 => ?_))
     have hS := hS k41 hb1 hb2 h42 hb3
     obtain ⟨h43, hst, hS⟩ := hS
     refine Run.go rfl rfl rfl (sem_storeN ⟨k41, 0, none⟩ [(Value.pointer p28), (Value.pointer p29), (Value.pointer p30), (Value.int .i64 (i31)), (Value.int .i64 (i32)), (Value.int .i64 (i33)), (Value.int .i64 (i34)), (Value.int .i64 (i35)), (Value.int .i64 (i36)), (Value.int .i64 (i37)), (Value.int .i64 (i38)), (Value.int .i64 (i39))] h43 rfl rfl TF.sz_151 hst ?_)
     refine Run.go rfl rfl rfl (sem_assign ((Value.bool false)) rfl ?_)
     refine Run.region_end ?_
     refine Run.seq ?_
     refine Run.ops0 (idx := [0, 1, 2, 3, 4, 5, 6, 7, 8, 9, 10, 11, 12, 13]) rfl ?_
     refine Run.go rfl rfl rfl (sem_move ((Value.bool false)) rfl ?_)
     refine Run.go rfl rfl rfl (sem_not false rfl ?_)
     refine Run.go rfl rfl rfl (sem_move ((Value.bool true)) rfl ?_)
     refine Run.go rfl rfl rfl (sem_move ((Value.pointer none)) rfl ?_)
     refine Run.go rfl rfl rfl (sem_callL [(Value.pointer none)] (TF.goes_82) rfl rfl (Spec.mono hS fun v h44 hv => ?_))
     obtain ⟨i45, rfl, hS⟩ := hv
     obtain ⟨hT, hF⟩ := hS
     by_cases hb46 : (i45 : Int) = 0
     ·have hS := hT hb46; clear hT hF
      refine Run.go rfl rfl rfl (sem_binI .i64 (i45) (0) (.bool true) rfl rfl (binI_eql_t hb46) ?_)
      refine Run.go rfl rfl rfl (sem_pick true ((Value.bool true)) rfl rfl ?_)
      refine Run.go rfl rfl rfl (sem_move ((Value.bool true)) rfl ?_)
      refine Run.go rfl rfl rfl (sem_move ((Value.pointer none)) rfl ?_)
      refine Run.go rfl rfl rfl (sem_buildSL [] [(Value.pointer none), (Value.pointer none), (Value.pointer none), (Value.int .i64 (0)), (Value.int .i64 (0)), (Value.int .i64 (0)), (Value.int .i64 (0)), (Value.int .i64 (0)), (Value.int .i64 (0)), (Value.int .i64 (0)), (Value.int .i64 (0)), (Value.int .i64 (0))] TF.zero_151 TF.places_151 rfl rfl ?_)
      refine Run.go rfl rfl rfl (sem_callL [(Value.pointer none), (Value.agg #[(Value.pointer none), (Value.pointer none), (Value.pointer none), (Value.int .i64 (0)), (Value.int .i64 (0)), (Value.int .i64 (0)), (Value.int .i64 (0)), (Value.int .i64 (0)), (Value.int .i64 (0)), (Value.int .i64 (0)), (Value.int .i64 (0)), (Value.int .i64 (0))])] (TF.goes_77) rfl rfl (Spec.mono hS fun v h47 hv => ?_))
      obtain ⟨b48, rfl, hS⟩ := hv
      refine Run.go rfl rfl rfl (sem_not b48 rfl ?_)
      refine Run.go rfl rfl rfl (sem_pick true ((Value.bool (!b48))) rfl rfl ?_)
      refine Run.go rfl rfl rfl (sem_assign ((Value.bool (!b48))) rfl ?_)
      refine Run.region_end ?_
      refine Run.ret ⟨.inr rfl, ?_⟩
      exact hS.imp fun h' hq => ⟨((!b48)), rfl, hq⟩
     ·have hS := hF hb46; clear hT hF
      refine Run.go rfl rfl rfl (sem_binI .i64 (i45) (0) (.bool false) rfl rfl (binI_eql_f hb46) ?_)
      refine Run.go rfl rfl rfl (sem_pick true ((Value.bool false)) rfl rfl ?_)
      refine Run.go rfl rfl rfl (sem_move ((Value.bool false)) rfl ?_)
      refine Run.no rfl rfl rfl ?_
      refine Run.no rfl rfl rfl ?_
      refine Run.no rfl rfl rfl ?_
      refine Run.no rfl rfl rfl ?_
      refine Run.go rfl rfl rfl (sem_pick false ((Value.bool false)) rfl rfl ?_)
      refine Run.go rfl rfl rfl (sem_assign ((Value.bool false)) rfl ?_)
      refine Run.region_end ?_
      refine Run.ret ⟨.inr rfl, ?_⟩
      exact hS.imp fun h' hq => ⟨(false), rfl, hq⟩
    ·have hS := hT rfl; clear hT hF
     refine Run.go rfl rfl rfl (sem_extract #[(Value.agg #[(Value.pointer p28), (Value.pointer p29), (Value.pointer p30), (Value.int .i64 (i31)), (Value.int .i64 (i32)), (Value.int .i64 (i33)), (Value.int .i64 (i34)), (Value.int .i64 (i35)), (Value.int .i64 (i36)), (Value.int .i64 (i37)), (Value.int .i64 (i38)), (Value.int .i64 (i39))]), (Value.bool true)] (.bool true) rfl rfl ?_)
     refine Run.go rfl rfl rfl (sem_allocN [(Value.pointer none), (Value.pointer none), (Value.pointer none), (Value.int .i64 (0)), (Value.int .i64 (0)), (Value.int .i64 (0)), (Value.int .i64 (0)), (Value.int .i64 (0)), (Value.int .i64 (0)), (Value.int .i64 (0)), (Value.int .i64 (0)), (Value.int .i64 (0))] TF.zero_151 (fun k49 hb1 hb2 h50 hb3 => ?_))
     have hS := hS k49 hb1 hb2 h50 hb3
     obtain ⟨h51, hst, hS⟩ := hS
     refine Run.go rfl rfl rfl (sem_storeN ⟨k49, 0, none⟩ [(Value.pointer p28), (Value.pointer p29), (Value.pointer p30), (Value.int .i64 (i31)), (Value.int .i64 (i32)), (Value.int .i64 (i33)), (Value.int .i64 (i34)), (Value.int .i64 (i35)), (Value.int .i64 (i36)), (Value.int .i64 (i37)), (Value.int .i64 (i38)), (Value.int .i64 (i39))] h51 rfl rfl TF.sz_151 hst ?_)
     refine Run.go rfl rfl rfl (sem_assign ((Value.bool true)) rfl ?_)
     refine Run.region_end ?_
     refine Run.seq ?_
     refine Run.ops0 (idx := [0, 1, 2, 3, 4, 5, 6, 7, 8, 9, 10, 11, 12, 13]) rfl ?_
     refine Run.go rfl rfl rfl (sem_move ((Value.bool true)) rfl ?_)
     refine Run.go rfl rfl rfl (sem_not true rfl ?_)
     refine Run.go rfl rfl rfl (sem_move ((Value.bool false)) rfl ?_)
     refine Run.no rfl rfl rfl ?_
     refine Run.no rfl rfl rfl ?_
     refine Run.no rfl rfl rfl ?_
     refine Run.go rfl rfl rfl (sem_pick false ((Value.bool false)) rfl rfl ?_)
     refine Run.go rfl rfl rfl (sem_move ((Value.bool false)) rfl ?_)
     refine Run.no rfl rfl rfl ?_
     refine Run.no rfl rfl rfl ?_
     refine Run.no rfl rfl rfl ?_
     refine Run.no rfl rfl rfl ?_
     refine Run.go rfl rfl rfl (sem_pick false ((Value.bool false)) rfl rfl ?_)
     refine Run.go rfl rfl rfl (sem_assign ((Value.bool false)) rfl ?_)
     refine Run.region_end ?_
     refine Run.ret ⟨.inr rfl, ?_⟩
     exact hS.imp fun h' hq => ⟨(false), rfl, hq⟩
   refine Run.seq ?_
   refine Run.ops0 (idx := [0, 1, 2]) rfl ?_
   refine Run.go rfl rfl rfl (sem_move ((Value.slice a1 n2 c3)) rfl ?_)
   refine Run.go rfl rfl rfl (sem_lenSl a1 n2 c3 rfl TF.sl_130 ?_)
   refine Run.go rfl rfl rfl (sem_move ((Value.int .i64 (0))) rfl ?_)
   refine Run.region_end ?_
   refine Run.block ?_
   obtain ⟨J60, m58, h0, hS⟩ := hS
   refine Run.of_fin (h0.imp fun h' h0 => ?_)
   refine Run.loop (σ := (Option Addr) × Nat × Nat × Int × Nat) (fun x e h => J60 x.1 x.2.1 x.2.2.1 x.2.2.2.1 x.2.2.2.2 h ∧ Agree [(3, (Value.pointer (some ⟨k8, 0, none⟩))), (4, (Value.pointer (some ⟨k18, 0, none⟩))), (5, (Value.pointer (some ⟨k21, 0, none⟩))), (6, (Value.slice x.1 x.2.1 x.2.2.1)), (25, (Value.slice a1 n2 c3)), (26, (Value.int .i64 ((n2 : Nat)))), (27, (Value.int .i64 (x.2.2.2.1)))] e) (fun x => x.2.2.2.2) (none, 0, 0, (0), m58) ⟨h0, ⟨rfl, rfl, rfl, rfl, rfl, rfl, rfl, trivial⟩⟩ ?_; clear h0
   rintro ⟨a52, n53, c54, i55, m57⟩ e h56 ⟨hJ, hag⟩ ih59
   have hS := hS a52 n53 c54 i55 m57 h56 hJ; clear hJ
   refine Run.env hag ?_; clear hag
   refine Run.seq ?_
   refine Run.ops0 (idx := [0]) rfl ?_
   obtain ⟨hT, hF⟩ := hS
   by_cases hb61 : (i55 : Int) < ((n2 : Nat))
   ·have hS := hT hb61; clear hT hF
    refine Run.go rfl rfl rfl (sem_binI .i64 (i55) ((n2 : Nat)) (.bool true) rfl rfl (binI_lss_t hb61) ?_)
    refine Run.region_end ?_
    refine Run.seq ?_
    refine Run.condT rfl ?_
    refine Run.skip ?_
    refine Run.seq ?_
    refine Run.block ?_
    refine Run.seq ?_
    refine Run.ops0 (idx := [0, 1, 2, 3]) rfl ?_
    obtain ⟨A62, e63, hi0, hi1, hS⟩ := hS
    refine Run.go rfl rfl rfl (sem_indexAddrS A62 n2 c3 .i64 (i55) (congrArg (fun a => Value.slice a n2 c3) e63) rfl TF.slc_130 hi0 hi1 ?_)
    obtain ⟨i64, i65, i66, hl, hS⟩ := hS
    refine Run.go rfl rfl rfl (sem_loadN (Addr.add A62 (Int.toNat (i55) * 3)) [(Value.int .i64 (i64)), (Value.int .i64 (i65)), (Value.int .i64 (i66))] rfl TF.agg_146 TF.sz_146 hl ?_)
    refine Run.go rfl rfl rfl (sem_allocN [(Value.int .i64 (0)), (Value.int .i64 (0)), (Value.int .i64 (0))] TF.zero_146 (fun k67 hb1 hb2 h68 hb3 => ?_))
    have hS := hS k67 hb1 hb2 h68 hb3
    obtain ⟨h69, hst, hS⟩ := hS
    refine Run.go rfl rfl rfl (sem_storeN ⟨k67, 0, none⟩ [(Value.int .i64 (i64)), (Value.int .i64 (i65)), (Value.int .i64 (i66))] h69 rfl rfl TF.sz_146 hst ?_)
    refine Run.region_end ?_
    refine Run.seqJ (fun e h74 => ∃ a71 : Option Addr, ∃ n72 : Nat, ∃ c73 : Nat, Agree [(3, (Value.pointer (some ⟨k8, 0, none⟩))), (4, (Value.pointer (some ⟨k18, 0, none⟩))), (5, (Value.pointer (some ⟨k21, 0, none⟩))), (6, (Value.slice a71 n72 c73)), (25, (Value.slice a1 n2 c3)), (26, (Value.int .i64 ((n2 : Nat)))), (27, (Value.int .i64 (i55)))] e ∧ S_countermandlaw17_MarkPops_J2 B a1 n2 c3 k8 k18 k21 i55 m57 J60 a71 n72 c73 h74 Q) ?_ fun j70 => ?_
    ·rintro e h74 ⟨a71, n72, c73, hag, hS⟩
     refine Run.env hag ?_; clear hag
     refine Run.seq ?_
     refine Run.ops0 (idx := [0, 1, 2, 3, 4, 5, 6, 7, 8, 9, 10]) rfl ?_
     obtain ⟨p75, p76, p77, i78, i79, i80, i81, hl, hS⟩ := hS
     refine Run.go rfl rfl rfl (sem_loadN ⟨k18, 0, none⟩ [(Value.pointer p75), (Value.pointer p76), (Value.pointer p77), (Value.int .i64 (i78)), (Value.int .i64 (i79)), (Value.int .i64 (i80)), (Value.int .i64 (i81))] rfl TF.agg_140 TF.sz_140 hl ?_)
     obtain ⟨a82, n83, c84, i85, i86, hl, hS⟩ := hS
     refine Run.go rfl rfl rfl (sem_loadN ⟨k21, 0, none⟩ [(Value.slice a82 n83 c84), (Value.int .i64 (i85)), (Value.int .i64 (i86))] rfl TF.agg_144 TF.sz_144 hl ?_)
     refine Run.go rfl rfl rfl (sem_callL [(Value.agg #[(Value.pointer p75), (Value.pointer p76), (Value.pointer p77), (Value.int .i64 (i78)), (Value.int .i64 (i79)), (Value.int .i64 (i80)), (Value.int .i64 (i81))]), (Value.agg #[(Value.slice a82 n83 c84), (Value.int .i64 (i85)), (Value.int .i64 (i86))])] (TF.goes_80) rfl rfl (Spec.mono hS fun v h87 hv => ?_))
     obtain ⟨b88, rfl, hS⟩ := hv
     obtain ⟨hT, hF⟩ := hS
     cases b88
     ·have hS := hF rfl; clear hT hF
      refine Run.go rfl rfl rfl (sem_not false rfl ?_)
      refine Run.go rfl rfl rfl (sem_move ((Value.bool true)) rfl ?_)
      refine Run.no rfl rfl rfl ?_
      refine Run.no rfl rfl rfl ?_
      refine Run.no rfl rfl rfl ?_
      refine Run.no rfl rfl rfl ?_
      refine Run.no rfl rfl rfl ?_
      refine Run.go rfl rfl rfl (sem_pick true ((Value.bool true)) rfl rfl ?_)
      refine Run.region_end ?_
      refine Run.condT rfl ?_
      refine Run.seq ?_
      refine Run.ops0 (idx := [0]) rfl ?_
      refine Run.go rfl rfl rfl (sem_assign ((Value.bool false)) rfl ?_)
      refine Run.region_end ?_
      refine Run.ret ⟨.inr rfl, ?_⟩
      exact hS.imp fun h' hq => ⟨(false), rfl, hq⟩
     ·have hS := hT rfl; clear hT hF
      refine Run.go rfl rfl rfl (sem_not true rfl ?_)
      refine Run.go rfl rfl rfl (sem_move ((Value.bool false)) rfl ?_)
      refine Run.go rfl rfl rfl (sem_move ((Value.pointer (some ⟨k8, 0, none⟩))) rfl ?_)
      refine Run.go rfl rfl rfl (sem_callL [(Value.pointer (some ⟨k8, 0, none⟩))] (TF.goes_82) rfl rfl (Spec.mono hS fun v h89 hv => ?_))
      obtain ⟨i90, rfl, hS⟩ := hv
      refine Run.go rfl rfl rfl (sem_move ((Value.slice a71 n72 c73)) rfl ?_)
      refine Run.go rfl rfl rfl (sem_lenSl a71 n72 c73 rfl TF.sl_145 ?_)
      obtain ⟨hT, hF⟩ := hS
      by_cases hb91 : (i90 : Int) = (n72 : Nat)
      ·have hS := hT hb91; clear hT hF
       refine Run.go rfl rfl rfl (sem_binI .i64 (i90) ((n72 : Nat)) (.bool false) rfl rfl (binI_neq_t hb91) ?_)
       refine Run.go rfl rfl rfl (sem_pick false ((Value.bool false)) rfl rfl ?_)
       refine Run.region_end ?_
       refine Run.condF rfl ?_
       refine Run.skip ?_
       refine Run.inBlock ?_
       refine Run.ops0 (idx := [0, 1]) rfl ?_
       refine Run.go rfl rfl rfl (sem_binI .i64 (i55) (1) ((Value.int .i64 (IntKind.wrap .i64 ((i55) + (1))))) rfl rfl rfl ?_)
       refine Run.go rfl rfl rfl (sem_move ((Value.int .i64 (IntKind.wrap .i64 ((i55) + (1))))) rfl ?_)
       refine Run.region_end ?_
       exact Run.of_fin (hS.imp fun h' ⟨m', hm, hS⟩ => ih59 (a71, n72, c73, (IntKind.wrap .i64 ((i55) + (1))), m') _ _ ⟨hS, ⟨rfl, rfl, rfl, rfl, rfl, rfl, rfl, trivial⟩⟩ hm)
      ·have hS := hF hb91; clear hT hF
       refine Run.go rfl rfl rfl (sem_binI .i64 (i90) ((n72 : Nat)) (.bool true) rfl rfl (binI_neq_f hb91) ?_)
       refine Run.go rfl rfl rfl (sem_pick false ((Value.bool true)) rfl rfl ?_)
       refine Run.region_end ?_
       refine Run.condT rfl ?_
       refine Run.seq ?_
       refine Run.ops0 (idx := [0]) rfl ?_
       refine Run.go rfl rfl rfl (sem_assign ((Value.bool false)) rfl ?_)
       refine Run.region_end ?_
       refine Run.ret ⟨.inr rfl, ?_⟩
       exact hS.imp fun h' hq => ⟨(false), rfl, hq⟩
    refine Run.seq ?_
    refine Run.ops0 (idx := [0, 1]) rfl ?_
    refine Run.go rfl rfl rfl (sem_fieldAddr ⟨k67, 0, none⟩ 0 rfl TF.fld_146_0 ?_)
    obtain ⟨i92, hl, hS⟩ := hS
    refine Run.go rfl rfl rfl (sem_load1 ⟨k67, 0, none⟩ ((Value.int .i64 (i92))) rfl TF.agg_3 hl ?_)
    refine Run.region_end ?_
    refine Run.block ?_
    refine Run.seq ?_
    refine Run.ops0 (idx := [0, 1]) rfl ?_
    obtain ⟨hT, hF⟩ := hS
    by_cases hb93 : (i92 : Int) = 0
    ·have hS := hT hb93; clear hT hF
     refine Run.go rfl rfl rfl (sem_binI .i64 (i92) (0) (.bool true) rfl rfl (binI_eql_t hb93) ?_)
     refine Run.go rfl rfl rfl (sem_assign ((Value.bool true)) rfl ?_)
     refine Run.region_end ?_
     refine Run.condT rfl ?_
     refine Run.seq ?_
     refine Run.ops0 (idx := [0, 1, 2, 3, 4, 5, 6]) rfl ?_
     refine Run.go rfl rfl rfl (sem_fieldAddr ⟨k18, 0, none⟩ 0 rfl TF.fld_140_0 ?_)
     obtain ⟨p94, hl, hS⟩ := hS
     refine Run.go rfl rfl rfl (sem_load1 ⟨k18, 0, none⟩ ((Value.pointer p94)) rfl TF.agg_135 hl ?_)
     refine Run.go rfl rfl rfl (sem_fieldAddr ⟨k67, 0, none⟩ 1 rfl TF.fld_146_1 ?_)
     obtain ⟨i95, hl, hS⟩ := hS
     refine Run.go rfl rfl rfl (sem_load1 ⟨k67, 1, none⟩ ((Value.int .i64 (i95))) rfl TF.agg_3 hl ?_)
     refine Run.go rfl rfl rfl (sem_fieldAddr ⟨k67, 0, none⟩ 2 rfl TF.fld_146_2 ?_)
     obtain ⟨i96, hl, hS⟩ := hS
     refine Run.go rfl rfl rfl (sem_load1 ⟨k67, 2, none⟩ ((Value.int .i64 (i96))) rfl TF.agg_3 hl ?_)
     refine Run.go rfl rfl rfl (sem_callL [(Value.pointer p94), (Value.int .i64 (i95)), (Value.int .i64 (i96))] (TF.goes_75) rfl rfl (Spec.mono hS fun v h97 hv => ?_))
     obtain ⟨b98, rfl, hS⟩ := hv
     refine Run.region_end ?_
     skip
     obtain ⟨a100, n101, c102, hl, hS⟩ := hS
     have f103 := hl
     skip
     obtain ⟨i105, hl, hS⟩ := hS
     have f106 := hl
     skip
     obtain ⟨i108, hl, hS⟩ := hS
     have f109 := hl
     skip
     refine Run.drawM (fun h' => cellH B h' ⟨k21, 0, none⟩ = some (Value.slice a100 n101 c102) ∧ cellH B h' ⟨k67, 1, none⟩ = some (Value.int .i64 (i105)) ∧ cellH B h' ⟨k67, 2, none⟩ = some (Value.int .i64 (i108)) ∧ True) [12] ⟨[0, 0, 2, 5, 0, 16, 0, 64, 160, 256, 520, 2047, 4095], [8191, 8191, 8189, 8186, 8191, 8175, 8191, 8127, 8031, 7935, 7671, 8191, 5119], [0, 0, 2, 7, 0, 16, 0, 64, 240, 496, 1023, 2047, 4095], 4096⟩ (.q 1 (.q 2 (.q 4 (.q 5 (.q 6 (.q 7 (.q 8 (.x 0 (.x 3 (.x 9 (.x 10 (.q 11 (.x 12 .nil .no)) .no) .no) (.x 9 (.x 3 (.x 10 (.q 11 (.x 12 .nil .no)) .no) .no) .no)) (.x 9 (.x 0 (.x 3 (.x 10 (.q 11 (.x 12 .nil .no)) .no) .no) .no) .no))))))))) TF.mixed (by kernel_rfl) ⟨f103, f106, f109, trivial⟩ ?_
     refine RunT.quiet rfl rfl rfl (fun h' hC => sem_fieldAddr ⟨k21, 0, none⟩ 0 rfl TF.fld_144_0 ⟨rfl, rfl⟩) ?_
     refine RunT.quiet rfl rfl rfl (fun h' hC => sem_load1 ⟨k21, 0, none⟩ ((Value.slice a100 n101 c102)) rfl TF.agg_142 hC.1 ⟨rfl, rfl⟩) ?_
     refine RunT.quiet rfl rfl rfl (fun h' hC => sem_fieldAddr ⟨k67, 0, none⟩ 1 rfl TF.fld_146_1 ⟨rfl, rfl⟩) ?_
     refine RunT.quiet rfl rfl rfl (fun h' hC => sem_load1 ⟨k67, 1, none⟩ ((Value.int .i64 (i105))) rfl TF.agg_3 hC.2.1 ⟨rfl, rfl⟩) ?_
     refine RunT.quiet rfl rfl rfl (fun h' hC => sem_fieldAddr ⟨k67, 0, none⟩ 2 rfl TF.fld_146_2 ⟨rfl, rfl⟩) ?_
     refine RunT.quiet rfl rfl rfl (fun h' hC => sem_load1 ⟨k67, 2, none⟩ ((Value.int .i64 (i108))) rfl TF.agg_3 hC.2.2.1 ⟨rfl, rfl⟩) ?_
     refine RunT.quiet rfl rfl rfl (fun h' hC => sem_buildSL [(0, (Value.int .i64 (i105))), (1, (Value.int .i64 (i108)))] [(Value.int .i64 (i105)), (Value.int .i64 (i108))] TF.zero_148 TF.places_148 rfl rfl ⟨rfl, rfl⟩) ?_
     refine RunT.joinJ (t := (.x 10 (.q 11 (.x 12 .nil .no)) .no)) (fun e h164 => ∃ a158 : Option Addr, ∃ n159 : Nat, ∃ c160 : Nat, ∃ a161 : Option Addr, ∃ n162 : Nat, ∃ c163 : Nat, Agree [(3, (Value.pointer (some ⟨k8, 0, none⟩))), (4, (Value.pointer (some ⟨k18, 0, none⟩))), (5, (Value.pointer (some ⟨k21, 0, none⟩))), (6, (Value.slice a52 n53 c54)), (25, (Value.slice a1 n2 c3)), (26, (Value.int .i64 ((n2 : Nat)))), (27, (Value.int .i64 (i55))), (45, (Value.slice a158 n159 c160)), (51, (Value.slice a161 n162 c163))] e ∧ cellH B h164 ⟨k21, 0, none⟩ = some (Value.slice a100 n101 c102) ∧ cellH B h164 ⟨k67, 1, none⟩ = some (Value.int .i64 (i105)) ∧ cellH B h164 ⟨k67, 2, none⟩ = some (Value.int .i64 (i108)) ∧ S_countermandlaw17_MarkPops_J3 B a1 n2 c3 k8 k18 k21 a52 n53 c54 i55 m57 J60 k67 a100 n101 c102 i105 i108 a158 n159 c160 a161 n162 c163 h164 Q) ?_ fun j157 => ?_
     ·rintro e h164 ⟨a158, n159, c160, a161, n162, c163, hag, g165, g166, g167, hS⟩
      refine RunT.env hag ?_; clear hag
      refine ⟨?_, trivial⟩
      refine OpH.go rfl rfl rfl (sem_appendL [(Value.slice a158 n159 c160), (Value.slice a161 n162 c163)] rfl (semH_mono (fun v h168 hv => ?_) hS))
      obtain ⟨a169, n170, c171, rfl, hS⟩ := hv
      obtain ⟨g172, g173, g174, hS⟩ := hS
      refine ⟨fun _ => ⟨g172, g173, g174, trivial⟩, ?_⟩
      refine RunT.quiet rfl rfl rfl (fun h' hC => sem_fieldAddr ⟨k21, 0, none⟩ 0 rfl TF.fld_144_0 ⟨rfl, rfl⟩) ?_
      refine ⟨?_, trivial⟩
      obtain ⟨h175, hst, hS⟩ := hS
      refine OpH.go rfl rfl rfl (sem_store1 ⟨k21, 0, none⟩ ((Value.slice a169 n170 c171)) h175 rfl rfl rfl TF.sz_142 hst ?_)
      refine ⟨fun hz => Bool.noConfusion hz, ?_⟩
      refine Run.inBlock ?_
      exact Run.of_fin (hS.imp fun h' hS => j70 _ _ ⟨a52, n53, c54, ⟨rfl, rfl, rfl, rfl, rfl, rfl, rfl, trivial⟩, hS⟩)
     refine ⟨?_, ?_, trivial⟩
     ·have hS := hS.1
      refine OpH.go rfl rfl rfl (sem_buildSlice0N TF.slc_142 (fun k176 hb1 hb2 h177 hb3 => ?_))
      have hS := hS k176 hb1 hb2 h177 hb3
      obtain ⟨g178, g179, g180, hS⟩ := hS
      refine ⟨fun _ => ⟨g178, g179, g180, trivial⟩, ?_⟩
      refine ⟨?_, ?_, trivial⟩
      ·have hS := hS.1
       refine OpH.go rfl rfl rfl (sem_appendL [(Value.slice (some ⟨k176, 0, none⟩) 0 0), (Value.slice a100 n101 c102)] rfl (semH_mono (fun v h181 hv => ?_) hS))
       obtain ⟨a182, n183, c184, rfl, hS⟩ := hv
       obtain ⟨g185, g186, g187, hS⟩ := hS
       refine ⟨fun _ => ⟨g185, g186, g187, trivial⟩, ?_⟩
       refine ⟨?_, trivial⟩
       refine OpH.go rfl rfl rfl (sem_buildSliceL [(0, (Value.agg #[(Value.int .i64 (i105)), (Value.int .i64 (i108))]))] [(Value.int .i64 (i105)), (Value.int .i64 (i108))] TF.slc_142 TF.zero_148 rfl (by decide) (by decide) rfl rfl (fun k188 hb1 hb2 h189 hb3 => ?_))
       have hS := hS k188 hb1 hb2 h189 hb3
       obtain ⟨g190, g191, g192, hS⟩ := hS
       refine ⟨fun _ => ⟨g190, g191, g192, trivial⟩, ?_⟩
       exact j157 _ _ ⟨a182, n183, c184, (some ⟨k188, 0, none⟩), 1, 1, ⟨rfl, rfl, rfl, rfl, rfl, rfl, rfl, rfl, rfl, trivial⟩, g190, g191, g192, hS⟩
      ·have hS := hS.2
       refine OpH.go rfl rfl rfl (sem_buildSliceL [(0, (Value.agg #[(Value.int .i64 (i105)), (Value.int .i64 (i108))]))] [(Value.int .i64 (i105)), (Value.int .i64 (i108))] TF.slc_142 TF.zero_148 rfl (by decide) (by decide) rfl rfl (fun k193 hb1 hb2 h194 hb3 => ?_))
       have hS := hS k193 hb1 hb2 h194 hb3
       obtain ⟨g195, g196, g197, hS⟩ := hS
       refine ⟨fun _ => ⟨g195, g196, g197, trivial⟩, ?_⟩
       refine ⟨?_, trivial⟩
       refine OpH.go rfl rfl rfl (sem_appendL [(Value.slice (some ⟨k176, 0, none⟩) 0 0), (Value.slice a100 n101 c102)] rfl (semH_mono (fun v h198 hv => ?_) hS))
       obtain ⟨a199, n200, c201, rfl, hS⟩ := hv
       obtain ⟨g202, g203, g204, hS⟩ := hS
       refine ⟨fun _ => ⟨g202, g203, g204, trivial⟩, ?_⟩
       exact j157 _ _ ⟨a199, n200, c201, (some ⟨k193, 0, none⟩), 1, 1, ⟨rfl, rfl, rfl, rfl, rfl, rfl, rfl, rfl, rfl, trivial⟩, g202, g203, g204, hS⟩
     ·have hS := hS.2
      refine OpH.go rfl rfl rfl (sem_buildSliceL [(0, (Value.agg #[(Value.int .i64 (i105)), (Value.int .i64 (i108))]))] [(Value.int .i64 (i105)), (Value.int .i64 (i108))] TF.slc_142 TF.zero_148 rfl (by decide) (by decide) rfl rfl (fun k205 hb1 hb2 h206 hb3 => ?_))
      have hS := hS k205 hb1 hb2 h206 hb3
      obtain ⟨g207, g208, g209, hS⟩ := hS
      refine ⟨fun _ => ⟨g207, g208, g209, trivial⟩, ?_⟩
      refine ⟨?_, trivial⟩
      refine OpH.go rfl rfl rfl (sem_buildSlice0N TF.slc_142 (fun k210 hb1 hb2 h211 hb3 => ?_))
      have hS := hS k210 hb1 hb2 h211 hb3
      obtain ⟨g212, g213, g214, hS⟩ := hS
      refine ⟨fun _ => ⟨g212, g213, g214, trivial⟩, ?_⟩
      refine ⟨?_, trivial⟩
      refine OpH.go rfl rfl rfl (sem_appendL [(Value.slice (some ⟨k210, 0, none⟩) 0 0), (Value.slice a100 n101 c102)] rfl (semH_mono (fun v h215 hv => ?_) hS))
      obtain ⟨a216, n217, c218, rfl, hS⟩ := hv
      obtain ⟨g219, g220, g221, hS⟩ := hS
      refine ⟨fun _ => ⟨g219, g220, g221, trivial⟩, ?_⟩
      exact j157 _ _ ⟨a216, n217, c218, (some ⟨k205, 0, none⟩), 1, 1, ⟨rfl, rfl, rfl, rfl, rfl, rfl, rfl, rfl, rfl, trivial⟩, g219, g220, g221, hS⟩
    ·have hS := hF hb93; clear hT hF
     refine Run.go rfl rfl rfl (sem_binI .i64 (i92) (0) (.bool false) rfl rfl (binI_eql_f hb93) ?_)
     refine Run.go rfl rfl rfl (sem_assign ((Value.bool false)) rfl ?_)
     refine Run.region_end ?_
     refine Run.condF rfl ?_
     refine Run.seq ?_
     refine Run.ops0 (idx := [0, 1]) rfl ?_
     obtain ⟨hT, hF⟩ := hS
     by_cases hb222 : (i92 : Int) = 1
     ·have hS := hT hb222; clear hT hF
      refine Run.go rfl rfl rfl (sem_binI .i64 (i92) (1) (.bool true) rfl rfl (binI_eql_t hb222) ?_)
      refine Run.go rfl rfl rfl (sem_assign ((Value.bool true)) rfl ?_)
      refine Run.region_end ?_
      refine Run.condT rfl ?_
      refine Run.seq ?_
      refine Run.ops0 (idx := [0, 1, 2]) rfl ?_
      refine Run.go rfl rfl rfl (sem_fieldAddr ⟨k18, 0, none⟩ 2 rfl TF.fld_140_2 ?_)
      obtain ⟨p223, hl, hS⟩ := hS
      refine Run.go rfl rfl rfl (sem_load1 ⟨k18, 2, none⟩ ((Value.pointer p223)) rfl TF.agg_137 hl ?_)
      refine Run.go rfl rfl rfl (sem_callL [(Value.pointer p223), (Value.int .i64 (0))] (TF.goes_76) rfl rfl (Spec.mono hS fun v h224 hv => ?_))
      obtain ⟨b225, rfl, hS⟩ := hv
      obtain ⟨hT, hF⟩ := hS
      cases b225
      ·have hS := hF rfl; clear hT hF
       refine Run.region_end ?_
       refine Run.condF rfl ?_
       refine Run.skip ?_
       refine Run.inBlock ?_
       exact Run.of_fin (hS.imp fun h' hS => j70 _ _ ⟨a52, n53, c54, ⟨rfl, rfl, rfl, rfl, rfl, rfl, rfl, trivial⟩, hS⟩)
      ·have hS := hT rfl; clear hT hF
       refine Run.region_end ?_
       refine Run.condT rfl ?_
       refine Run.ops0 (idx := [0, 1, 2, 3, 4]) rfl ?_
       refine Run.go rfl rfl rfl (sem_fieldAddr ⟨k21, 0, none⟩ 1 rfl TF.fld_144_1 ?_)
       obtain ⟨i226, hl, hS⟩ := hS
       refine Run.go rfl rfl rfl (sem_load1 ⟨k21, 1, none⟩ ((Value.int .i64 (i226))) rfl TF.agg_3 hl ?_)
       refine Run.go rfl rfl rfl (sem_binI .i64 (i226) (1) ((Value.int .i64 (IntKind.wrap .i64 ((i226) + (1))))) rfl rfl rfl ?_)
       refine Run.go rfl rfl rfl (sem_fieldAddr ⟨k21, 0, none⟩ 1 rfl TF.fld_144_1 ?_)
       obtain ⟨h227, hst, hS⟩ := hS
       refine Run.go rfl rfl rfl (sem_store1 ⟨k21, 1, none⟩ ((Value.int .i64 (IntKind.wrap .i64 ((i226) + (1))))) h227 rfl rfl rfl TF.sz_3 hst ?_)
       refine Run.region_end ?_
       refine Run.inBlock ?_
       exact Run.of_fin (hS.imp fun h' hS => j70 _ _ ⟨a52, n53, c54, ⟨rfl, rfl, rfl, rfl, rfl, rfl, rfl, trivial⟩, hS⟩)
     ·have hS := hF hb222; clear hT hF
      refine Run.go rfl rfl rfl (sem_binI .i64 (i92) (1) (.bool false) rfl rfl (binI_eql_f hb222) ?_)
      refine Run.go rfl rfl rfl (sem_assign ((Value.bool false)) rfl ?_)
      refine Run.region_end ?_
      refine Run.condF rfl ?_
      refine Run.seq ?_
      refine Run.ops0 (idx := [0, 1]) rfl ?_
      obtain ⟨hT, hF⟩ := hS
      by_cases hb228 : (i92 : Int) = 2
      ·have hS := hT hb228; clear hT hF
       refine Run.go rfl rfl rfl (sem_binI .i64 (i92) (2) (.bool true) rfl rfl (binI_eql_t hb228) ?_)
       refine Run.go rfl rfl rfl (sem_assign ((Value.bool true)) rfl ?_)
       refine Run.region_end ?_
       refine Run.condT rfl ?_
       refine Run.seq ?_
       refine Run.ops0 (idx := [0, 1, 2, 3, 4]) rfl ?_
       refine Run.go rfl rfl rfl (sem_fieldAddr ⟨k67, 0, none⟩ 1 rfl TF.fld_146_1 ?_)
       obtain ⟨i229, hl, hS⟩ := hS
       refine Run.go rfl rfl rfl (sem_load1 ⟨k67, 1, none⟩ ((Value.int .i64 (i229))) rfl TF.agg_3 hl ?_)
       refine Run.go rfl rfl rfl (sem_fieldAddr ⟨k18, 0, none⟩ 3 rfl TF.fld_140_3 ?_)
       obtain ⟨hi0, hi1, hS⟩ := hS
       refine Run.go rfl rfl rfl (sem_indexAddrA ⟨k18, 3, none⟩ .i64 (0) rfl rfl TF.arr_138 hi0 hi1 ?_)
       obtain ⟨h230, hst, hS⟩ := hS
       refine Run.go rfl rfl rfl (sem_store1 ⟨k18, 3, none⟩ ((Value.int .i64 (i229))) h230 rfl rfl rfl TF.sz_3 hst ?_)
       refine Run.region_end ?_
       refine Run.ops0 (idx := [0, 1, 2, 3]) rfl ?_
       refine Run.go rfl rfl rfl (sem_fieldAddr ⟨k67, 0, none⟩ 1 rfl TF.fld_146_1 ?_)
       obtain ⟨i231, hl, hS⟩ := hS
       refine Run.go rfl rfl rfl (sem_load1 ⟨k67, 1, none⟩ ((Value.int .i64 (i231))) rfl TF.agg_3 hl ?_)
       refine Run.go rfl rfl rfl (sem_fieldAddr ⟨k21, 0, none⟩ 2 rfl TF.fld_144_2 ?_)
       obtain ⟨h232, hst, hS⟩ := hS
       refine Run.go rfl rfl rfl (sem_store1 ⟨k21, 2, none⟩ ((Value.int .i64 (i231))) h232 rfl rfl rfl TF.sz_3 hst ?_)
       refine Run.region_end ?_
       refine Run.inBlock ?_
       exact Run.of_fin (hS.imp fun h' hS => j70 _ _ ⟨a52, n53, c54, ⟨rfl, rfl, rfl, rfl, rfl, rfl, rfl, trivial⟩, hS⟩)
      ·have hS := hF hb228; clear hT hF
       refine Run.go rfl rfl rfl (sem_binI .i64 (i92) (2) (.bool false) rfl rfl (binI_eql_f hb228) ?_)
       refine Run.go rfl rfl rfl (sem_assign ((Value.bool false)) rfl ?_)
       refine Run.region_end ?_
       refine Run.condF rfl ?_
       refine Run.seq ?_
       refine Run.ops0 (idx := [0, 1]) rfl ?_
       obtain ⟨hT, hF⟩ := hS
       by_cases hb233 : (i92 : Int) = 3
       ·have hS := hT hb233; clear hT hF
        refine Run.go rfl rfl rfl (sem_binI .i64 (i92) (3) (.bool true) rfl rfl (binI_eql_t hb233) ?_)
        refine Run.go rfl rfl rfl (sem_assign ((Value.bool true)) rfl ?_)
        refine Run.region_end ?_
        refine Run.condT rfl ?_
        refine Run.seq ?_
        refine Run.ops0 (idx := [0, 1, 2, 3, 4, 5, 6, 7, 8, 9, 10]) rfl ?_
        refine Run.go rfl rfl rfl (sem_move ((Value.pointer (some ⟨k8, 0, none⟩))) rfl ?_)
        obtain ⟨p234, p235, p236, i237, i238, i239, i240, hl, hS⟩ := hS
        refine Run.go rfl rfl rfl (sem_loadN ⟨k18, 0, none⟩ [(Value.pointer p234), (Value.pointer p235), (Value.pointer p236), (Value.int .i64 (i237)), (Value.int .i64 (i238)), (Value.int .i64 (i239)), (Value.int .i64 (i240))] rfl TF.agg_140 TF.sz_140 hl ?_)
        refine Run.go rfl rfl rfl (sem_fieldAddr ⟨k67, 0, none⟩ 2 rfl TF.fld_146_2 ?_)
        obtain ⟨i241, hl, hS⟩ := hS
        refine Run.go rfl rfl rfl (sem_load1 ⟨k67, 2, none⟩ ((Value.int .i64 (i241))) rfl TF.agg_3 hl ?_)
        refine Run.go rfl rfl rfl (sem_fieldAddr ⟨k67, 0, none⟩ 1 rfl TF.fld_146_1 ?_)
        obtain ⟨i242, hl, hS⟩ := hS
        refine Run.go rfl rfl rfl (sem_load1 ⟨k67, 1, none⟩ ((Value.int .i64 (i242))) rfl TF.agg_3 hl ?_)
        refine Run.go rfl rfl rfl (sem_buildAL [(0, (Value.int .i64 (i241))), (1, (Value.int .i64 (i242)))] [(Value.int .i64 (i241)), (Value.int .i64 (i242)), (Value.int .i64 (0)), (Value.int .i64 (0))] TF.zero_42 TF.arr_42 rfl rfl ?_)
        refine Run.go rfl rfl rfl (sem_fieldAddr ⟨k67, 0, none⟩ 1 rfl TF.fld_146_1 ?_)
        obtain ⟨i243, hl, hS⟩ := hS
        refine Run.go rfl rfl rfl (sem_load1 ⟨k67, 1, none⟩ ((Value.int .i64 (i243))) rfl TF.agg_3 hl ?_)
        refine Run.go rfl rfl rfl (sem_buildSL [(0, (Value.agg #[(Value.pointer p234), (Value.pointer p235), (Value.pointer p236), (Value.int .i64 (i237)), (Value.int .i64 (i238)), (Value.int .i64 (i239)), (Value.int .i64 (i240))])), (1, (Value.agg #[(Value.int .i64 (i241)), (Value.int .i64 (i242)), (Value.int .i64 (0)), (Value.int .i64 (0))])), (2, (Value.int .i64 (i243)))] [(Value.pointer p234), (Value.pointer p235), (Value.pointer p236), (Value.int .i64 (i237)), (Value.int .i64 (i238)), (Value.int .i64 (i239)), (Value.int .i64 (i240)), (Value.int .i64 (i241)), (Value.int .i64 (i242)), (Value.int .i64 (0)), (Value.int .i64 (0)), (Value.int .i64 (i243))] TF.zero_151 TF.places_151 rfl rfl ?_)
        refine Run.go rfl rfl rfl (sem_callL [(Value.pointer (some ⟨k8, 0, none⟩)), (Value.agg #[(Value.pointer p234), (Value.pointer p235), (Value.pointer p236), (Value.int .i64 (i237)), (Value.int .i64 (i238)), (Value.int .i64 (i239)), (Value.int .i64 (i240)), (Value.int .i64 (i241)), (Value.int .i64 (i242)), (Value.int .i64 (0)), (Value.int .i64 (0)), (Value.int .i64 (i243))])] (TF.goes_77) rfl rfl (Spec.mono hS fun v h244 hv => ?_))
        obtain ⟨b245, rfl, hS⟩ := hv
        refine Run.region_end ?_
        skip
        obtain ⟨a247, n248, c249, i250, i251, hl, hS⟩ := hS
        have f252 := hl
        skip
        obtain ⟨i254, hl, hS⟩ := hS
        have f255 := hl
        refine Run.drawM (fun h' => CellsAt B h' ⟨k21, 0, none⟩ 0 [(Value.slice a247 n248 c249), (Value.int .i64 (i250)), (Value.int .i64 (i251))] ∧ cellH B h' ⟨k67, 1, none⟩ = some (Value.int .i64 (i254)) ∧ True) [] ⟨[0, 0, 2, 0, 8, 20, 32, 69, 255], [511, 511, 509, 511, 503, 491, 479, 446, 382], [0, 0, 0, 0, 0, 0, 0, 0, 0], 0⟩ (.q 0 (.q 1 (.q 3 (.q 4 (.x 2 (.q 5 (.x 6 (.x 7 (.q 8 .nil) .no) .no)) .no))))) TF.mixed (by kernel_rfl) ⟨f252, f255, trivial⟩ ?_
        refine RunT.quiet rfl rfl rfl (fun h' hC => sem_move ((Value.slice a52 n53 c54)) rfl ⟨rfl, rfl⟩) ?_
        refine RunT.quiet rfl rfl rfl (fun h' hC => sem_loadN ⟨k21, 0, none⟩ [(Value.slice a247 n248 c249), (Value.int .i64 (i250)), (Value.int .i64 (i251))] rfl TF.agg_144 TF.sz_144 hC.1 ⟨rfl, rfl⟩) ?_
        refine RunT.quiet rfl rfl rfl (fun h' hC => sem_fieldAddr ⟨k67, 0, none⟩ 1 rfl TF.fld_146_1 ⟨rfl, rfl⟩) ?_
        refine RunT.quiet rfl rfl rfl (fun h' hC => sem_load1 ⟨k67, 1, none⟩ ((Value.int .i64 (i254))) rfl TF.agg_3 hC.2.1 ⟨rfl, rfl⟩) ?_
        refine ⟨?_, trivial⟩
        refine OpH.go rfl rfl rfl (sem_callL [(Value.agg #[(Value.slice a247 n248 c249), (Value.int .i64 (i250)), (Value.int .i64 (i251))])] (TF.goes_78) rfl rfl (Spec.mono hS fun v h256 hv => ?_))
        obtain ⟨a257, n258, c259, i260, i261, rfl, hS⟩ := hv
        obtain ⟨g262, g263, hS⟩ := hS
        refine ⟨fun _ => ⟨g262, g263, trivial⟩, ?_⟩
        refine RunT.quiet rfl rfl rfl (fun h' hC => sem_buildSL [(0, (Value.agg #[(Value.slice a257 n258 c259), (Value.int .i64 (i260)), (Value.int .i64 (i261))])), (1, (Value.int .i64 (i254)))] [(Value.slice a257 n258 c259), (Value.int .i64 (i260)), (Value.int .i64 (i261)), (Value.int .i64 (i254))] TF.zero_154 TF.places_154 rfl rfl ⟨rfl, rfl⟩) ?_
        refine ⟨?_, trivial⟩
        refine OpH.go rfl rfl rfl (sem_buildSliceL [(0, (Value.agg #[(Value.slice a257 n258 c259), (Value.int .i64 (i260)), (Value.int .i64 (i261)), (Value.int .i64 (i254))]))] [(Value.slice a257 n258 c259), (Value.int .i64 (i260)), (Value.int .i64 (i261)), (Value.int .i64 (i254))] TF.slc_145 TF.zero_154 rfl (by decide) (by decide) rfl rfl (fun k264 hb1 hb2 h265 hb3 => ?_))
        have hS := hS k264 hb1 hb2 h265 hb3
        obtain ⟨g266, g267, hS⟩ := hS
        refine ⟨fun _ => ⟨g266, g267, trivial⟩, ?_⟩
        refine ⟨?_, trivial⟩
        refine OpH.go rfl rfl rfl (sem_appendL [(Value.slice a52 n53 c54), (Value.slice (some ⟨k264, 0, none⟩) 1 1)] rfl (semH_mono (fun v h268 hv => ?_) hS))
        obtain ⟨a269, n270, c271, rfl, hS⟩ := hv
        obtain ⟨g272, g273, hS⟩ := hS
        refine ⟨fun _ => ⟨g272, g273, trivial⟩, ?_⟩
        refine RunT.quiet rfl rfl rfl (fun h' hC => sem_assign ((Value.slice a269 n270 c271)) rfl ⟨rfl, rfl⟩) ?_
        refine Run.inBlock ?_
        exact Run.of_fin (hS.imp fun h' hS => j70 _ _ ⟨a269, n270, c271, ⟨rfl, rfl, rfl, rfl, rfl, rfl, rfl, trivial⟩, hS⟩)
       ·have hS := hF hb233; clear hT hF
        refine Run.go rfl rfl rfl (sem_binI .i64 (i92) (3) (.bool false) rfl rfl (binI_eql_f hb233) ?_)
        refine Run.go rfl rfl rfl (sem_assign ((Value.bool false)) rfl ?_)
        refine Run.region_end ?_
        refine Run.condF rfl ?_
        refine Run.seq ?_
        refine Run.ops0 (idx := [0, 1]) rfl ?_
        obtain ⟨hT, hF⟩ := hS
        by_cases hb274 : (i92 : Int) = 4
        ·have hS := hT hb274; clear hT hF
         refine Run.go rfl rfl rfl (sem_binI .i64 (i92) (4) (.bool true) rfl rfl (binI_eql_t hb274) ?_)
         refine Run.go rfl rfl rfl (sem_assign ((Value.bool true)) rfl ?_)
         refine Run.region_end ?_
         refine Run.condT rfl ?_
         refine Run.seq ?_
         refine Run.ops0 (idx := [0, 1, 2, 3, 4, 5, 6, 7]) rfl ?_
         refine Run.go rfl rfl rfl (sem_move ((Value.pointer (some ⟨k8, 0, none⟩))) rfl ?_)
         refine Run.go rfl rfl rfl (sem_callL [(Value.pointer (some ⟨k8, 0, none⟩))] (TF.goes_79) rfl rfl (Spec.mono hS fun v h275 hv => ?_))
         obtain ⟨p276, p277, p278, i279, i280, i281, i282, i283, i284, i285, i286, i287, b288, rfl, hS⟩ := hv
         refine Run.go rfl rfl rfl (sem_move ((Value.tuple #[(Value.agg #[(Value.pointer p276), (Value.pointer p277), (Value.pointer p278), (Value.int .i64 (i279)), (Value.int .i64 (i280)), (Value.int .i64 (i281)), (Value.int .i64 (i282)), (Value.int .i64 (i283)), (Value.int .i64 (i284)), (Value.int .i64 (i285)), (Value.int .i64 (i286)), (Value.int .i64 (i287))]), (Value.bool b288)])) rfl ?_)
         refine Run.go rfl rfl rfl (sem_extract #[(Value.agg #[(Value.pointer p276), (Value.pointer p277), (Value.pointer p278), (Value.int .i64 (i279)), (Value.int .i64 (i280)), (Value.int .i64 (i281)), (Value.int .i64 (i282)), (Value.int .i64 (i283)), (Value.int .i64 (i284)), (Value.int .i64 (i285)), (Value.int .i64 (i286)), (Value.int .i64 (i287))]), (Value.bool b288)] ((Value.agg #[(Value.pointer p276), (Value.pointer p277), (Value.pointer p278), (Value.int .i64 (i279)), (Value.int .i64 (i280)), (Value.int .i64 (i281)), (Value.int .i64 (i282)), (Value.int .i64 (i283)), (Value.int .i64 (i284)), (Value.int .i64 (i285)), (Value.int .i64 (i286)), (Value.int .i64 (i287))])) rfl rfl ?_)
         obtain ⟨hT, hF⟩ := hS
         cases b288
         ·have hS := hF rfl; clear hT hF
          refine Run.go rfl rfl rfl (sem_extract #[(Value.agg #[(Value.pointer p276), (Value.pointer p277), (Value.pointer p278), (Value.int .i64 (i279)), (Value.int .i64 (i280)), (Value.int .i64 (i281)), (Value.int .i64 (i282)), (Value.int .i64 (i283)), (Value.int .i64 (i284)), (Value.int .i64 (i285)), (Value.int .i64 (i286)), (Value.int .i64 (i287))]), (Value.bool false)] (.bool false) rfl rfl ?_)
          refine Run.go rfl rfl rfl (sem_allocN [(Value.pointer none), (Value.pointer none), (Value.pointer none), (Value.int .i64 (0)), (Value.int .i64 (0)), (Value.int .i64 (0)), (Value.int .i64 (0)), (Value.int .i64 (0)), (Value.int .i64 (0)), (Value.int .i64 (0)), (Value.int .i64 (0)), (Value.int .i64 (0))] TF.zero_151 (fun k289 hb1 hb2 h290 hb3 => ?_))
          have hS := hS k289 hb1 hb2 h290 hb3
          obtain ⟨h291, hst, hS⟩ := hS
          refine Run.go rfl rfl rfl (sem_storeN ⟨k289, 0, none⟩ [(Value.pointer p276), (Value.pointer p277), (Value.pointer p278), (Value.int .i64 (i279)), (Value.int .i64 (i280)), (Value.int .i64 (i281)), (Value.int .i64 (i282)), (Value.int .i64 (i283)), (Value.int .i64 (i284)), (Value.int .i64 (i285)), (Value.int .i64 (i286)), (Value.int .i64 (i287))] h291 rfl rfl TF.sz_151 hst ?_)
          refine Run.go rfl rfl rfl (sem_assign ((Value.bool false)) rfl ?_)
          refine Run.region_end ?_
          refine Run.seq ?_
          refine Run.seq ?_
          refine Run.ops0 (idx := [0, 1, 2, 3, 4]) rfl ?_
          refine Run.go rfl rfl rfl (sem_move ((Value.bool false)) rfl ?_)
          refine Run.go rfl rfl rfl (sem_move ((Value.slice a52 n53 c54)) rfl ?_)
          refine Run.go rfl rfl rfl (sem_lenSl a52 n53 c54 rfl TF.sl_145 ?_)
          refine Run.go rfl rfl rfl (sem_binI .i64 ((n53 : Nat)) (0) ((Value.bool (decide (((n53 : Nat) : Int) > (0))))) rfl rfl rfl ?_)
          obtain ⟨hT, hF⟩ := hS
          by_cases hb292 : false = (decide (((n53 : Nat) : Int) > (0)))
          ·have hS := hT hb292; clear hT hF
           refine Run.go rfl rfl rfl (sem_boolEqT false (decide (((n53 : Nat) : Int) > (0))) (.inr rfl) false rfl rfl TF.bool_4 hb292 rfl ?_)
           refine Run.region_end ?_
           refine Run.condF rfl ?_
           refine Run.skip ?_
           refine Run.seq ?_
           refine Run.seq ?_
           refine Run.ops0 (idx := [0, 1]) rfl ?_
           refine Run.go rfl rfl rfl (sem_move ((Value.bool false)) rfl ?_)
           refine Run.go rfl rfl rfl (sem_not false rfl ?_)
           refine Run.region_end ?_
           refine Run.condT rfl ?_
           refine Run.exit rfl ?_
           refine Run.ops0 (idx := [0, 1]) rfl ?_
           refine Run.go rfl rfl rfl (sem_binI .i64 (i55) (1) ((Value.int .i64 (IntKind.wrap .i64 ((i55) + (1))))) rfl rfl rfl ?_)
           refine Run.go rfl rfl rfl (sem_move ((Value.int .i64 (IntKind.wrap .i64 ((i55) + (1))))) rfl ?_)
           refine Run.region_end ?_
           exact Run.of_fin (hS.imp fun h' ⟨m', hm, hS⟩ => ih59 (a52, n53, c54, (IntKind.wrap .i64 ((i55) + (1))), m') _ _ ⟨hS, ⟨rfl, rfl, rfl, rfl, rfl, rfl, rfl, trivial⟩⟩ hm)
          ·have hS := hF hb292; clear hT hF
           refine Run.go rfl rfl rfl (sem_boolEqF false (decide (((n53 : Nat) : Int) > (0))) (.inr rfl) true rfl rfl TF.bool_4 hb292 rfl ?_)
           refine Run.region_end ?_
           refine Run.condT rfl ?_
           refine Run.seq ?_
           refine Run.ops0 (idx := [0]) rfl ?_
           refine Run.go rfl rfl rfl (sem_assign ((Value.bool false)) rfl ?_)
           refine Run.region_end ?_
           refine Run.ret ⟨.inr rfl, ?_⟩
           exact hS.imp fun h' hq => ⟨(false), rfl, hq⟩
         ·have hS := hT rfl; clear hT hF
          refine Run.go rfl rfl rfl (sem_extract #[(Value.agg #[(Value.pointer p276), (Value.pointer p277), (Value.pointer p278), (Value.int .i64 (i279)), (Value.int .i64 (i280)), (Value.int .i64 (i281)), (Value.int .i64 (i282)), (Value.int .i64 (i283)), (Value.int .i64 (i284)), (Value.int .i64 (i285)), (Value.int .i64 (i286)), (Value.int .i64 (i287))]), (Value.bool true)] (.bool true) rfl rfl ?_)
          refine Run.go rfl rfl rfl (sem_allocN [(Value.pointer none), (Value.pointer none), (Value.pointer none), (Value.int .i64 (0)), (Value.int .i64 (0)), (Value.int .i64 (0)), (Value.int .i64 (0)), (Value.int .i64 (0)), (Value.int .i64 (0)), (Value.int .i64 (0)), (Value.int .i64 (0)), (Value.int .i64 (0))] TF.zero_151 (fun k293 hb1 hb2 h294 hb3 => ?_))
          have hS := hS k293 hb1 hb2 h294 hb3
          obtain ⟨h295, hst, hS⟩ := hS
          refine Run.go rfl rfl rfl (sem_storeN ⟨k293, 0, none⟩ [(Value.pointer p276), (Value.pointer p277), (Value.pointer p278), (Value.int .i64 (i279)), (Value.int .i64 (i280)), (Value.int .i64 (i281)), (Value.int .i64 (i282)), (Value.int .i64 (i283)), (Value.int .i64 (i284)), (Value.int .i64 (i285)), (Value.int .i64 (i286)), (Value.int .i64 (i287))] h295 rfl rfl TF.sz_151 hst ?_)
          refine Run.go rfl rfl rfl (sem_assign ((Value.bool true)) rfl ?_)
          refine Run.region_end ?_
          refine Run.seq ?_
          refine Run.seq ?_
          refine Run.ops0 (idx := [0, 1, 2, 3, 4]) rfl ?_
          refine Run.go rfl rfl rfl (sem_move ((Value.bool true)) rfl ?_)
          refine Run.go rfl rfl rfl (sem_move ((Value.slice a52 n53 c54)) rfl ?_)
          refine Run.go rfl rfl rfl (sem_lenSl a52 n53 c54 rfl TF.sl_145 ?_)
          refine Run.go rfl rfl rfl (sem_binI .i64 ((n53 : Nat)) (0) ((Value.bool (decide (((n53 : Nat) : Int) > (0))))) rfl rfl rfl ?_)
          obtain ⟨hT, hF⟩ := hS
          by_cases hb296 : true = (decide (((n53 : Nat) : Int) > (0)))
          ·have hS := hT hb296; clear hT hF
           refine Run.go rfl rfl rfl (sem_boolEqT true (decide (((n53 : Nat) : Int) > (0))) (.inr rfl) false rfl rfl TF.bool_4 hb296 rfl ?_)
           refine Run.region_end ?_
           refine Run.condF rfl ?_
           refine Run.skip ?_
           refine Run.seq ?_
           refine Run.seq ?_
           refine Run.ops0 (idx := [0, 1]) rfl ?_
           refine Run.go rfl rfl rfl (sem_move ((Value.bool true)) rfl ?_)
           refine Run.go rfl rfl rfl (sem_not true rfl ?_)
           refine Run.region_end ?_
           refine Run.condF rfl ?_
           refine Run.skip ?_
           refine Run.seq ?_
           refine Run.ops0 (idx := [0, 1, 2, 3, 4, 5, 6, 7]) rfl ?_
           refine Run.go rfl rfl rfl (sem_move ((Value.slice a52 n53 c54)) rfl ?_)
           refine Run.go rfl rfl rfl (sem_move ((Value.slice a52 n53 c54)) rfl ?_)
           refine Run.go rfl rfl rfl (sem_lenSl a52 n53 c54 rfl TF.sl_145 ?_)
           refine Run.go rfl rfl rfl (sem_binI .i64 ((n53 : Nat)) (1) ((Value.int .i64 (IntKind.wrap .i64 (((n53 : Nat)) - (1))))) rfl rfl rfl ?_)
           obtain ⟨A297, e298, hi0, hi1, hS⟩ := hS
           refine Run.go rfl rfl rfl (sem_indexAddrS A297 n53 c54 .i64 (IntKind.wrap .i64 (((n53 : Nat)) - (1))) (congrArg (fun a => Value.slice a n53 c54) e298) rfl TF.slc_145 hi0 hi1 ?_)
           obtain ⟨a299, n300, c301, i302, i303, i304, hl, hS⟩ := hS
           refine Run.go rfl rfl rfl (sem_loadN (Addr.add A297 (Int.toNat (IntKind.wrap .i64 (((n53 : Nat)) - (1))) * 4)) [(Value.slice a299 n300 c301), (Value.int .i64 (i302)), (Value.int .i64 (i303)), (Value.int .i64 (i304))] rfl TF.agg_154 TF.sz_154 hl ?_)
           refine Run.go rfl rfl rfl (sem_allocN [(Value.slice none 0 0), (Value.int .i64 (0)), (Value.int .i64 (0)), (Value.int .i64 (0))] TF.zero_154 (fun k305 hb1 hb2 h306 hb3 => ?_))
           have hS := hS k305 hb1 hb2 h306 hb3
           obtain ⟨h307, hst, hS⟩ := hS
           refine Run.go rfl rfl rfl (sem_storeN ⟨k305, 0, none⟩ [(Value.slice a299 n300 c301), (Value.int .i64 (i302)), (Value.int .i64 (i303)), (Value.int .i64 (i304))] h307 rfl rfl TF.sz_154 hst ?_)
           refine Run.region_end ?_
           refine Run.seq ?_
           refine Run.ops0 (idx := [0, 1, 2, 3, 4, 5]) rfl ?_
           refine Run.go rfl rfl rfl (sem_move ((Value.slice a52 n53 c54)) rfl ?_)
           refine Run.go rfl rfl rfl (sem_move ((Value.slice a52 n53 c54)) rfl ?_)
           refine Run.go rfl rfl rfl (sem_lenSl a52 n53 c54 rfl TF.sl_145 ?_)
           refine Run.go rfl rfl rfl (sem_binI .i64 ((n53 : Nat)) (1) ((Value.int .i64 (IntKind.wrap .i64 (((n53 : Nat)) - (1))))) rfl rfl rfl ?_)
           obtain ⟨hi0, hi1, hi2, hS⟩ := hS
           refine Run.go rfl rfl rfl (sem_sliceSlI a52 n53 c54 (0) (IntKind.wrap .i64 (((n53 : Nat)) - (1))) rfl TF.slc_145 rfl ⟨_, rfl⟩ hi0 hi1 hi2 ?_)
           refine Run.go rfl rfl rfl (sem_assign ((Value.slice (if c54 = Int.toNat (0) then a52 else Option.map (·.add (Int.toNat (0) * 4)) a52) (Int.toNat (IntKind.wrap .i64 (((n53 : Nat)) - (1))) - Int.toNat (0)) (c54 - Int.toNat (0)))) rfl ?_)
           refine Run.region_end ?_
           refine Run.seq ?_
           refine Run.seqJ (fun e h310 => ∃ b309 : Bool, Agree [(3, (Value.pointer (some ⟨k8, 0, none⟩))), (4, (Value.pointer (some ⟨k18, 0, none⟩))), (5, (Value.pointer (some ⟨k21, 0, none⟩))), (6, (Value.slice (if c54 = Int.toNat (0) then a52 else Option.map (·.add (Int.toNat (0) * 4)) a52) (Int.toNat (IntKind.wrap .i64 (((n53 : Nat)) - (1))) - Int.toNat (0)) (c54 - Int.toNat (0)))), (9, (Value.pointer (some ⟨k293, 0, none⟩))), (11, (Value.pointer (some ⟨k305, 0, none⟩))), (25, (Value.slice a1 n2 c3)), (26, (Value.int .i64 ((n2 : Nat)))), (27, (Value.int .i64 (i55))), (138, (Value.bool b309))] e ∧ S_countermandlaw17_MarkPops_J4 B a1 n2 c3 k8 k18 k21 a52 n53 c54 i55 m57 J60 k293 k305 b309 h310 Q) ?_ fun j308 => ?_
           ·rintro e h310 ⟨b309, hag, hS⟩
            refine Run.env hag ?_; clear hag
            obtain ⟨hT, hF⟩ := hS
            cases b309
            ·have hS := hF rfl; clear hT hF
             refine Run.condF rfl ?_
             refine Run.skip ?_
             refine Run.seq ?_
             refine Run.ops0 (idx := [0, 1, 2]) rfl ?_
             refine Run.go rfl rfl rfl (sem_fieldAddr ⟨k293, 0, none⟩ 0 rfl TF.fld_151_0 ?_)
             obtain ⟨p311, p312, p313, i314, i315, i316, i317, hl, hS⟩ := hS
             refine Run.go rfl rfl rfl (sem_loadN ⟨k293, 0, none⟩ [(Value.pointer p311), (Value.pointer p312), (Value.pointer p313), (Value.int .i64 (i314)), (Value.int .i64 (i315)), (Value.int .i64 (i316)), (Value.int .i64 (i317))] rfl TF.agg_140 TF.sz_140 hl ?_)
             obtain ⟨h318, hst, hS⟩ := hS
             refine Run.go rfl rfl rfl (sem_storeN ⟨k18, 0, none⟩ [(Value.pointer p311), (Value.pointer p312), (Value.pointer p313), (Value.int .i64 (i314)), (Value.int .i64 (i315)), (Value.int .i64 (i316)), (Value.int .i64 (i317))] h318 rfl rfl TF.sz_140 hst ?_)
             refine Run.region_end ?_
             refine Run.ops0 (idx := [0, 1, 2]) rfl ?_
             refine Run.go rfl rfl rfl (sem_fieldAddr ⟨k305, 0, none⟩ 0 rfl TF.fld_154_0 ?_)
             obtain ⟨a319, n320, c321, i322, i323, hl, hS⟩ := hS
             refine Run.go rfl rfl rfl (sem_loadN ⟨k305, 0, none⟩ [(Value.slice a319 n320 c321), (Value.int .i64 (i322)), (Value.int .i64 (i323))] rfl TF.agg_144 TF.sz_144 hl ?_)
             obtain ⟨h324, hst, hS⟩ := hS
             refine Run.go rfl rfl rfl (sem_storeN ⟨k21, 0, none⟩ [(Value.slice a319 n320 c321), (Value.int .i64 (i322)), (Value.int .i64 (i323))] h324 rfl rfl TF.sz_144 hst ?_)
             refine Run.region_end ?_
             refine Run.inBlock ?_
             exact Run.of_fin (hS.imp fun h' hS => j70 _ _ ⟨(if c54 = Int.toNat (0) then a52 else Option.map (·.add (Int.toNat (0) * 4)) a52), (Int.toNat (IntKind.wrap .i64 (((n53 : Nat)) - (1))) - Int.toNat (0)), (c54 - Int.toNat (0)), ⟨rfl, rfl, rfl, rfl, rfl, rfl, rfl, trivial⟩, hS⟩)
            ·have hS := hT rfl; clear hT hF
             refine Run.condT rfl ?_
             refine Run.seq ?_
             refine Run.ops0 (idx := [0]) rfl ?_
             refine Run.go rfl rfl rfl (sem_assign ((Value.bool false)) rfl ?_)
             refine Run.region_end ?_
             refine Run.ret ⟨.inr rfl, ?_⟩
             exact hS.imp fun h' hq => ⟨(false), rfl, hq⟩
           refine Run.ops0 (idx := [0, 1, 2, 3, 4, 5, 6, 7, 8, 9, 10, 11, 12, 13, 14, 15, 16, 17, 18, 19, 20]) rfl ?_
           refine Run.go rfl rfl rfl (sem_fieldAddr ⟨k293, 0, none⟩ 11 rfl TF.fld_151_2 ?_)
           obtain ⟨i325, hl, hS⟩ := hS
           refine Run.go rfl rfl rfl (sem_load1 ⟨k293, 11, none⟩ ((Value.int .i64 (i325))) rfl TF.agg_3 hl ?_)
           refine Run.go rfl rfl rfl (sem_fieldAddr ⟨k305, 0, none⟩ 3 rfl TF.fld_154_1 ?_)
           obtain ⟨i326, hl, hS⟩ := hS
           refine Run.go rfl rfl rfl (sem_load1 ⟨k305, 3, none⟩ ((Value.int .i64 (i326))) rfl TF.agg_3 hl ?_)
           obtain ⟨hT, hF⟩ := hS
           by_cases hb327 : (i325 : Int) = i326
           ·have hS := hT hb327; clear hT hF
            refine Run.go rfl rfl rfl (sem_binI .i64 (i325) (i326) (.bool false) rfl rfl (binI_neq_t hb327) ?_)
            refine Run.go rfl rfl rfl (sem_move ((Value.bool false)) rfl ?_)
            refine Run.go rfl rfl rfl (sem_fieldAddr ⟨k293, 0, none⟩ 7 rfl TF.fld_151_1 ?_)
            obtain ⟨hi0, hi1, hS⟩ := hS
            refine Run.go rfl rfl rfl (sem_indexAddrA ⟨k293, 7, none⟩ .i64 (1) rfl rfl TF.arr_42 hi0 hi1 ?_)
            obtain ⟨i328, hl, hS⟩ := hS
            refine Run.go rfl rfl rfl (sem_load1 ⟨k293, 8, none⟩ ((Value.int .i64 (i328))) rfl TF.agg_3 hl ?_)
            refine Run.go rfl rfl rfl (sem_fieldAddr ⟨k305, 0, none⟩ 3 rfl TF.fld_154_1 ?_)
            obtain ⟨i329, hl, hS⟩ := hS
            refine Run.go rfl rfl rfl (sem_load1 ⟨k305, 3, none⟩ ((Value.int .i64 (i329))) rfl TF.agg_3 hl ?_)
            obtain ⟨hT, hF⟩ := hS
            by_cases hb330 : (i328 : Int) = i329
            ·have hS := hT hb330; clear hT hF
             refine Run.go rfl rfl rfl (sem_binI .i64 (i328) (i329) (.bool false) rfl rfl (binI_neq_t hb330) ?_)
             refine Run.go rfl rfl rfl (sem_pick false ((Value.bool false)) rfl rfl ?_)
             refine Run.go rfl rfl rfl (sem_move ((Value.bool false)) rfl ?_)
             refine Run.go rfl rfl rfl (sem_fieldAddr ⟨k293, 0, none⟩ 0 rfl TF.fld_151_0 ?_)
             obtain ⟨p331, p332, p333, i334, i335, i336, i337, hl, hS⟩ := hS
             refine Run.go rfl rfl rfl (sem_loadN ⟨k293, 0, none⟩ [(Value.pointer p331), (Value.pointer p332), (Value.pointer p333), (Value.int .i64 (i334)), (Value.int .i64 (i335)), (Value.int .i64 (i336)), (Value.int .i64 (i337))] rfl TF.agg_140 TF.sz_140 hl ?_)
             refine Run.go rfl rfl rfl (sem_fieldAddr ⟨k305, 0, none⟩ 0 rfl TF.fld_154_0 ?_)
             obtain ⟨a338, n339, c340, i341, i342, hl, hS⟩ := hS
             refine Run.go rfl rfl rfl (sem_loadN ⟨k305, 0, none⟩ [(Value.slice a338 n339 c340), (Value.int .i64 (i341)), (Value.int .i64 (i342))] rfl TF.agg_144 TF.sz_144 hl ?_)
             refine Run.go rfl rfl rfl (sem_callL [(Value.agg #[(Value.pointer p331), (Value.pointer p332), (Value.pointer p333), (Value.int .i64 (i334)), (Value.int .i64 (i335)), (Value.int .i64 (i336)), (Value.int .i64 (i337))]), (Value.agg #[(Value.slice a338 n339 c340), (Value.int .i64 (i341)), (Value.int .i64 (i342))])] (TF.goes_80) rfl rfl (Spec.mono hS fun v h343 hv => ?_))
             obtain ⟨b344, rfl, hS⟩ := hv
             obtain ⟨hT, hF⟩ := hS
             cases b344
             ·have hS := hF rfl; clear hT hF
              refine Run.go rfl rfl rfl (sem_not false rfl ?_)
              refine Run.go rfl rfl rfl (sem_pick false ((Value.bool true)) rfl rfl ?_)
              refine Run.region_end ?_
              exact Run.of_fin (hS.imp fun h' hS => j308 _ _ ⟨(true), ⟨rfl, rfl, rfl, rfl, rfl, rfl, rfl, rfl, rfl, rfl, trivial⟩, hS⟩)
             ·have hS := hT rfl; clear hT hF
              refine Run.go rfl rfl rfl (sem_not true rfl ?_)
              refine Run.go rfl rfl rfl (sem_pick false ((Value.bool false)) rfl rfl ?_)
              refine Run.region_end ?_
              exact Run.of_fin (hS.imp fun h' hS => j308 _ _ ⟨(false), ⟨rfl, rfl, rfl, rfl, rfl, rfl, rfl, rfl, rfl, rfl, trivial⟩, hS⟩)
            ·have hS := hF hb330; clear hT hF
             refine Run.go rfl rfl rfl (sem_binI .i64 (i328) (i329) (.bool true) rfl rfl (binI_neq_f hb330) ?_)
             refine Run.go rfl rfl rfl (sem_pick false ((Value.bool true)) rfl rfl ?_)
             refine Run.go rfl rfl rfl (sem_move ((Value.bool true)) rfl ?_)
             refine Run.no rfl rfl rfl ?_
             refine Run.no rfl rfl rfl ?_
             refine Run.no rfl rfl rfl ?_
             refine Run.no rfl rfl rfl ?_
             refine Run.no rfl rfl rfl ?_
             refine Run.no rfl rfl rfl ?_
             refine Run.go rfl rfl rfl (sem_pick true ((Value.bool true)) rfl rfl ?_)
             refine Run.region_end ?_
             exact Run.of_fin (hS.imp fun h' hS => j308 _ _ ⟨(true), ⟨rfl, rfl, rfl, rfl, rfl, rfl, rfl, rfl, rfl, rfl, trivial⟩, hS⟩)
           ·have hS := hF hb327; clear hT hF
            refine Run.go rfl rfl rfl (sem_binI .i64 (i325) (i326) (.bool true) rfl rfl (binI_neq_f hb327) ?_)
            refine Run.go rfl rfl rfl (sem_move ((Value.bool true)) rfl ?_)
            refine Run.no rfl rfl rfl ?_
            refine Run.no rfl rfl rfl ?_
            refine Run.no rfl rfl rfl ?_
            refine Run.no rfl rfl rfl ?_
            refine Run.no rfl rfl rfl ?_
            refine Run.no rfl rfl rfl ?_
            refine Run.go rfl rfl rfl (sem_pick true ((Value.bool true)) rfl rfl ?_)
            refine Run.go rfl rfl rfl (sem_move ((Value.bool true)) rfl ?_)
            refine Run.no rfl rfl rfl ?_
            refine Run.no rfl rfl rfl ?_
            refine Run.no rfl rfl rfl ?_
            refine Run.no rfl rfl rfl ?_
            refine Run.no rfl rfl rfl ?_
            refine Run.no rfl rfl rfl ?_
            refine Run.go rfl rfl rfl (sem_pick true ((Value.bool true)) rfl rfl ?_)
            refine Run.region_end ?_
            exact Run.of_fin (hS.imp fun h' hS => j308 _ _ ⟨(true), ⟨rfl, rfl, rfl, rfl, rfl, rfl, rfl, rfl, rfl, rfl, trivial⟩, hS⟩)
          ·have hS := hF hb296; clear hT hF
           refine Run.go rfl rfl rfl (sem_boolEqF true (decide (((n53 : Nat) : Int) > (0))) (.inr rfl) true rfl rfl TF.bool_4 hb296 rfl ?_)
           refine Run.region_end ?_
           refine Run.condT rfl ?_
           refine Run.seq ?_
           refine Run.ops0 (idx := [0]) rfl ?_
           refine Run.go rfl rfl rfl (sem_assign ((Value.bool false)) rfl ?_)
           refine Run.region_end ?_
           refine Run.ret ⟨.inr rfl, ?_⟩
           exact hS.imp fun h' hq => ⟨(false), rfl, hq⟩
        ·have hS := hF hb274; clear hT hF
         refine Run.go rfl rfl rfl (sem_binI .i64 (i92) (4) (.bool false) rfl rfl (binI_eql_f hb274) ?_)
         refine Run.go rfl rfl rfl (sem_assign ((Value.bool false)) rfl ?_)
         refine Run.region_end ?_
         refine Run.condF rfl ?_
         refine Run.seq ?_
         refine Run.ops0 (idx := [0, 1]) rfl ?_
         obtain ⟨hT, hF⟩ := hS
         by_cases hb345 : (i92 : Int) = 5
         ·have hS := hT hb345; clear hT hF
          refine Run.go rfl rfl rfl (sem_binI .i64 (i92) (5) (.bool true) rfl rfl (binI_eql_t hb345) ?_)
          refine Run.go rfl rfl rfl (sem_assign ((Value.bool true)) rfl ?_)
          refine Run.region_end ?_
          refine Run.condT rfl ?_
          refine Run.seq ?_
          refine Run.ops0 (idx := [0, 1]) rfl ?_
          refine Run.go rfl rfl rfl (sem_move ((Value.pointer (some ⟨k8, 0, none⟩))) rfl ?_)
          refine Run.go rfl rfl rfl (sem_callL [(Value.pointer (some ⟨k8, 0, none⟩))] (TF.goes_81) rfl rfl (Spec.mono hS fun v h346 hv => ?_))
          obtain ⟨rfl, hS⟩ := hv
          refine Run.region_end ?_
          refine Run.ops0 (idx := [0]) rfl ?_
          refine Run.go rfl rfl rfl (sem_assign ((Value.slice none 0 0)) rfl ?_)
          refine Run.region_end ?_
          refine Run.inBlock ?_
          exact Run.of_fin (hS.imp fun h' hS => j70 _ _ ⟨none, 0, 0, ⟨rfl, rfl, rfl, rfl, rfl, rfl, rfl, trivial⟩, hS⟩)
         ·have hS := hF hb345; clear hT hF
          refine Run.go rfl rfl rfl (sem_binI .i64 (i92) (5) (.bool false) rfl rfl (binI_eql_f hb345) ?_)
          refine Run.go rfl rfl rfl (sem_assign ((Value.bool false)) rfl ?_)
          refine Run.region_end ?_
          refine Run.condF rfl ?_
          refine Run.skip ?_
          refine Run.inBlock ?_
          exact Run.of_fin (hS.imp fun h' hS => j70 _ _ ⟨a52, n53, c54, ⟨rfl, rfl, rfl, rfl, rfl, rfl, rfl, trivial⟩, hS⟩)
   ·have hS := hF hb61; clear hT hF
    refine Run.go rfl rfl rfl (sem_binI .i64 (i55) ((n2 : Nat)) (.bool false) rfl rfl (binI_lss_f hb61) ?_)
    refine Run.region_end ?_
    refine Run.seq ?_
    refine Run.condF rfl ?_
    refine Run.exit rfl ?_
    exact Run.of_fin (hS.imp fun h' hS => j24 _ _ ⟨trivial, hS⟩)
set_option maxHeartbeats 4000000 in
theorem C_countermandlaw17_alive.of {B : RO} {h : Heap} {Q : Bool → Heap → Prop} (hS : S_countermandlaw17_alive B h Q) : C_countermandlaw17_alive B h Q := by
 unfold S_countermandlaw17_alive at hS
 unfold C_countermandlaw17_alive
 refine Spec.of_run Try.func73 (N := 37) (rs := [ResultVar.tmp 0]) rfl rfl rfl (Nat.le_of_ble_eq_true rfl) ?_
 refine Run.seq ?_
 refine Run.ops0 (idx := [0]) rfl ?_
 refine Run.go rfl rfl rfl (sem_assign ((Value.bool false)) rfl ?_)
 refine Run.region_end ?_
 refine Run.seq ?_
 refine Run.ops0 (idx := [0, 1, 2]) rfl ?_
 refine Run.go rfl rfl rfl (sem_buildSL [] [(Value.slice none 0 0)] TF.zero_134 TF.places_134 rfl rfl ?_)
 refine Run.go rfl rfl rfl (sem_boxNN [(Value.slice none 0 0)] rfl (fun k2 hb1 hb2 h3 hb3 => ?_))
 have hS := hS k2 hb1 hb2 h3 hb3
 refine Run.go rfl rfl rfl (sem_assign ((Value.pointer (some ⟨k2, 0, none⟩))) rfl ?_)
 refine Run.region_end ?_
 refine Run.seq ?_
 refine Run.ops0 (idx := [0, 1, 2, 3]) rfl ?_
 refine Run.go rfl rfl rfl (sem_buildAL [(0, (Value.int .i64 (1)))] [(Value.int .i64 (1)), (Value.int .i64 (0)), (Value.int .i64 (0)), (Value.int .i64 (0))] TF.zero_138 TF.arr_138 rfl rfl ?_)
 refine Run.go rfl rfl rfl (sem_callL [(Value.agg #[(Value.int .i64 (1)), (Value.int .i64 (0)), (Value.int .i64 (0)), (Value.int .i64 (0))])] (TF.goes_74) rfl rfl (Spec.mono hS fun v h4 hv => ?_))
 obtain ⟨p5, p6, p7, i8, i9, i10, i11, rfl, hS⟩ := hv
 refine Run.go rfl rfl rfl (sem_allocN [(Value.pointer none), (Value.pointer none), (Value.pointer none), (Value.int .i64 (0)), (Value.int .i64 (0)), (Value.int .i64 (0)), (Value.int .i64 (0))] TF.zero_140 (fun k12 hb1 hb2 h13 hb3 => ?_))
 have hS := hS k12 hb1 hb2 h13 hb3
 obtain ⟨h14, hst, hS⟩ := hS
 refine Run.go rfl rfl rfl (sem_storeN ⟨k12, 0, none⟩ [(Value.pointer p5), (Value.pointer p6), (Value.pointer p7), (Value.int .i64 (i8)), (Value.int .i64 (i9)), (Value.int .i64 (i10)), (Value.int .i64 (i11))] h14 rfl rfl TF.sz_140 hst ?_)
 refine Run.region_end ?_
 refine Run.seqJ (fun e h16 => Agree [(1, (Value.pointer (some ⟨k2, 0, none⟩)))] e ∧ S_countermandlaw17_alive_J1 B k2 h16 Q) ?_ fun j15 => ?_
 ·rintro e h16 ⟨hag, hS⟩
  refine Run.env hag ?_; clear hag
  refine Run.seq ?_
  refine Run.ops0 (idx := [0, 1, 2, 3, 4, 5, 6, 7]) rfl ?_
  refine Run.go rfl rfl rfl (sem_move ((Value.pointer (some ⟨k2, 0, none⟩))) rfl ?_)
  refine Run.go rfl rfl rfl (sem_callL [(Value.pointer (some ⟨k2, 0, none⟩))] (TF.goes_79) rfl rfl (Spec.mono hS fun v h17 hv => ?_))
  obtain ⟨p18, p19, p20, i21, i22, i23, i24, i25, i26, i27, i28, i29, b30, rfl, hS⟩ := hv
  refine Run.go rfl rfl rfl (sem_move ((Value.tuple #[(Value.agg #[(Value.pointer p18), (Value.pointer p19), (Value.pointer p20), (Value.int .i64 (i21)), (Value.int .i64 (i22)), (Value.int .i64 (i23)), (Value.int .i64 (i24)), (Value.int .i64 (i25)), (Value.int .i64 (i26)), (Value.int .i64 (i27)), (Value.int .i64 (i28)), (Value.int .i64 (i29))]), (Value.bool b30)])) rfl ?_)
  refine Run.go rfl rfl rfl (sem_extract #[(Value.agg #[(Value.pointer p18), (Value.pointer p19), (Value.pointer p20), (Value.int .i64 (i21)), (Value.int .i64 (i22)), (Value.int .i64 (i23)), (Value.int .i64 (i24)), (Value.int .i64 (i25)), (Value.int .i64 (i26)), (Value.int .i64 (i27)), (Value.int .i64 (i28)), (Value.int .i64 (i29))]), (Value.bool b30)] ((Value.agg #[(Value.pointer p18), (Value.pointer p19), (Value.pointer p20), (Value.int .i64 (i21)), (Value.int .i64 (i22)), (Value.int .i64 (i23)), (Value.int .i64 (i24)), (Value.int .i64 (i25)), (Value.int .i64 (i26)), (Value.int .i64 (i27)), (Value.int .i64 (i28)), (Value.int .i64 (i29))])) rfl rfl ?_)
  obtain ⟨hT, hF⟩ := hS
  cases b30
  ·have hS := hF rfl; clear hT hF
   refine Run.go rfl rfl rfl (sem_extract #[(Value.agg #[(Value.pointer p18), (Value.pointer p19), (Value.pointer p20), (Value.int .i64 (i21)), (Value.int .i64 (i22)), (Value.int .i64 (i23)), (Value.int .i64 (i24)), (Value.int .i64 (i25)), (Value.int .i64 (i26)), (Value.int .i64 (i27)), (Value.int .i64 (i28)), (Value.int .i64 (i29))]), (Value.bool false)] (.bool false) rfl rfl ?_)
   refine Run.go rfl rfl rfl (sem_allocN [(Value.pointer none), (Value.pointer none), (Value.pointer none), (Value.int .i64 (0)), (Value.int .i64 (0)), (Value.int .i64 (0)), (Value.int .i64 (0)), (Value.int .i64 (0)), (Value.int .i64 (0)), (Value.int .i64 (0)), (Value.int .i64 (0)), (Value.int .i64 (0))] TF.zero_151 (fun k31 hb1 hb2 h32 hb3 => ?_))
   have hS := hS k31 hb1 hb2 h32 hb3
   obtain ⟨h33, hst, hS⟩ := hS
   refine Run.go rfl rfl rfl (sem_storeN ⟨k31, 0, none⟩ [(Value.pointer p18), (Value.pointer p19), (Value.pointer p20), (Value.int .i64 (i21)), (Value.int .i64 (i22)), (Value.int .i64 (i23)), (Value.int .i64 (i24)), (Value.int .i64 (i25)), (Value.int .i64 (i26)), (Value.int .i64 (i27)), (Value.int .i64 (i28)), (Value.int .i64 (i29))] h33 rfl rfl TF.sz_151 hst ?_)
   refine Run.go rfl rfl rfl (sem_assign ((Value.bool false)) rfl ?_)
   refine Run.region_end ?_
   refine Run.seq ?_
   refine Run.ops0 (idx := [0, 1, 2, 3, 4, 5, 6, 7, 8, 9, 10, 11, 12, 13]) rfl ?_
   refine Run.go rfl rfl rfl (sem_move ((Value.bool false)) rfl ?_)
   refine Run.go rfl rfl rfl (sem_move ((Value.bool false)) rfl ?_)
   refine Run.no rfl rfl rfl ?_
   refine Run.no rfl rfl rfl ?_
   refine Run.no rfl rfl rfl ?_
   refine Run.go rfl rfl rfl (sem_pick false ((Value.bool false)) rfl rfl ?_)
   refine Run.go rfl rfl rfl (sem_move ((Value.bool false)) rfl ?_)
   refine Run.no rfl rfl rfl ?_
   refine Run.no rfl rfl rfl ?_
   refine Run.no rfl rfl rfl ?_
   refine Run.no rfl rfl rfl ?_
   refine Run.no rfl rfl rfl ?_
   refine Run.go rfl rfl rfl (sem_pick false ((Value.bool false)) rfl rfl ?_)
   refine Run.go rfl rfl rfl (sem_assign ((Value.bool false)) rfl ?_)
   refine Run.region_end ?_
   refine Run.ret ⟨.inr rfl, ?_⟩
   exact hS.imp fun h' hq => ⟨(false), rfl, hq⟩
  ·have hS := hT rfl; clear hT hF
   refine Run.go rfl rfl rfl (sem_extract #[(Value.agg #[(Value.pointer p18), (Value.pointer p19), (Value.pointer p20), (Value.int .i64 (i21)), (Value.int .i64 (i22)), (Value.int .i64 (i23)), (Value.int .i64 (i24)), (Value.int .i64 (i25)), (Value.int .i64 (i26)), (Value.int .i64 (i27)), (Value.int .i64 (i28)), (Value.int .i64 (i29))]), (Value.bool true)] (.bool true) rfl rfl ?_)
   refine Run.go rfl rfl rfl (sem_allocN [(Value.pointer none), (Value.pointer none), (Value.pointer none), (Value.int .i64 (0)), (Value.int .i64 (0)), (Value.int .i64 (0)), (Value.int .i64 (0)), (Value.int .i64 (0)), (Value.int .i64 (0)), (Value.int .i64 (0)), (Value.int .i64 (0)), (Value.int .i64 (0))] TF.zero_151 (fun k34 hb1 hb2 h35 hb3 => ?_))
   have hS := hS k34 hb1 hb2 h35 hb3
   obtain ⟨h36, hst, hS⟩ := hS
   refine Run.go rfl rfl rfl (sem_storeN ⟨k34, 0, none⟩ [(Value.pointer p18), (Value.pointer p19), (Value.pointer p20), (Value.int .i64 (i21)), (Value.int .i64 (i22)), (Value.int .i64 (i23)), (Value.int .i64 (i24)), (Value.int .i64 (i25)), (Value.int .i64 (i26)), (Value.int .i64 (i27)), (Value.int .i64 (i28)), (Value.int .i64 (i29))] h36 rfl rfl TF.sz_151 hst ?_)
   refine Run.go rfl rfl rfl (sem_assign ((Value.bool true)) rfl ?_)
   refine Run.region_end ?_
   refine Run.seq ?_
   refine Run.ops0 (idx := [0, 1, 2, 3, 4, 5, 6, 7, 8, 9, 10, 11, 12, 13]) rfl ?_
   refine Run.go rfl rfl rfl (sem_move ((Value.bool true)) rfl ?_)
   refine Run.go rfl rfl rfl (sem_move ((Value.bool true)) rfl ?_)
   refine Run.go rfl rfl rfl (sem_fieldAddr ⟨k34, 0, none⟩ 11 rfl TF.fld_151_2 ?_)
   obtain ⟨i37, hl, hS⟩ := hS
   refine Run.go rfl rfl rfl (sem_load1 ⟨k34, 11, none⟩ ((Value.int .i64 (i37))) rfl TF.agg_3 hl ?_)
   obtain ⟨hT, hF⟩ := hS
   by_cases hb38 : (i37 : Int) = 5
   ·have hS := hT hb38; clear hT hF
    refine Run.go rfl rfl rfl (sem_binI .i64 (i37) (5) (.bool true) rfl rfl (binI_eql_t hb38) ?_)
    refine Run.go rfl rfl rfl (sem_pick true ((Value.bool true)) rfl rfl ?_)
    refine Run.go rfl rfl rfl (sem_move ((Value.bool true)) rfl ?_)
    refine Run.go rfl rfl rfl (sem_fieldAddr ⟨k34, 0, none⟩ 0 rfl TF.fld_151_0 ?_)
    refine Run.go rfl rfl rfl (sem_fieldAddr ⟨k34, 0, none⟩ 3 rfl TF.fld_140_3 ?_)
    obtain ⟨hi0, hi1, hS⟩ := hS
    refine Run.go rfl rfl rfl (sem_indexAddrA ⟨k34, 3, none⟩ .i64 (0) rfl rfl TF.arr_138 hi0 hi1 ?_)
    obtain ⟨i39, hl, hS⟩ := hS
    refine Run.go rfl rfl rfl (sem_load1 ⟨k34, 3, none⟩ ((Value.int .i64 (i39))) rfl TF.agg_3 hl ?_)
    refine Run.go rfl rfl rfl (sem_binI .i64 (i39) (1) ((Value.bool ((i39 : Int) == (1)))) rfl rfl rfl ?_)
    refine Run.go rfl rfl rfl (sem_pick true ((Value.bool ((i39 : Int) == (1)))) rfl rfl ?_)
    refine Run.go rfl rfl rfl (sem_assign ((Value.bool ((i39 : Int) == (1)))) rfl ?_)
    refine Run.region_end ?_
    refine Run.ret ⟨.inr rfl, ?_⟩
    exact hS.imp fun h' hq => ⟨(((i39 : Int) == (1))), rfl, hq⟩
   ·have hS := hF hb38; clear hT hF
    refine Run.go rfl rfl rfl (sem_binI .i64 (i37) (5) (.bool false) rfl rfl (binI_eql_f hb38) ?_)
    refine Run.go rfl rfl rfl (sem_pick true ((Value.bool false)) rfl rfl ?_)
    refine Run.go rfl rfl rfl (sem_move ((Value.bool false)) rfl ?_)
    refine Run.no rfl rfl rfl ?_
    refine Run.no rfl rfl rfl ?_
    refine Run.no rfl rfl rfl ?_
    refine Run.no rfl rfl rfl ?_
    refine Run.no rfl rfl rfl ?_
    refine Run.go rfl rfl rfl (sem_pick false ((Value.bool false)) rfl rfl ?_)
    refine Run.go rfl rfl rfl (sem_assign ((Value.bool false)) rfl ?_)
    refine Run.region_end ?_
    refine Run.ret ⟨.inr rfl, ?_⟩
    exact hS.imp fun h' hq => ⟨(false), rfl, hq⟩
 refine Run.seq ?_
 refine Run.ops0 (idx := [0, 1, 2, 3, 4, 5, 6, 7, 8, 9]) rfl ?_
 refine Run.go rfl rfl rfl (sem_move ((Value.pointer (some ⟨k2, 0, none⟩))) rfl ?_)
 obtain ⟨p40, p41, p42, i43, i44, i45, i46, hl, hS⟩ := hS
 refine Run.go rfl rfl rfl (sem_loadN ⟨k12, 0, none⟩ [(Value.pointer p40), (Value.pointer p41), (Value.pointer p42), (Value.int .i64 (i43)), (Value.int .i64 (i44)), (Value.int .i64 (i45)), (Value.int .i64 (i46))] rfl TF.agg_140 TF.sz_140 hl ?_)
 refine Run.go rfl rfl rfl (sem_buildSL [(0, (Value.agg #[(Value.pointer p40), (Value.pointer p41), (Value.pointer p42), (Value.int .i64 (i43)), (Value.int .i64 (i44)), (Value.int .i64 (i45)), (Value.int .i64 (i46))])), (2, (Value.int .i64 (5)))] [(Value.pointer p40), (Value.pointer p41), (Value.pointer p42), (Value.int .i64 (i43)), (Value.int .i64 (i44)), (Value.int .i64 (i45)), (Value.int .i64 (i46)), (Value.int .i64 (0)), (Value.int .i64 (0)), (Value.int .i64 (0)), (Value.int .i64 (0)), (Value.int .i64 (5))] TF.zero_151 TF.places_151 rfl rfl ?_)
 refine Run.go rfl rfl rfl (sem_callL [(Value.pointer (some ⟨k2, 0, none⟩)), (Value.agg #[(Value.pointer p40), (Value.pointer p41), (Value.pointer p42), (Value.int .i64 (i43)), (Value.int .i64 (i44)), (Value.int .i64 (i45)), (Value.int .i64 (i46)), (Value.int .i64 (0)), (Value.int .i64 (0)), (Value.int .i64 (0)), (Value.int .i64 (0)), (Value.int .i64 (5))])] (TF.goes_77) rfl rfl (Spec.mono hS fun v h47 hv => ?_))
 obtain ⟨b48, rfl, hS⟩ := hv
 obtain ⟨hT, hF⟩ := hS
 cases b48
 ·have hS := hF rfl; clear hT hF
  refine Run.go rfl rfl rfl (sem_not false rfl ?_)
  refine Run.go rfl rfl rfl (sem_move ((Value.bool true)) rfl ?_)
  refine Run.no rfl rfl rfl ?_
  refine Run.no rfl rfl rfl ?_
  refine Run.no rfl rfl rfl ?_
  refine Run.go rfl rfl rfl (sem_pick true ((Value.bool true)) rfl rfl ?_)
  refine Run.region_end ?_
  refine Run.condT rfl ?_
  refine Run.seq ?_
  refine Run.ops0 (idx := [0]) rfl ?_
  refine Run.go rfl rfl rfl (sem_assign ((Value.bool false)) rfl ?_)
  refine Run.region_end ?_
  refine Run.ret ⟨.inr rfl, ?_⟩
  exact hS.imp fun h' hq => ⟨(false), rfl, hq⟩
 ·have hS := hT rfl; clear hT hF
  refine Run.go rfl rfl rfl (sem_not true rfl ?_)
  refine Run.go rfl rfl rfl (sem_move ((Value.bool false)) rfl ?_)
  refine Run.go rfl rfl rfl (sem_move ((Value.pointer (some ⟨k2, 0, none⟩))) rfl ?_)
  refine Run.go rfl rfl rfl (sem_callL [(Value.pointer (some ⟨k2, 0, none⟩))] (TF.goes_82) rfl rfl (Spec.mono hS fun v h49 hv => ?_))
  obtain ⟨i50, rfl, hS⟩ := hv
  obtain ⟨hT, hF⟩ := hS
  by_cases hb51 : (i50 : Int) = 1
  ·have hS := hT hb51; clear hT hF
   refine Run.go rfl rfl rfl (sem_binI .i64 (i50) (1) (.bool false) rfl rfl (binI_neq_t hb51) ?_)
   refine Run.go rfl rfl rfl (sem_pick false ((Value.bool false)) rfl rfl ?_)
   refine Run.region_end ?_
   refine Run.condF rfl ?_
   refine Run.skip ?_
   exact Run.of_fin (hS.imp fun h' hS => j15 _ _ ⟨⟨rfl, trivial⟩, hS⟩)
  ·have hS := hF hb51; clear hT hF
   refine Run.go rfl rfl rfl (sem_binI .i64 (i50) (1) (.bool true) rfl rfl (binI_neq_f hb51) ?_)
   refine Run.go rfl rfl rfl (sem_pick false ((Value.bool true)) rfl rfl ?_)
   refine Run.region_end ?_
   refine Run.condT rfl ?_
   refine Run.seq ?_
   refine Run.ops0 (idx := [0]) rfl ?_
   refine Run.go rfl rfl rfl (sem_assign ((Value.bool false)) rfl ?_)
   refine Run.region_end ?_
   refine Run.ret ⟨.inr rfl, ?_⟩
   exact hS.imp fun h' hq => ⟨(false), rfl, hq⟩
set_option maxHeartbeats 4000000 in
theorem C_mark_Fresh.of {B : RO} {i1 : Int} {i2 : Int} {i3 : Int} {i4 : Int} {h : Heap} {Q : Option Addr → Option Addr → Option Addr → Int → Int → Int → Int → Heap → Prop} (hS : S_mark_Fresh B i1 i2 i3 i4 h Q) : C_mark_Fresh B i1 i2 i3 i4 h Q := by
 unfold S_mark_Fresh at hS
 unfold C_mark_Fresh
 refine Spec.of_run Try.func74 (N := 10) (rs := [ResultVar.cell 2 140]) rfl rfl rfl (Nat.le_of_ble_eq_true rfl) ?_
 refine Run.seq ?_
 refine Run.ops0 (idx := [0, 1]) rfl ?_
 refine Run.go rfl rfl rfl (sem_boxNN [(Value.int .i64 (i1)), (Value.int .i64 (i2)), (Value.int .i64 (i3)), (Value.int .i64 (i4))] rfl (fun k12 hb1 hb2 h13 hb3 => ?_))
 have hS := hS k12 hb1 hb2 h13 hb3
 refine Run.go rfl rfl rfl (sem_allocN [(Value.pointer none), (Value.pointer none), (Value.pointer none), (Value.int .i64 (0)), (Value.int .i64 (0)), (Value.int .i64 (0)), (Value.int .i64 (0))] TF.zero_140 (fun k14 hb1 hb2 h15 hb3 => ?_))
 have hS := hS k14 hb1 hb2 h15 hb3
 refine Run.region_end ?_
 refine Run.seq ?_
 skip
 skip
 obtain ⟨i18, i19, i20, i21, hl, hS⟩ := hS
 have f22 := hl
 refine Run.drawM (fun h' => CellsAt B h' ⟨k12, 0, none⟩ 0 [(Value.int .i64 (i18)), (Value.int .i64 (i19)), (Value.int .i64 (i20)), (Value.int .i64 (i21))] ∧ True) [7] ⟨[0, 1, 0, 0, 8, 0, 54, 127], [255, 254, 255, 255, 247, 255, 201, 191], [0, 1, 0, 0, 8, 0, 63, 127], 128⟩ (.q 0 (.q 3 (.q 5 (.x 1 (.x 2 (.x 4 (.q 6 (.x 7 .nil .no)) .no) (.x 4 (.x 2 (.q 6 (.x 7 .nil .no)) .no) .no)) (.x 2 (.x 1 (.x 4 (.q 6 (.x 7 .nil .no)) .no) (.x 4 (.x 1 (.q 6 (.x 7 .nil .no)) .no) .no)) (.x 4 (.x 1 (.x 2 (.q 6 (.x 7 .nil .no)) .no) (.x 2 (.x 1 (.q 6 (.x 7 .nil .no)) .no) .no)) .no)))))) TF.mixed (by kernel_rfl) ⟨f22, trivial⟩ ?_
 refine RunT.quiet rfl rfl rfl (fun h' hC => sem_buildSL [] [(Value.slice none 0 0)] TF.zero_220 TF.places_220 rfl rfl ⟨rfl, rfl⟩) ?_
 refine RunT.quiet rfl rfl rfl (fun h' hC => sem_buildSL [] [(Value.int .i64 (0)), (Value.int .i64 (0)), (Value.int .i64 (0))] TF.zero_224 TF.places_224 rfl rfl ⟨rfl, rfl⟩) ?_
 refine RunT.quiet rfl rfl rfl (fun h' hC => sem_loadN ⟨k12, 0, none⟩ [(Value.int .i64 (i18)), (Value.int .i64 (i19)), (Value.int .i64 (i20)), (Value.int .i64 (i21))] rfl TF.agg_138 TF.sz_138 hC.1 ⟨rfl, rfl⟩) ?_
 refine RunT.joinJ (t := (.q 6 (.x 7 .nil .no))) (fun e h72 => ∃ A69 : Addr, ∃ p70 : Option Addr, ∃ A71 : Addr, Agree [(2, (Value.pointer (some ⟨k14, 0, none⟩))), (4, (Value.pointer (some A69))), (5, (Value.pointer p70)), (7, (Value.pointer (some A71))), (8, (Value.agg #[(Value.int .i64 (i18)), (Value.int .i64 (i19)), (Value.int .i64 (i20)), (Value.int .i64 (i21))]))] e ∧ CellsAt B h72 ⟨k12, 0, none⟩ 0 [(Value.int .i64 (i18)), (Value.int .i64 (i19)), (Value.int .i64 (i20)), (Value.int .i64 (i21))] ∧ S_mark_Fresh_J1 B k12 k14 i18 i19 i20 i21 A69 p70 A71 h72 Q) ?_ fun j68 => ?_
 ·rintro e h72 ⟨A69, p70, A71, hag, g73, hS⟩
  refine RunT.env hag ?_; clear hag
  refine RunT.quiet rfl rfl rfl (fun h' hC => sem_buildSL [(0, (Value.pointer (some A69))), (1, (Value.pointer p70)), (2, (Value.pointer (some A71))), (3, (Value.agg #[(Value.int .i64 (i18)), (Value.int .i64 (i19)), (Value.int .i64 (i20)), (Value.int .i64 (i21))]))] [(Value.pointer (some A69)), (Value.pointer p70), (Value.pointer (some A71)), (Value.int .i64 (i18)), (Value.int .i64 (i19)), (Value.int .i64 (i20)), (Value.int .i64 (i21))] TF.zero_140 TF.places_140 rfl rfl ⟨rfl, rfl⟩) ?_
  refine ⟨?_, trivial⟩
  obtain ⟨h74, hst, hS⟩ := hS
  refine OpH.go rfl rfl rfl (sem_storeN ⟨k14, 0, none⟩ [(Value.pointer (some A69)), (Value.pointer p70), (Value.pointer (some A71)), (Value.int .i64 (i18)), (Value.int .i64 (i19)), (Value.int .i64 (i20)), (Value.int .i64 (i21))] h74 rfl rfl TF.sz_140 hst ?_)
  refine ⟨fun hz => Bool.noConfusion hz, ?_⟩
  obtain ⟨p75, p76, p77, i78, i79, i80, i81, hl0, hS⟩ := hS
  refine Run.ret ⟨.inr rfl, ?_⟩
  exact ⟨⟨k14, 0, none⟩, (Value.agg #[(Value.pointer p75), (Value.pointer p76), (Value.pointer p77), (Value.int .i64 (i78)), (Value.int .i64 (i79)), (Value.int .i64 (i80)), (Value.int .i64 (i81))]), rfl, loadHN TF.agg_140 TF.sz_140 hl0, hS.imp fun h' hq => ⟨p75, p76, p77, (i78), (i79), (i80), (i81), rfl, hq⟩⟩
 refine ⟨?_, ?_, ?_, trivial⟩
 ·have hS := hS.1
  refine OpH.go rfl rfl rfl (sem_boxNN [(Value.slice none 0 0)] rfl (fun k82 hb1 hb2 h83 hb3 => ?_))
  have hS := hS k82 hb1 hb2 h83 hb3
  obtain ⟨g84, hS⟩ := hS
  refine ⟨fun _ => ⟨g84, trivial⟩, ?_⟩
  refine ⟨?_, ?_, trivial⟩
  ·have hS := hS.1
   refine OpH.go rfl rfl rfl (sem_callL [] (TF.goes_120) rfl rfl (Spec.mono hS fun v h85 hv => ?_))
   obtain ⟨p86, rfl, hS⟩ := hv
   obtain ⟨g87, hS⟩ := hS
   refine ⟨fun _ => ⟨g87, trivial⟩, ?_⟩
   refine ⟨?_, trivial⟩
   refine OpH.go rfl rfl rfl (sem_boxNN [(Value.int .i64 (0)), (Value.int .i64 (0)), (Value.int .i64 (0))] rfl (fun k88 hb1 hb2 h89 hb3 => ?_))
   have hS := hS k88 hb1 hb2 h89 hb3
   obtain ⟨g90, hS⟩ := hS
   refine ⟨fun _ => ⟨g90, trivial⟩, ?_⟩
   exact j68 _ _ ⟨⟨k82, 0, none⟩, p86, ⟨k88, 0, none⟩, ⟨rfl, rfl, rfl, rfl, rfl, trivial⟩, g90, hS⟩
  ·have hS := hS.2
   refine OpH.go rfl rfl rfl (sem_boxNN [(Value.int .i64 (0)), (Value.int .i64 (0)), (Value.int .i64 (0))] rfl (fun k91 hb1 hb2 h92 hb3 => ?_))
   have hS := hS k91 hb1 hb2 h92 hb3
   obtain ⟨g93, hS⟩ := hS
   refine ⟨fun _ => ⟨g93, trivial⟩, ?_⟩
   refine ⟨?_, trivial⟩
   refine OpH.go rfl rfl rfl (sem_callL [] (TF.goes_120) rfl rfl (Spec.mono hS fun v h94 hv => ?_))
   obtain ⟨p95, rfl, hS⟩ := hv
   obtain ⟨g96, hS⟩ := hS
   refine ⟨fun _ => ⟨g96, trivial⟩, ?_⟩
   exact j68 _ _ ⟨⟨k82, 0, none⟩, p95, ⟨k91, 0, none⟩, ⟨rfl, rfl, rfl, rfl, rfl, trivial⟩, g96, hS⟩
 ·have hS := hS.2.1
  refine OpH.go rfl rfl rfl (sem_callL [] (TF.goes_120) rfl rfl (Spec.mono hS fun v h97 hv => ?_))
  obtain ⟨p98, rfl, hS⟩ := hv
  obtain ⟨g99, hS⟩ := hS
  refine ⟨fun _ => ⟨g99, trivial⟩, ?_⟩
  refine ⟨?_, ?_, trivial⟩
  ·have hS := hS.1
   refine OpH.go rfl rfl rfl (sem_boxNN [(Value.slice none 0 0)] rfl (fun k100 hb1 hb2 h101 hb3 => ?_))
   have hS := hS k100 hb1 hb2 h101 hb3
   obtain ⟨g102, hS⟩ := hS
   refine ⟨fun _ => ⟨g102, trivial⟩, ?_⟩
   refine ⟨?_, trivial⟩
   refine OpH.go rfl rfl rfl (sem_boxNN [(Value.int .i64 (0)), (Value.int .i64 (0)), (Value.int .i64 (0))] rfl (fun k103 hb1 hb2 h104 hb3 => ?_))
   have hS := hS k103 hb1 hb2 h104 hb3
   obtain ⟨g105, hS⟩ := hS
   refine ⟨fun _ => ⟨g105, trivial⟩, ?_⟩
   exact j68 _ _ ⟨⟨k100, 0, none⟩, p98, ⟨k103, 0, none⟩, ⟨rfl, rfl, rfl, rfl, rfl, trivial⟩, g105, hS⟩
  ·have hS := hS.2
   refine OpH.go rfl rfl rfl (sem_boxNN [(Value.int .i64 (0)), (Value.int .i64 (0)), (Value.int .i64 (0))] rfl (fun k106 hb1 hb2 h107 hb3 => ?_))
   have hS := hS k106 hb1 hb2 h107 hb3
   obtain ⟨g108, hS⟩ := hS
   refine ⟨fun _ => ⟨g108, trivial⟩, ?_⟩
   refine ⟨?_, trivial⟩
   refine OpH.go rfl rfl rfl (sem_boxNN [(Value.slice none 0 0)] rfl (fun k109 hb1 hb2 h110 hb3 => ?_))
   have hS := hS k109 hb1 hb2 h110 hb3
   obtain ⟨g111, hS⟩ := hS
   refine ⟨fun _ => ⟨g111, trivial⟩, ?_⟩
   exact j68 _ _ ⟨⟨k109, 0, none⟩, p98, ⟨k106, 0, none⟩, ⟨rfl, rfl, rfl, rfl, rfl, trivial⟩, g111, hS⟩
 ·have hS := hS.2.2
  refine OpH.go rfl rfl rfl (sem_boxNN [(Value.int .i64 (0)), (Value.int .i64 (0)), (Value.int .i64 (0))] rfl (fun k112 hb1 hb2 h113 hb3 => ?_))
  have hS := hS k112 hb1 hb2 h113 hb3
  obtain ⟨g114, hS⟩ := hS
  refine ⟨fun _ => ⟨g114, trivial⟩, ?_⟩
  refine ⟨?_, ?_, trivial⟩
  ·have hS := hS.1
   refine OpH.go rfl rfl rfl (sem_boxNN [(Value.slice none 0 0)] rfl (fun k115 hb1 hb2 h116 hb3 => ?_))
   have hS := hS k115 hb1 hb2 h116 hb3
   obtain ⟨g117, hS⟩ := hS
   refine ⟨fun _ => ⟨g117, trivial⟩, ?_⟩
   refine ⟨?_, trivial⟩
   refine OpH.go rfl rfl rfl (sem_callL [] (TF.goes_120) rfl rfl (Spec.mono hS fun v h118 hv => ?_))
   obtain ⟨p119, rfl, hS⟩ := hv
   obtain ⟨g120, hS⟩ := hS
   refine ⟨fun _ => ⟨g120, trivial⟩, ?_⟩
   exact j68 _ _ ⟨⟨k115, 0, none⟩, p119, ⟨k112, 0, none⟩, ⟨rfl, rfl, rfl, rfl, rfl, trivial⟩, g120, hS⟩
  ·have hS := hS.2
   refine OpH.go rfl rfl rfl (sem_callL [] (TF.goes_120) rfl rfl (Spec.mono hS fun v h121 hv => ?_))
   obtain ⟨p122, rfl, hS⟩ := hv
   obtain ⟨g123, hS⟩ := hS
   refine ⟨fun _ => ⟨g123, trivial⟩, ?_⟩
   refine ⟨?_, trivial⟩
   refine OpH.go rfl rfl rfl (sem_boxNN [(Value.slice none 0 0)] rfl (fun k124 hb1 hb2 h125 hb3 => ?_))
   have hS := hS k124 hb1 hb2 h125 hb3
   obtain ⟨g126, hS⟩ := hS
   refine ⟨fun _ => ⟨g126, trivial⟩, ?_⟩
   exact j68 _ _ ⟨⟨k124, 0, none⟩, p122, ⟨k112, 0, none⟩, ⟨rfl, rfl, rfl, rfl, rfl, trivial⟩, g126, hS⟩
set_option maxHeartbeats 4000000 in
theorem C_draft_Draft_int_Put.of {B : RO} {p1 : Option Addr} {i2 : Int} {i3 : Int} {h : Heap} {Q : Bool → Heap → Prop} (hS : S_draft_Draft_int_Put B p1 i2 i3 h Q) : C_draft_Draft_int_Put B p1 i2 i3 h Q := by
 unfold S_draft_Draft_int_Put at hS
 unfold C_draft_Draft_int_Put
 refine Spec.of_run Try.func75 (N := 39) (rs := [ResultVar.tmp 6]) rfl rfl rfl (Nat.le_of_ble_eq_true rfl) ?_
 refine Run.seq ?_
 refine Run.ops0 (idx := [0]) rfl ?_
 refine Run.go rfl rfl rfl (sem_assign ((Value.bool false)) rfl ?_)
 refine Run.region_end ?_
 refine Run.seq ?_
 refine Run.seq ?_
 refine Run.ops0 (idx := [0, 1]) rfl ?_
 refine Run.go rfl rfl rfl (sem_move ((Value.pointer p1)) rfl ?_)
 obtain ⟨hT, hF⟩ := hS
 by_cases hb5 : p1 = none
 ·have hS := hT hb5; clear hT hF
  refine Run.go rfl rfl rfl (sem_ptrNilT p1 (.inl rfl) true rfl rfl TF.ptr_135 hb5 rfl ?_)
  refine Run.region_end ?_
  refine Run.condT rfl ?_
  refine Run.seq ?_
  refine Run.ops0 (idx := [0]) rfl ?_
  refine Run.go rfl rfl rfl (sem_assign ((Value.bool false)) rfl ?_)
  refine Run.region_end ?_
  refine Run.ret ⟨.inr rfl, ?_⟩
  exact hS.imp fun h' hq => ⟨(false), rfl, hq⟩
 ·have hS := hF hb5; clear hT hF
  refine Run.go rfl rfl rfl (sem_ptrNilF p1 (.inl rfl) false rfl rfl TF.ptr_135 hb5 rfl ?_)
  refine Run.region_end ?_
  refine Run.condF rfl ?_
  refine Run.skip ?_
  refine Run.seq ?_
  refine Run.ops0 (idx := [0, 1, 2, 3, 4, 5, 6, 7]) rfl ?_
  refine Run.go rfl rfl rfl (sem_move ((Value.pointer p1)) rfl ?_)
  refine Run.go rfl rfl rfl (sem_move ((Value.int .i64 (i2))) rfl ?_)
  refine Run.go rfl rfl rfl (sem_callL [(Value.pointer p1), (Value.int .i64 (i2))] (TF.goes_121) rfl rfl (Spec.mono hS fun v h6 hv => ?_))
  obtain ⟨i7, b8, rfl, hS⟩ := hv
  refine Run.go rfl rfl rfl (sem_move ((Value.tuple #[(Value.int .i64 (i7)), (Value.bool b8)])) rfl ?_)
  refine Run.go rfl rfl rfl (sem_extract #[(Value.int .i64 (i7)), (Value.bool b8)] ((Value.int .i64 (i7))) rfl rfl ?_)
  obtain ⟨hT, hF⟩ := hS
  cases b8
  ·have hS := hF rfl; clear hT hF
   refine Run.go rfl rfl rfl (sem_extract #[(Value.int .i64 (i7)), (Value.bool false)] (.bool false) rfl rfl ?_)
   refine Run.go rfl rfl rfl (sem_assign ((Value.int .i64 (i7))) rfl ?_)
   refine Run.go rfl rfl rfl (sem_assign ((Value.bool false)) rfl ?_)
   refine Run.region_end ?_
   refine Run.seq ?_
   refine Run.seq ?_
   refine Run.ops0 (idx := [0]) rfl ?_
   refine Run.go rfl rfl rfl (sem_move ((Value.bool false)) rfl ?_)
   refine Run.region_end ?_
   refine Run.condF rfl ?_
   refine Run.ops0 (idx := [0, 1, 2, 3, 4, 5, 6, 7, 8, 9, 10, 11, 12, 13]) rfl ?_
   refine Run.go rfl rfl rfl (sem_move ((Value.pointer p1)) rfl ?_)
   refine Run.go rfl rfl rfl (sem_move ((Value.pointer p1)) rfl ?_)
   obtain ⟨A9, e10, hS⟩ := hS
   refine Run.go rfl rfl rfl (sem_nilCheck A9 (congrArg Value.pointer e10) ?_)
   refine Run.go rfl rfl rfl (sem_fieldAddr A9 0 rfl TF.fld_220_0 ?_)
   refine Run.ldSl hS fun a11 n12 c13 h14 hl hS => ?_
   refine Run.go rfl rfl rfl (sem_load1 A9 ((Value.slice a11 n12 c13)) rfl TF.agg_218 hl ?_)
   refine Run.go rfl rfl rfl (sem_move ((Value.int .i64 (i7))) rfl ?_)
   refine Run.go rfl rfl rfl (sem_move ((Value.int .i64 (i2))) rfl ?_)
   refine Run.go rfl rfl rfl (sem_move ((Value.int .i64 (i3))) rfl ?_)
   refine Run.go rfl rfl rfl (sem_buildSL [(0, (Value.int .i64 (i2))), (1, (Value.int .i64 (i3)))] [(Value.int .i64 (i2)), (Value.int .i64 (i3))] TF.zero_228 TF.places_228 rfl rfl ?_)
   refine Run.go rfl rfl rfl (sem_buildSliceL [(0, (Value.agg #[(Value.int .i64 (i2)), (Value.int .i64 (i3))]))] [(Value.int .i64 (i2)), (Value.int .i64 (i3))] TF.slc_218 TF.zero_228 rfl (by decide) (by decide) rfl rfl (fun k15 hb1 hb2 h16 hb3 => ?_))
   have hS := hS k15 hb1 hb2 h16 hb3
   refine Run.go rfl rfl rfl (sem_callL [(Value.slice a11 n12 c13), (Value.int .i64 (i7)), (Value.slice (some ⟨k15, 0, none⟩) 1 1)] (TF.goes_122) rfl rfl (Spec.mono hS fun v h17 hv => ?_))
   obtain ⟨a18, n19, c20, rfl, hS⟩ := hv
   obtain ⟨A21, e22, hS⟩ := hS
   refine Run.go rfl rfl rfl (sem_nilCheck A21 (congrArg Value.pointer e22) ?_)
   refine Run.go rfl rfl rfl (sem_fieldAddr A21 0 rfl TF.fld_220_0 ?_)
   obtain ⟨h23, hst, hS⟩ := hS
   refine Run.go rfl rfl rfl (sem_store1 A21 ((Value.slice a18 n19 c20)) h23 rfl rfl rfl TF.sz_218 hst ?_)
   refine Run.region_end ?_
   refine Run.seq ?_
   refine Run.ops0 (idx := [0]) rfl ?_
   refine Run.go rfl rfl rfl (sem_assign ((Value.bool true)) rfl ?_)
   refine Run.region_end ?_
   refine Run.ret ⟨.inr rfl, ?_⟩
   exact hS.imp fun h' hq => ⟨(true), rfl, hq⟩
  ·have hS := hT rfl; clear hT hF
   refine Run.go rfl rfl rfl (sem_extract #[(Value.int .i64 (i7)), (Value.bool true)] (.bool true) rfl rfl ?_)
   refine Run.go rfl rfl rfl (sem_assign ((Value.int .i64 (i7))) rfl ?_)
   refine Run.go rfl rfl rfl (sem_assign ((Value.bool true)) rfl ?_)
   refine Run.region_end ?_
   refine Run.seq ?_
   refine Run.seq ?_
   refine Run.ops0 (idx := [0]) rfl ?_
   refine Run.go rfl rfl rfl (sem_move ((Value.bool true)) rfl ?_)
   refine Run.region_end ?_
   refine Run.condT rfl ?_
   refine Run.ops0 (idx := [0, 1, 2, 3, 4, 5, 6, 7, 8]) rfl ?_
   refine Run.go rfl rfl rfl (sem_move ((Value.pointer p1)) rfl ?_)
   obtain ⟨A24, e25, hS⟩ := hS
   refine Run.go rfl rfl rfl (sem_nilCheck A24 (congrArg Value.pointer e25) ?_)
   refine Run.go rfl rfl rfl (sem_fieldAddr A24 0 rfl TF.fld_220_0 ?_)
   refine Run.ldSl hS fun a26 n27 c28 h29 hl hS => ?_
   refine Run.go rfl rfl rfl (sem_load1 A24 ((Value.slice a26 n27 c28)) rfl TF.agg_218 hl ?_)
   refine Run.go rfl rfl rfl (sem_move ((Value.int .i64 (i7))) rfl ?_)
   refine Run.go rfl rfl rfl (sem_move ((Value.int .i64 (i3))) rfl ?_)
   obtain ⟨A30, e31, hi0, hi1, hS⟩ := hS
   refine Run.go rfl rfl rfl (sem_indexAddrS A30 n27 c28 .i64 (i7) (congrArg (fun a => Value.slice a n27 c28) e31) rfl TF.slc_218 hi0 hi1 ?_)
   refine Run.go rfl rfl rfl (sem_fieldAddr (Addr.add A30 (Int.toNat (i7) * 2)) 1 rfl TF.fld_228_1 ?_)
   obtain ⟨h32, hst, hS⟩ := hS
   refine Run.go rfl rfl rfl (sem_store1 (Addr.add (Addr.add A30 (Int.toNat (i7) * 2)) 1) ((Value.int .i64 (i3))) h32 rfl rfl rfl TF.sz_3 hst ?_)
   refine Run.region_end ?_
   refine Run.seq ?_
   refine Run.ops0 (idx := [0]) rfl ?_
   refine Run.go rfl rfl rfl (sem_assign ((Value.bool true)) rfl ?_)
   refine Run.region_end ?_
   refine Run.ret ⟨.inr rfl, ?_⟩
   exact hS.imp fun h' hq => ⟨(true), rfl, hq⟩
set_option maxHeartbeats 4000000 in
theorem C_cursor_Cursor_Step.of {B : RO} {p1 : Option Addr} {i2 : Int} {h : Heap} {Q : Bool → Heap → Prop} (hS : S_cursor_Cursor_Step B p1 i2 h Q) : C_cursor_Cursor_Step B p1 i2 h Q := by
 unfold S_cursor_Cursor_Step at hS
 unfold C_cursor_Cursor_Step
 refine Spec.of_run Try.func76 (N := 31) (rs := [ResultVar.tmp 4]) rfl rfl rfl (Nat.le_of_ble_eq_true rfl) ?_
 refine Run.seq ?_
 refine Run.ops0 (idx := [0]) rfl ?_
 refine Run.go rfl rfl rfl (sem_assign ((Value.bool false)) rfl ?_)
 refine Run.region_end ?_
 refine Run.seqJ (fun e h5 => Agree [(0, (Value.pointer p1)), (1, (Value.int .i64 (i2)))] e ∧ S_cursor_Cursor_Step_J1 B p1 i2 h5 Q) ?_ fun j4 => ?_
 ·rintro e h5 ⟨hag, hS⟩
  refine Run.env hag ?_; clear hag
  refine Run.seq ?_
  refine Run.drawM (fun h' => h' = h5) [10] ⟨[0, 0, 1, 4, 10, 16, 32, 1, 128, 383, 639], [2047, 2047, 2046, 2043, 2037, 2031, 2015, 2046, 1919, 1789, 1471], [0, 0, 1, 5, 15, 31, 63, 1, 129, 511, 1023], 1024⟩ (.q 0 (.q 1 (.q 2 (.q 3 (.q 4 (.q 5 (.q 6 (.q 7 (.q 8 (.q 9 (.x 10 .nil .no))))))))))) TF.mixed (by kernel_rfl) rfl ?_
  refine RunT.quiet rfl rfl rfl (quiet_eq (sem_move ((Value.pointer p1)) rfl ⟨rfl, rfl⟩)) ?_
  refine RunT.quiet rfl rfl rfl (quiet_eq (sem_move ((Value.int .i64 (i2))) rfl ⟨rfl, rfl⟩)) ?_
  obtain ⟨A6, e7, hS⟩ := hS
  refine RunT.quiet rfl rfl rfl (quiet_eq (sem_nilCheck A6 (congrArg Value.pointer e7) ⟨rfl, rfl⟩)) ?_
  refine RunT.quiet rfl rfl rfl (quiet_eq (sem_fieldAddr A6 0 rfl TF.fld_224_0 ⟨rfl, rfl⟩)) ?_
  obtain ⟨hi0, hi1, hS⟩ := hS
  refine RunT.quiet rfl rfl rfl (quiet_eq (sem_indexAddrA A6 .i64 (i2) rfl rfl TF.arr_222 hi0 hi1 ⟨rfl, rfl⟩)) ?_
  obtain ⟨i8, hl, hS⟩ := hS
  refine RunT.quiet rfl rfl rfl (quiet_eq (sem_load1 (Addr.add A6 (Int.toNat (i2) * 1)) ((Value.int .i64 (i8))) rfl TF.agg_3 hl ⟨rfl, rfl⟩)) ?_
  refine RunT.quiet rfl rfl rfl (quiet_eq (sem_binI .i64 (i8) (1) ((Value.int .i64 (IntKind.wrap .i64 ((i8) + (1))))) rfl rfl rfl ⟨rfl, rfl⟩)) ?_
  obtain ⟨A9, e10, hS⟩ := hS
  refine RunT.quiet rfl rfl rfl (quiet_eq (sem_nilCheck A9 (congrArg Value.pointer e10) ⟨rfl, rfl⟩)) ?_
  refine RunT.quiet rfl rfl rfl (quiet_eq (sem_fieldAddr A9 0 rfl TF.fld_224_0 ⟨rfl, rfl⟩)) ?_
  obtain ⟨hi0, hi1, hS⟩ := hS
  refine RunT.quiet rfl rfl rfl (quiet_eq (sem_indexAddrA A9 .i64 (i2) rfl rfl TF.arr_222 hi0 hi1 ⟨rfl, rfl⟩)) ?_
  refine ⟨?_, trivial⟩
  obtain ⟨h11, hst, hS⟩ := hS
  refine OpH.go rfl rfl rfl (sem_store1 (Addr.add A9 (Int.toNat (i2) * 1)) ((Value.int .i64 (IntKind.wrap .i64 ((i8) + (1))))) h11 rfl rfl rfl TF.sz_3 hst ?_)
  refine ⟨fun hz => Bool.noConfusion hz, ?_⟩
  refine Run.seq ?_
  refine Run.ops0 (idx := [0]) rfl ?_
  refine Run.go rfl rfl rfl (sem_assign ((Value.bool true)) rfl ?_)
  refine Run.region_end ?_
  refine Run.ret ⟨.inr rfl, ?_⟩
  exact hS.imp fun h' hq => ⟨(true), rfl, hq⟩
 refine Run.seq ?_
 refine Run.ops0 (idx := [0, 1, 2, 3, 4, 5, 6, 7, 8, 9, 10, 11, 12, 13, 14, 15]) rfl ?_
 refine Run.go rfl rfl rfl (sem_move ((Value.pointer p1)) rfl ?_)
 obtain ⟨hT, hF⟩ := hS
 by_cases hb12 : p1 = none
 ·have hS := hT hb12; clear hT hF
  refine Run.go rfl rfl rfl (sem_ptrNilT p1 (.inl rfl) true rfl rfl TF.ptr_137 hb12 rfl ?_)
  refine Run.go rfl rfl rfl (sem_move ((Value.bool true)) rfl ?_)
  refine Run.no rfl rfl rfl ?_
  refine Run.no rfl rfl rfl ?_
  refine Run.no rfl rfl rfl ?_
  refine Run.go rfl rfl rfl (sem_pick true ((Value.bool true)) rfl rfl ?_)
  refine Run.go rfl rfl rfl (sem_move ((Value.bool true)) rfl ?_)
  refine Run.no rfl rfl rfl ?_
  refine Run.no rfl rfl rfl ?_
  refine Run.no rfl rfl rfl ?_
  refine Run.no rfl rfl rfl ?_
  refine Run.no rfl rfl rfl ?_
  refine Run.no rfl rfl rfl ?_
  refine Run.no rfl rfl rfl ?_
  refine Run.go rfl rfl rfl (sem_pick true ((Value.bool true)) rfl rfl ?_)
  refine Run.region_end ?_
  refine Run.condT rfl ?_
  refine Run.seq ?_
  refine Run.ops0 (idx := [0]) rfl ?_
  refine Run.go rfl rfl rfl (sem_assign ((Value.bool false)) rfl ?_)
  refine Run.region_end ?_
  refine Run.ret ⟨.inr rfl, ?_⟩
  exact hS.imp fun h' hq => ⟨(false), rfl, hq⟩
 ·have hS := hF hb12; clear hT hF
  refine Run.go rfl rfl rfl (sem_ptrNilF p1 (.inl rfl) false rfl rfl TF.ptr_137 hb12 rfl ?_)
  refine Run.go rfl rfl rfl (sem_move ((Value.bool false)) rfl ?_)
  refine Run.go rfl rfl rfl (sem_move ((Value.int .i64 (i2))) rfl ?_)
  refine Run.go rfl rfl rfl (sem_callL [(Value.int .i64 (i2))] (TF.goes_123) rfl rfl (Spec.mono hS fun v h13 hv => ?_))
  obtain ⟨b14, rfl, hS⟩ := hv
  obtain ⟨hT, hF⟩ := hS
  cases b14
  ·have hS := hF rfl; clear hT hF
   refine Run.go rfl rfl rfl (sem_not false rfl ?_)
   refine Run.go rfl rfl rfl (sem_pick false ((Value.bool true)) rfl rfl ?_)
   refine Run.go rfl rfl rfl (sem_move ((Value.bool true)) rfl ?_)
   refine Run.no rfl rfl rfl ?_
   refine Run.no rfl rfl rfl ?_
   refine Run.no rfl rfl rfl ?_
   refine Run.no rfl rfl rfl ?_
   refine Run.no rfl rfl rfl ?_
   refine Run.no rfl rfl rfl ?_
   refine Run.no rfl rfl rfl ?_
   refine Run.go rfl rfl rfl (sem_pick true ((Value.bool true)) rfl rfl ?_)
   refine Run.region_end ?_
   refine Run.condT rfl ?_
   refine Run.seq ?_
   refine Run.ops0 (idx := [0]) rfl ?_
   refine Run.go rfl rfl rfl (sem_assign ((Value.bool false)) rfl ?_)
   refine Run.region_end ?_
   refine Run.ret ⟨.inr rfl, ?_⟩
   exact hS.imp fun h' hq => ⟨(false), rfl, hq⟩
  ·have hS := hT rfl; clear hT hF
   refine Run.go rfl rfl rfl (sem_not true rfl ?_)
   refine Run.go rfl rfl rfl (sem_pick false ((Value.bool false)) rfl rfl ?_)
   refine Run.go rfl rfl rfl (sem_move ((Value.bool false)) rfl ?_)
   refine Run.go rfl rfl rfl (sem_move ((Value.pointer p1)) rfl ?_)
   refine Run.go rfl rfl rfl (sem_move ((Value.int .i64 (i2))) rfl ?_)
   obtain ⟨A15, e16, hS⟩ := hS
   refine Run.go rfl rfl rfl (sem_nilCheck A15 (congrArg Value.pointer e16) ?_)
   refine Run.go rfl rfl rfl (sem_fieldAddr A15 0 rfl TF.fld_224_0 ?_)
   obtain ⟨hi0, hi1, hS⟩ := hS
   refine Run.go rfl rfl rfl (sem_indexAddrA A15 .i64 (i2) rfl rfl TF.arr_222 hi0 hi1 ?_)
   obtain ⟨i17, hl, hS⟩ := hS
   refine Run.go rfl rfl rfl (sem_load1 (Addr.add A15 (Int.toNat (i2) * 1)) ((Value.int .i64 (i17))) rfl TF.agg_3 hl ?_)
   obtain ⟨hT, hF⟩ := hS
   by_cases hb18 : (i17 : Int) ≥ (64)
   ·have hS := hT hb18; clear hT hF
    refine Run.go rfl rfl rfl (sem_binI .i64 (i17) (64) (.bool true) rfl rfl (binI_geq_t hb18) ?_)
    refine Run.go rfl rfl rfl (sem_pick false ((Value.bool true)) rfl rfl ?_)
    refine Run.region_end ?_
    refine Run.condT rfl ?_
    refine Run.seq ?_
    refine Run.ops0 (idx := [0]) rfl ?_
    refine Run.go rfl rfl rfl (sem_assign ((Value.bool false)) rfl ?_)
    refine Run.region_end ?_
    refine Run.ret ⟨.inr rfl, ?_⟩
    exact hS.imp fun h' hq => ⟨(false), rfl, hq⟩
   ·have hS := hF hb18; clear hT hF
    refine Run.go rfl rfl rfl (sem_binI .i64 (i17) (64) (.bool false) rfl rfl (binI_geq_f hb18) ?_)
    refine Run.go rfl rfl rfl (sem_pick false ((Value.bool false)) rfl rfl ?_)
    refine Run.region_end ?_
    refine Run.condF rfl ?_
    refine Run.skip ?_
    exact Run.of_fin (hS.imp fun h' hS => j4 _ _ ⟨⟨rfl, rfl, trivial⟩, hS⟩)
set_option maxHeartbeats 4000000 in
theorem C_mark_Stack_Push.of {B : RO} {p1 : Option Addr} {p2 : Option Addr} {p3 : Option Addr} {p4 : Option Addr} {i5 : Int} {i6 : Int} {i7 : Int} {i8 : Int} {i9 : Int} {i10 : Int} {i11 : Int} {i12 : Int} {i13 : Int} {h : Heap} {Q : Bool → Heap → Prop} (hS : S_mark_Stack_Push B p1 p2 p3 p4 i5 i6 i7 i8 i9 i10 i11 i12 i13 h Q) : C_mark_Stack_Push B p1 p2 p3 p4 i5 i6 i7 i8 i9 i10 i11 i12 i13 h Q := by
 unfold S_mark_Stack_Push at hS
 unfold C_mark_Stack_Push
 refine Spec.of_run Try.func77 (N := 21) (rs := [ResultVar.tmp 4]) rfl rfl rfl (Nat.le_of_ble_eq_true rfl) ?_
 refine Run.seq ?_
 refine Run.ops0 (idx := [0, 1]) rfl ?_
 refine Run.go rfl rfl rfl (sem_boxNN [(Value.pointer p2), (Value.pointer p3), (Value.pointer p4), (Value.int .i64 (i5)), (Value.int .i64 (i6)), (Value.int .i64 (i7)), (Value.int .i64 (i8)), (Value.int .i64 (i9)), (Value.int .i64 (i10)), (Value.int .i64 (i11)), (Value.int .i64 (i12)), (Value.int .i64 (i13))] rfl (fun k15 hb1 hb2 h16 hb3 => ?_))
 have hS := hS k15 hb1 hb2 h16 hb3
 refine Run.go rfl rfl rfl (sem_assign ((Value.bool false)) rfl ?_)
 refine Run.region_end ?_
 refine Run.seq ?_
 refine Run.seq ?_
 refine Run.ops0 (idx := [0, 1]) rfl ?_
 refine Run.go rfl rfl rfl (sem_move ((Value.pointer p1)) rfl ?_)
 obtain ⟨hT, hF⟩ := hS
 by_cases hb17 : p1 = none
 ·have hS := hT hb17; clear hT hF
  refine Run.go rfl rfl rfl (sem_ptrNilT p1 (.inl rfl) true rfl rfl TF.ptr_131 hb17 rfl ?_)
  refine Run.region_end ?_
  refine Run.condT rfl ?_
  refine Run.seq ?_
  refine Run.ops0 (idx := [0]) rfl ?_
  refine Run.go rfl rfl rfl (sem_assign ((Value.bool false)) rfl ?_)
  refine Run.region_end ?_
  refine Run.ret ⟨.inr rfl, ?_⟩
  exact hS.imp fun h' hq => ⟨(false), rfl, hq⟩
 ·have hS := hF hb17; clear hT hF
  refine Run.go rfl rfl rfl (sem_ptrNilF p1 (.inl rfl) false rfl rfl TF.ptr_131 hb17 rfl ?_)
  refine Run.region_end ?_
  refine Run.condF rfl ?_
  refine Run.skip ?_
  refine Run.seq ?_
  refine Run.ops0 (idx := [0, 1, 2, 3, 4]) rfl ?_
  refine Run.go rfl rfl rfl (sem_fieldAddr ⟨k15, 0, none⟩ 0 rfl TF.fld_151_0 ?_)
  obtain ⟨p18, p19, p20, i21, i22, i23, i24, hl, hS⟩ := hS
  refine Run.go rfl rfl rfl (sem_loadN ⟨k15, 0, none⟩ [(Value.pointer p18), (Value.pointer p19), (Value.pointer p20), (Value.int .i64 (i21)), (Value.int .i64 (i22)), (Value.int .i64 (i23)), (Value.int .i64 (i24))] rfl TF.agg_140 TF.sz_140 hl ?_)
  refine Run.go rfl rfl rfl (sem_callL [(Value.agg #[(Value.pointer p18), (Value.pointer p19), (Value.pointer p20), (Value.int .i64 (i21)), (Value.int .i64 (i22)), (Value.int .i64 (i23)), (Value.int .i64 (i24))])] (TF.goes_124) rfl rfl (Spec.mono hS fun v h25 hv => ?_))
  obtain ⟨p26, p27, p28, i29, i30, i31, i32, rfl, hS⟩ := hv
  refine Run.go rfl rfl rfl (sem_fieldAddr ⟨k15, 0, none⟩ 0 rfl TF.fld_151_0 ?_)
  obtain ⟨h33, hst, hS⟩ := hS
  refine Run.go rfl rfl rfl (sem_storeN ⟨k15, 0, none⟩ [(Value.pointer p26), (Value.pointer p27), (Value.pointer p28), (Value.int .i64 (i29)), (Value.int .i64 (i30)), (Value.int .i64 (i31)), (Value.int .i64 (i32))] h33 rfl rfl TF.sz_140 hst ?_)
  refine Run.region_end ?_
  refine Run.seq ?_
  skip
  skip
  obtain ⟨A36, e37, hS⟩ := hS
  skip
  skip
  obtain ⟨a40, n41, c42, hl, hS⟩ := hS
  have f43 := hl
  obtain ⟨p44, p45, p46, i47, i48, i49, i50, i51, i52, i53, i54, i55, hl, hS⟩ := hS
  have f56 := hl
  refine Run.drawM (fun h' => cellH B h' A36 = some (Value.slice a40 n41 c42) ∧ CellsAt B h' ⟨k15, 0, none⟩ 0 [(Value.pointer p44), (Value.pointer p45), (Value.pointer p46), (Value.int .i64 (i47)), (Value.int .i64 (i48)), (Value.int .i64 (i49)), (Value.int .i64 (i50)), (Value.int .i64 (i51)), (Value.int .i64 (i52)), (Value.int .i64 (i53)), (Value.int .i64 (i54)), (Value.int .i64 (i55))] ∧ True) [10] ⟨[0, 0, 2, 4, 8, 0, 32, 80, 255, 511, 767], [2047, 2047, 2045, 2043, 2039, 2047, 2015, 1967, 2046, 1791, 1407], [0, 0, 2, 6, 14, 0, 32, 126, 255, 511, 1023], 1024⟩ (.q 0 (.q 1 (.q 2 (.q 3 (.q 4 (.q 5 (.x 6 (.x 7 (.q 8 (.q 9 (.x 10 .nil .no))) .no) .no))))))) TF.mixed (by kernel_rfl) ⟨f43, f56, trivial⟩ ?_
  refine RunT.quiet rfl rfl rfl (fun h' hC => sem_move ((Value.pointer p1)) rfl ⟨rfl, rfl⟩) ?_
  refine RunT.quiet rfl rfl rfl (fun h' hC => sem_move ((Value.pointer p1)) rfl ⟨rfl, rfl⟩) ?_
  refine RunT.quiet rfl rfl rfl (fun h' hC => sem_nilCheck A36 (congrArg Value.pointer e37) ⟨rfl, rfl⟩) ?_
  refine RunT.quiet rfl rfl rfl (fun h' hC => sem_fieldAddr A36 0 rfl TF.fld_134_0 ⟨rfl, rfl⟩) ?_
  refine RunT.quiet rfl rfl rfl (fun h' hC => sem_load1 A36 ((Value.slice a40 n41 c42)) rfl TF.agg_132 hC.1 ⟨rfl, rfl⟩) ?_
  refine RunT.quiet rfl rfl rfl (fun h' hC => sem_loadN ⟨k15, 0, none⟩ [(Value.pointer p44), (Value.pointer p45), (Value.pointer p46), (Value.int .i64 (i47)), (Value.int .i64 (i48)), (Value.int .i64 (i49)), (Value.int .i64 (i50)), (Value.int .i64 (i51)), (Value.int .i64 (i52)), (Value.int .i64 (i53)), (Value.int .i64 (i54)), (Value.int .i64 (i55))] rfl TF.agg_151 TF.sz_151 hC.2.1 ⟨rfl, rfl⟩) ?_
  refine ⟨?_, trivial⟩
  refine OpH.go rfl rfl rfl (sem_buildSliceL [(0, (Value.agg #[(Value.pointer p44), (Value.pointer p45), (Value.pointer p46), (Value.int .i64 (i47)), (Value.int .i64 (i48)), (Value.int .i64 (i49)), (Value.int .i64 (i50)), (Value.int .i64 (i51)), (Value.int .i64 (i52)), (Value.int .i64 (i53)), (Value.int .i64 (i54)), (Value.int .i64 (i55))]))] [(Value.pointer p44), (Value.pointer p45), (Value.pointer p46), (Value.int .i64 (i47)), (Value.int .i64 (i48)), (Value.int .i64 (i49)), (Value.int .i64 (i50)), (Value.int .i64 (i51)), (Value.int .i64 (i52)), (Value.int .i64 (i53)), (Value.int .i64 (i54)), (Value.int .i64 (i55))] TF.slc_132 TF.zero_151 rfl (by decide) (by decide) rfl rfl (fun k57 hb1 hb2 h58 hb3 => ?_))
  have hS := hS k57 hb1 hb2 h58 hb3
  obtain ⟨g59, g60, hS⟩ := hS
  refine ⟨fun _ => ⟨g59, g60, trivial⟩, ?_⟩
  refine ⟨?_, trivial⟩
  refine OpH.go rfl rfl rfl (sem_appendL [(Value.slice a40 n41 c42), (Value.slice (some ⟨k57, 0, none⟩) 1 1)] rfl (semH_mono (fun v h61 hv => ?_) hS))
  obtain ⟨a62, n63, c64, rfl, hS⟩ := hv
  obtain ⟨g65, g66, hS⟩ := hS
  refine ⟨fun _ => ⟨g65, g66, trivial⟩, ?_⟩
  obtain ⟨A67, e68, hS⟩ := hS
  refine RunT.quiet rfl rfl rfl (fun h' hC => sem_nilCheck A67 (congrArg Value.pointer e68) ⟨rfl, rfl⟩) ?_
  refine RunT.quiet rfl rfl rfl (fun h' hC => sem_fieldAddr A67 0 rfl TF.fld_134_0 ⟨rfl, rfl⟩) ?_
  refine ⟨?_, trivial⟩
  obtain ⟨h69, hst, hS⟩ := hS
  refine OpH.go rfl rfl rfl (sem_store1 A67 ((Value.slice a62 n63 c64)) h69 rfl rfl rfl TF.sz_132 hst ?_)
  refine ⟨fun hz => Bool.noConfusion hz, ?_⟩
  refine Run.seq ?_
  refine Run.ops0 (idx := [0]) rfl ?_
  refine Run.go rfl rfl rfl (sem_assign ((Value.bool true)) rfl ?_)
  refine Run.region_end ?_
  refine Run.ret ⟨.inr rfl, ?_⟩
  exact hS.imp fun h' hq => ⟨(true), rfl, hq⟩
set_option maxHeartbeats 4000000 in
theorem C_countermandref17_Copy.of {B : RO} {a1 : Option Addr} {n2 : Nat} {c3 : Nat} {i4 : Int} {i5 : Int} {h : Heap} {Q : Option Addr → Nat → Nat → Int → Int → Heap → Prop} (hS : S_countermandref17_Copy B a1 n2 c3 i4 i5 h Q) : C_countermandref17_Copy B a1 n2 c3 i4 i5 h Q := by
 unfold S_countermandref17_Copy at hS
 unfold C_countermandref17_Copy
 refine Spec.of_run Try.func78 (N := 12) (rs := [ResultVar.cell 2 144]) rfl rfl rfl (Nat.le_of_ble_eq_true rfl) ?_
 refine Run.seq ?_
 refine Run.ops0 (idx := [0, 1]) rfl ?_
 refine Run.go rfl rfl rfl (sem_boxNN [(Value.slice a1 n2 c3), (Value.int .i64 (i4)), (Value.int .i64 (i5))] rfl (fun k11 hb1 hb2 h12 hb3 => ?_))
 have hS := hS k11 hb1 hb2 h12 hb3
 refine Run.go rfl rfl rfl (sem_allocN [(Value.slice none 0 0), (Value.int .i64 (0)), (Value.int .i64 (0))] TF.zero_144 (fun k13 hb1 hb2 h14 hb3 => ?_))
 have hS := hS k13 hb1 hb2 h14 hb3
 refine Run.region_end ?_
 refine Run.seq ?_
 skip
 obtain ⟨a16, n17, c18, hl, hS⟩ := hS
 have f19 := hl
 skip
 obtain ⟨i21, hl, hS⟩ := hS
 have f22 := hl
 skip
 obtain ⟨i24, hl, hS⟩ := hS
 have f25 := hl
 refine Run.drawM (fun h' => cellH B h' ⟨k11, 0, none⟩ = some (Value.slice a16 n17 c18) ∧ cellH B h' ⟨k11, 1, none⟩ = some (Value.int .i64 (i21)) ∧ cellH B h' ⟨k11, 2, none⟩ = some (Value.int .i64 (i24)) ∧ True) [9] ⟨[0, 0, 2, 5, 0, 16, 0, 64, 168, 511], [1023, 1023, 1021, 1018, 1023, 1007, 1023, 959, 855, 767], [0, 0, 2, 7, 0, 16, 0, 64, 255, 511], 512⟩ (.q 1 (.q 2 (.q 4 (.q 5 (.q 6 (.q 7 (.x 0 (.x 3 (.q 8 (.x 9 .nil .no)) .no) .no))))))) TF.mixed (by kernel_rfl) ⟨f19, f22, f25, trivial⟩ ?_
 refine RunT.quiet rfl rfl rfl (fun h' hC => sem_fieldAddr ⟨k11, 0, none⟩ 0 rfl TF.fld_144_0 ⟨rfl, rfl⟩) ?_
 refine RunT.quiet rfl rfl rfl (fun h' hC => sem_load1 ⟨k11, 0, none⟩ ((Value.slice a16 n17 c18)) rfl TF.agg_142 hC.1 ⟨rfl, rfl⟩) ?_
 refine RunT.quiet rfl rfl rfl (fun h' hC => sem_fieldAddr ⟨k11, 0, none⟩ 1 rfl TF.fld_144_1 ⟨rfl, rfl⟩) ?_
 refine RunT.quiet rfl rfl rfl (fun h' hC => sem_load1 ⟨k11, 1, none⟩ ((Value.int .i64 (i21))) rfl TF.agg_3 hC.2.1 ⟨rfl, rfl⟩) ?_
 refine RunT.quiet rfl rfl rfl (fun h' hC => sem_fieldAddr ⟨k11, 0, none⟩ 2 rfl TF.fld_144_2 ⟨rfl, rfl⟩) ?_
 refine RunT.quiet rfl rfl rfl (fun h' hC => sem_load1 ⟨k11, 2, none⟩ ((Value.int .i64 (i24))) rfl TF.agg_3 hC.2.2.1 ⟨rfl, rfl⟩) ?_
 refine ⟨?_, trivial⟩
 refine OpH.go rfl rfl rfl (sem_buildSlice0N TF.slc_142 (fun k26 hb1 hb2 h27 hb3 => ?_))
 have hS := hS k26 hb1 hb2 h27 hb3
 obtain ⟨g28, g29, g30, hS⟩ := hS
 refine ⟨fun _ => ⟨g28, g29, g30, trivial⟩, ?_⟩
 refine ⟨?_, trivial⟩
 refine OpH.go rfl rfl rfl (sem_appendL [(Value.slice (some ⟨k26, 0, none⟩) 0 0), (Value.slice a16 n17 c18)] rfl (semH_mono (fun v h31 hv => ?_) hS))
 obtain ⟨a32, n33, c34, rfl, hS⟩ := hv
 obtain ⟨g35, g36, g37, hS⟩ := hS
 refine ⟨fun _ => ⟨g35, g36, g37, trivial⟩, ?_⟩
 refine RunT.quiet rfl rfl rfl (fun h' hC => sem_buildSL [(0, (Value.slice a32 n33 c34)), (1, (Value.int .i64 (i21))), (2, (Value.int .i64 (i24)))] [(Value.slice a32 n33 c34), (Value.int .i64 (i21)), (Value.int .i64 (i24))] TF.zero_144 TF.places_144 rfl rfl ⟨rfl, rfl⟩) ?_
 refine ⟨?_, trivial⟩
 obtain ⟨h38, hst, hS⟩ := hS
 refine OpH.go rfl rfl rfl (sem_storeN ⟨k13, 0, none⟩ [(Value.slice a32 n33 c34), (Value.int .i64 (i21)), (Value.int .i64 (i24))] h38 rfl rfl TF.sz_144 hst ?_)
 refine ⟨fun hz => Bool.noConfusion hz, ?_⟩
 obtain ⟨a39, n40, c41, i42, i43, hl0, hS⟩ := hS
 refine Run.ret ⟨.inr rfl, ?_⟩
 exact ⟨⟨k13, 0, none⟩, (Value.agg #[(Value.slice a39 n40 c41), (Value.int .i64 (i42)), (Value.int .i64 (i43))]), rfl, loadHN TF.agg_144 TF.sz_144 hl0, hS.imp fun h' hq => ⟨a39, n40, c41, (i42), (i43), rfl, hq⟩⟩
set_option maxHeartbeats 4000000 in
theorem C_mark_Stack_Pop.of {B : RO} {p1 : Option Addr} {h : Heap} {Q : Option Addr → Option Addr → Option Addr → Int → Int → Int → Int → Int → Int → Int → Int → Int → Bool → Heap → Prop} (hS : S_mark_Stack_Pop B p1 h Q) : C_mark_Stack_Pop B p1 h Q := by
 unfold S_mark_Stack_Pop at hS
 unfold C_mark_Stack_Pop
 refine Spec.of_run Try.func79 (N := 42) (rs := [ResultVar.cell 2 151, ResultVar.tmp 3]) rfl rfl rfl (Nat.le_of_ble_eq_true rfl) ?_
 refine Run.seq ?_
 refine Run.ops0 (idx := [0, 1]) rfl ?_
 refine Run.go rfl rfl rfl (sem_allocN [(Value.pointer none), (Value.pointer none), (Value.pointer none), (Value.int .i64 (0)), (Value.int .i64 (0)), (Value.int .i64 (0)), (Value.int .i64 (0)), (Value.int .i64 (0)), (Value.int .i64 (0)), (Value.int .i64 (0)), (Value.int .i64 (0)), (Value.int .i64 (0))] TF.zero_151 (fun k15 hb1 hb2 h16 hb3 => ?_))
 have hS := hS k15 hb1 hb2 h16 hb3
 refine Run.go rfl rfl rfl (sem_assign ((Value.bool false)) rfl ?_)
 refine Run.region_end ?_
 refine Run.seqJ (fun e h18 => Agree [(0, (Value.pointer p1)), (2, (Value.pointer (some ⟨k15, 0, none⟩)))] e ∧ S_mark_Stack_Pop_J1 B p1 k15 h18 Q) ?_ fun j17 => ?_
 ·rintro e h18 ⟨hag, hS⟩
  refine Run.env hag ?_; clear hag
  refine Run.seq ?_
  refine Run.ops0 (idx := [0, 1, 2, 3, 4, 5, 6]) rfl ?_
  refine Run.go rfl rfl rfl (sem_move ((Value.pointer p1)) rfl ?_)
  obtain ⟨A19, e20, hS⟩ := hS
  refine Run.go rfl rfl rfl (sem_nilCheck A19 (congrArg Value.pointer e20) ?_)
  refine Run.go rfl rfl rfl (sem_fieldAddr A19 0 rfl TF.fld_134_0 ?_)
  refine Run.ldSl hS fun a21 n22 c23 h24 hl hS => ?_
  refine Run.go rfl rfl rfl (sem_load1 A19 ((Value.slice a21 n22 c23)) rfl TF.agg_132 hl ?_)
  refine Run.go rfl rfl rfl (sem_lenSl a21 n22 c23 rfl TF.sl_132 ?_)
  refine Run.go rfl rfl rfl (sem_binI .i64 ((n22 : Nat)) (1) ((Value.int .i64 (IntKind.wrap .i64 (((n22 : Nat)) - (1))))) rfl rfl rfl ?_)
  refine Run.go rfl rfl rfl (sem_assign ((Value.int .i64 (IntKind.wrap .i64 (((n22 : Nat)) - (1))))) rfl ?_)
  refine Run.region_end ?_
  refine Run.seq ?_
  refine Run.ops0 (idx := [0, 1, 2, 3, 4, 5, 6, 7, 8]) rfl ?_
  refine Run.go rfl rfl rfl (sem_move ((Value.pointer p1)) rfl ?_)
  obtain ⟨A25, e26, hS⟩ := hS
  refine Run.go rfl rfl rfl (sem_nilCheck A25 (congrArg Value.pointer e26) ?_)
  refine Run.go rfl rfl rfl (sem_fieldAddr A25 0 rfl TF.fld_134_0 ?_)
  refine Run.ldSl hS fun a27 n28 c29 h30 hl hS => ?_
  refine Run.go rfl rfl rfl (sem_load1 A25 ((Value.slice a27 n28 c29)) rfl TF.agg_132 hl ?_)
  refine Run.go rfl rfl rfl (sem_move ((Value.int .i64 (IntKind.wrap .i64 (((n22 : Nat)) - (1))))) rfl ?_)
  obtain ⟨A31, e32, hi0, hi1, hS⟩ := hS
  refine Run.go rfl rfl rfl (sem_indexAddrS A31 n28 c29 .i64 (IntKind.wrap .i64 (((n22 : Nat)) - (1))) (congrArg (fun a => Value.slice a n28 c29) e32) rfl TF.slc_132 hi0 hi1 ?_)
  obtain ⟨p33, p34, p35, i36, i37, i38, i39, i40, i41, i42, i43, i44, hl, hS⟩ := hS
  refine Run.go rfl rfl rfl (sem_loadN (Addr.add A31 (Int.toNat (IntKind.wrap .i64 (((n22 : Nat)) - (1))) * 12)) [(Value.pointer p33), (Value.pointer p34), (Value.pointer p35), (Value.int .i64 (i36)), (Value.int .i64 (i37)), (Value.int .i64 (i38)), (Value.int .i64 (i39)), (Value.int .i64 (i40)), (Value.int .i64 (i41)), (Value.int .i64 (i42)), (Value.int .i64 (i43)), (Value.int .i64 (i44))] rfl TF.agg_151 TF.sz_151 hl ?_)
  refine Run.go rfl rfl rfl (sem_allocN [(Value.pointer none), (Value.pointer none), (Value.pointer none), (Value.int .i64 (0)), (Value.int .i64 (0)), (Value.int .i64 (0)), (Value.int .i64 (0)), (Value.int .i64 (0)), (Value.int .i64 (0)), (Value.int .i64 (0)), (Value.int .i64 (0)), (Value.int .i64 (0))] TF.zero_151 (fun k45 hb1 hb2 h46 hb3 => ?_))
  have hS := hS k45 hb1 hb2 h46 hb3
  obtain ⟨h47, hst, hS⟩ := hS
  refine Run.go rfl rfl rfl (sem_storeN ⟨k45, 0, none⟩ [(Value.pointer p33), (Value.pointer p34), (Value.pointer p35), (Value.int .i64 (i36)), (Value.int .i64 (i37)), (Value.int .i64 (i38)), (Value.int .i64 (i39)), (Value.int .i64 (i40)), (Value.int .i64 (i41)), (Value.int .i64 (i42)), (Value.int .i64 (i43)), (Value.int .i64 (i44))] h47 rfl rfl TF.sz_151 hst ?_)
  refine Run.region_end ?_
  refine Run.seq ?_
  refine Run.ops0 (idx := [0, 1, 2, 3, 4, 5, 6, 7, 8, 9, 10, 11]) rfl ?_
  refine Run.go rfl rfl rfl (sem_move ((Value.pointer p1)) rfl ?_)
  refine Run.go rfl rfl rfl (sem_move ((Value.pointer p1)) rfl ?_)
  obtain ⟨A48, e49, hS⟩ := hS
  refine Run.go rfl rfl rfl (sem_nilCheck A48 (congrArg Value.pointer e49) ?_)
  refine Run.go rfl rfl rfl (sem_fieldAddr A48 0 rfl TF.fld_134_0 ?_)
  refine Run.ldSl hS fun a50 n51 c52 h53 hl hS => ?_
  refine Run.go rfl rfl rfl (sem_load1 A48 ((Value.slice a50 n51 c52)) rfl TF.agg_132 hl ?_)
  refine Run.go rfl rfl rfl (sem_move ((Value.int .i64 (IntKind.wrap .i64 (((n22 : Nat)) - (1))))) rfl ?_)
  refine Run.go rfl rfl rfl (sem_move ((Value.int .i64 (IntKind.wrap .i64 (((n22 : Nat)) - (1))))) rfl ?_)
  refine Run.go rfl rfl rfl (sem_binI .i64 (IntKind.wrap .i64 (((n22 : Nat)) - (1))) (1) ((Value.int .i64 (IntKind.wrap .i64 ((IntKind.wrap .i64 (((n22 : Nat)) - (1))) + (1))))) rfl rfl rfl ?_)
  refine Run.go rfl rfl rfl (sem_callL [(Value.slice a50 n51 c52), (Value.int .i64 (IntKind.wrap .i64 (((n22 : Nat)) - (1)))), (Value.int .i64 (IntKind.wrap .i64 ((IntKind.wrap .i64 (((n22 : Nat)) - (1))) + (1))))] (TF.goes_125) rfl rfl (Spec.mono hS fun v h54 hv => ?_))
  obtain ⟨a55, n56, c57, rfl, hS⟩ := hv
  obtain ⟨A58, e59, hS⟩ := hS
  refine Run.go rfl rfl rfl (sem_nilCheck A58 (congrArg Value.pointer e59) ?_)
  refine Run.go rfl rfl rfl (sem_fieldAddr A58 0 rfl TF.fld_134_0 ?_)
  obtain ⟨h60, hst, hS⟩ := hS
  refine Run.go rfl rfl rfl (sem_store1 A58 ((Value.slice a55 n56 c57)) h60 rfl rfl rfl TF.sz_132 hst ?_)
  refine Run.region_end ?_
  refine Run.seq ?_
  refine Run.ops0 (idx := [0, 1, 2]) rfl ?_
  obtain ⟨p61, p62, p63, i64, i65, i66, i67, i68, i69, i70, i71, i72, hl, hS⟩ := hS
  refine Run.go rfl rfl rfl (sem_loadN ⟨k45, 0, none⟩ [(Value.pointer p61), (Value.pointer p62), (Value.pointer p63), (Value.int .i64 (i64)), (Value.int .i64 (i65)), (Value.int .i64 (i66)), (Value.int .i64 (i67)), (Value.int .i64 (i68)), (Value.int .i64 (i69)), (Value.int .i64 (i70)), (Value.int .i64 (i71)), (Value.int .i64 (i72))] rfl TF.agg_151 TF.sz_151 hl ?_)
  obtain ⟨h73, hst, hS⟩ := hS
  refine Run.go rfl rfl rfl (sem_storeN ⟨k15, 0, none⟩ [(Value.pointer p61), (Value.pointer p62), (Value.pointer p63), (Value.int .i64 (i64)), (Value.int .i64 (i65)), (Value.int .i64 (i66)), (Value.int .i64 (i67)), (Value.int .i64 (i68)), (Value.int .i64 (i69)), (Value.int .i64 (i70)), (Value.int .i64 (i71)), (Value.int .i64 (i72))] h73 rfl rfl TF.sz_151 hst ?_)
  refine Run.go rfl rfl rfl (sem_assign ((Value.bool true)) rfl ?_)
  refine Run.region_end ?_
  obtain ⟨p74, p75, p76, i77, i78, i79, i80, i81, i82, i83, i84, i85, hl0, hS⟩ := hS
  refine Run.ret ⟨.inr rfl, ?_⟩
  exact ⟨⟨k15, 0, none⟩, (Value.agg #[(Value.pointer p74), (Value.pointer p75), (Value.pointer p76), (Value.int .i64 (i77)), (Value.int .i64 (i78)), (Value.int .i64 (i79)), (Value.int .i64 (i80)), (Value.int .i64 (i81)), (Value.int .i64 (i82)), (Value.int .i64 (i83)), (Value.int .i64 (i84)), (Value.int .i64 (i85))]), rfl, loadHN TF.agg_151 TF.sz_151 hl0, hS.imp fun h' hq => ⟨p74, p75, p76, (i77), (i78), (i79), (i80), (i81), (i82), (i83), (i84), (i85), (true), rfl, hq⟩⟩
 refine Run.seq ?_
 refine Run.ops0 (idx := [0, 1, 2, 3, 4, 5, 6, 7, 8, 9]) rfl ?_
 refine Run.go rfl rfl rfl (sem_move ((Value.pointer p1)) rfl ?_)
 obtain ⟨hT, hF⟩ := hS
 by_cases hb86 : p1 = none
 ·have hS := hT hb86; clear hT hF
  refine Run.go rfl rfl rfl (sem_ptrNilT p1 (.inl rfl) true rfl rfl TF.ptr_131 hb86 rfl ?_)
  refine Run.go rfl rfl rfl (sem_move ((Value.bool true)) rfl ?_)
  refine Run.no rfl rfl rfl ?_
  refine Run.no rfl rfl rfl ?_
  refine Run.no rfl rfl rfl ?_
  refine Run.no rfl rfl rfl ?_
  refine Run.no rfl rfl rfl ?_
  refine Run.no rfl rfl rfl ?_
  refine Run.go rfl rfl rfl (sem_pick true ((Value.bool true)) rfl rfl ?_)
  refine Run.region_end ?_
  refine Run.condT rfl ?_
  refine Run.seq ?_
  refine Run.ops0 (idx := [0, 1, 2]) rfl ?_
  refine Run.go rfl rfl rfl (sem_buildSL [] [(Value.pointer none), (Value.pointer none), (Value.pointer none), (Value.int .i64 (0)), (Value.int .i64 (0)), (Value.int .i64 (0)), (Value.int .i64 (0)), (Value.int .i64 (0)), (Value.int .i64 (0)), (Value.int .i64 (0)), (Value.int .i64 (0)), (Value.int .i64 (0))] TF.zero_151 TF.places_151 rfl rfl ?_)
  obtain ⟨h87, hst, hS⟩ := hS
  refine Run.go rfl rfl rfl (sem_storeN ⟨k15, 0, none⟩ [(Value.pointer none), (Value.pointer none), (Value.pointer none), (Value.int .i64 (0)), (Value.int .i64 (0)), (Value.int .i64 (0)), (Value.int .i64 (0)), (Value.int .i64 (0)), (Value.int .i64 (0)), (Value.int .i64 (0)), (Value.int .i64 (0)), (Value.int .i64 (0))] h87 rfl rfl TF.sz_151 hst ?_)
  refine Run.go rfl rfl rfl (sem_assign ((Value.bool false)) rfl ?_)
  refine Run.region_end ?_
  obtain ⟨p88, p89, p90, i91, i92, i93, i94, i95, i96, i97, i98, i99, hl0, hS⟩ := hS
  refine Run.ret ⟨.inr rfl, ?_⟩
  exact ⟨⟨k15, 0, none⟩, (Value.agg #[(Value.pointer p88), (Value.pointer p89), (Value.pointer p90), (Value.int .i64 (i91)), (Value.int .i64 (i92)), (Value.int .i64 (i93)), (Value.int .i64 (i94)), (Value.int .i64 (i95)), (Value.int .i64 (i96)), (Value.int .i64 (i97)), (Value.int .i64 (i98)), (Value.int .i64 (i99))]), rfl, loadHN TF.agg_151 TF.sz_151 hl0, hS.imp fun h' hq => ⟨p88, p89, p90, (i91), (i92), (i93), (i94), (i95), (i96), (i97), (i98), (i99), (false), rfl, hq⟩⟩
 ·have hS := hF hb86; clear hT hF
  refine Run.go rfl rfl rfl (sem_ptrNilF p1 (.inl rfl) false rfl rfl TF.ptr_131 hb86 rfl ?_)
  refine Run.go rfl rfl rfl (sem_move ((Value.bool false)) rfl ?_)
  refine Run.go rfl rfl rfl (sem_move ((Value.pointer p1)) rfl ?_)
  obtain ⟨A100, e101, hS⟩ := hS
  refine Run.go rfl rfl rfl (sem_nilCheck A100 (congrArg Value.pointer e101) ?_)
  refine Run.go rfl rfl rfl (sem_fieldAddr A100 0 rfl TF.fld_134_0 ?_)
  refine Run.ldSl hS fun a102 n103 c104 h105 hl hS => ?_
  refine Run.go rfl rfl rfl (sem_load1 A100 ((Value.slice a102 n103 c104)) rfl TF.agg_132 hl ?_)
  refine Run.go rfl rfl rfl (sem_lenSl a102 n103 c104 rfl TF.sl_132 ?_)
  obtain ⟨hT, hF⟩ := hS
  by_cases hb106 : ((n103 : Nat) : Int) = 0
  ·have hS := hT hb106; clear hT hF
   refine Run.go rfl rfl rfl (sem_binI .i64 ((n103 : Nat)) (0) (.bool true) rfl rfl (binI_eql_t hb106) ?_)
   refine Run.go rfl rfl rfl (sem_pick false ((Value.bool true)) rfl rfl ?_)
   refine Run.region_end ?_
   refine Run.condT rfl ?_
   refine Run.seq ?_
   refine Run.ops0 (idx := [0, 1, 2]) rfl ?_
   refine Run.go rfl rfl rfl (sem_buildSL [] [(Value.pointer none), (Value.pointer none), (Value.pointer none), (Value.int .i64 (0)), (Value.int .i64 (0)), (Value.int .i64 (0)), (Value.int .i64 (0)), (Value.int .i64 (0)), (Value.int .i64 (0)), (Value.int .i64 (0)), (Value.int .i64 (0)), (Value.int .i64 (0))] TF.zero_151 TF.places_151 rfl rfl ?_)
   obtain ⟨h107, hst, hS⟩ := hS
   refine Run.go rfl rfl rfl (sem_storeN ⟨k15, 0, none⟩ [(Value.pointer none), (Value.pointer none), (Value.pointer none), (Value.int .i64 (0)), (Value.int .i64 (0)), (Value.int .i64 (0)), (Value.int .i64 (0)), (Value.int .i64 (0)), (Value.int .i64 (0)), (Value.int .i64 (0)), (Value.int .i64 (0)), (Value.int .i64 (0))] h107 rfl rfl TF.sz_151 hst ?_)
   refine Run.go rfl rfl rfl (sem_assign ((Value.bool false)) rfl ?_)
   refine Run.region_end ?_
   obtain ⟨p108, p109, p110, i111, i112, i113, i114, i115, i116, i117, i118, i119, hl0, hS⟩ := hS
   refine Run.ret ⟨.inr rfl, ?_⟩
   exact ⟨⟨k15, 0, none⟩, (Value.agg #[(Value.pointer p108), (Value.pointer p109), (Value.pointer p110), (Value.int .i64 (i111)), (Value.int .i64 (i112)), (Value.int .i64 (i113)), (Value.int .i64 (i114)), (Value.int .i64 (i115)), (Value.int .i64 (i116)), (Value.int .i64 (i117)), (Value.int .i64 (i118)), (Value.int .i64 (i119))]), rfl, loadHN TF.agg_151 TF.sz_151 hl0, hS.imp fun h' hq => ⟨p108, p109, p110, (i111), (i112), (i113), (i114), (i115), (i116), (i117), (i118), (i119), (false), rfl, hq⟩⟩
  ·have hS := hF hb106; clear hT hF
   refine Run.go rfl rfl rfl (sem_binI .i64 ((n103 : Nat)) (0) (.bool false) rfl rfl (binI_eql_f hb106) ?_)
   refine Run.go rfl rfl rfl (sem_pick false ((Value.bool false)) rfl rfl ?_)
   refine Run.region_end ?_
   refine Run.condF rfl ?_
   refine Run.skip ?_
   exact Run.of_fin (hS.imp fun h' hS => j17 _ _ ⟨⟨rfl, rfl, trivial⟩, hS⟩)
set_option maxHeartbeats 4000000 in
theorem C_countermandlaw17_same.of {B : RO} {p1 : Option Addr} {p2 : Option Addr} {p3 : Option Addr} {i4 : Int} {i5 : Int} {i6 : Int} {i7 : Int} {a8 : Option Addr} {n9 : Nat} {c10 : Nat} {i11 : Int} {i12 : Int} {h : Heap} {Q : Bool → Heap → Prop} (hS : S_countermandlaw17_same B p1 p2 p3 i4 i5 i6 i7 a8 n9 c10 i11 i12 h Q) : C_countermandlaw17_same B p1 p2 p3 i4 i5 i6 i7 a8 n9 c10 i11 i12 h Q := by
 unfold S_countermandlaw17_same at hS
 unfold C_countermandlaw17_same
 refine Spec.of_run Try.func80 (N := 65) (rs := [ResultVar.cell 4 4]) rfl rfl rfl (Nat.le_of_ble_eq_true rfl) ?_
 refine Run.seq ?_
 refine Run.ops0 (idx := [0, 1, 2]) rfl ?_
 refine Run.go rfl rfl rfl (sem_boxNN [(Value.pointer p1), (Value.pointer p2), (Value.pointer p3), (Value.int .i64 (i4)), (Value.int .i64 (i5)), (Value.int .i64 (i6)), (Value.int .i64 (i7))] rfl (fun k14 hb1 hb2 h15 hb3 => ?_))
 have hS := hS k14 hb1 hb2 h15 hb3
 refine Run.go rfl rfl rfl (sem_boxNN [(Value.slice a8 n9 c10), (Value.int .i64 (i11)), (Value.int .i64 (i12))] rfl (fun k16 hb1 hb2 h17 hb3 => ?_))
 have hS := hS k16 hb1 hb2 h17 hb3
 refine Run.go rfl rfl rfl (sem_allocN [(Value.bool false)] TF.zero_4 (fun k18 hb1 hb2 h19 hb3 => ?_))
 have hS := hS k18 hb1 hb2 h19 hb3
 refine Run.region_end ?_
 refine Run.seq ?_
 refine Run.ops0 (idx := [0, 1, 2, 3, 4]) rfl ?_
 refine Run.go rfl rfl rfl (sem_fieldAddr ⟨k16, 0, none⟩ 0 rfl TF.fld_144_0 ?_)
 refine Run.ldSl hS fun a20 n21 c22 h23 hl hS => ?_
 refine Run.go rfl rfl rfl (sem_load1 ⟨k16, 0, none⟩ ((Value.slice a20 n21 c22)) rfl TF.agg_142 hl ?_)
 refine Run.go rfl rfl rfl (sem_callL [(Value.slice a20 n21 c22)] (TF.goes_126) rfl rfl (Spec.mono hS fun v h24 hv => ?_))
 obtain ⟨a25, n26, c27, rfl, hS⟩ := hv
 refine Run.go rfl rfl rfl (sem_allocN [(Value.slice none 0 0)] TF.zero_26 (fun k28 hb1 hb2 h29 hb3 => ?_))
 have hS := hS k28 hb1 hb2 h29 hb3
 obtain ⟨h30, hst, hS⟩ := hS
 refine Run.go rfl rfl rfl (sem_store1 ⟨k28, 0, none⟩ ((Value.slice a25 n26 c27)) h30 rfl rfl rfl TF.sz_26 hst ?_)
 refine Run.region_end ?_
 refine Run.seq ?_
 refine Run.ops0 (idx := [0, 1]) rfl ?_
 refine Run.go rfl rfl rfl (sem_allocN [(Value.int .i64 (0))] TF.zero_3 (fun k31 hb1 hb2 h32 hb3 => ?_))
 have hS := hS k31 hb1 hb2 h32 hb3
 obtain ⟨h33, hst, hS⟩ := hS
 refine Run.go rfl rfl rfl (sem_store1 ⟨k31, 0, none⟩ ((Value.int .i64 (0))) h33 rfl rfl rfl TF.sz_3 hst ?_)
 refine Run.region_end ?_
 refine Run.seqJ (fun e h35 => Agree [(2, (Value.pointer (some ⟨k14, 0, none⟩))), (3, (Value.pointer (some ⟨k16, 0, none⟩))), (4, (Value.pointer (some ⟨k18, 0, none⟩))), (5, (Value.pointer (some ⟨k28, 0, none⟩))), (6, (Value.pointer (some ⟨k31, 0, none⟩)))] e ∧ S_countermandlaw17_same_J1 B k14 k16 k18 k28 k31 h35 Q) ?_ fun j34 => ?_
 ·rintro e h35 ⟨hag, hS⟩
  refine Run.env hag ?_; clear hag
  refine Run.seq ?_
  obtain ⟨i36, hl, hS⟩ := hS
  have f37 := hl
  obtain ⟨a38, n39, c40, hl, hS⟩ := hS
  have f41 := hl
  skip
  obtain ⟨hT, hF⟩ := hS
  by_cases hb43 : (i36 : Int) = (n39 : Nat)
  ·have hS := hT hb43; clear hT hF
   skip
   skip
   skip
   obtain ⟨p47, hl, hS⟩ := hS
   have f48 := hl
   skip
   obtain ⟨i50, hl, hS⟩ := hS
   have f51 := hl
   refine Run.drawM (fun h' => cellH B h' ⟨k31, 0, none⟩ = some (Value.int .i64 (i36)) ∧ cellH B h' ⟨k28, 0, none⟩ = some (Value.slice a38 n39 c40) ∧ cellH B h' ⟨k14, 2, none⟩ = some (Value.pointer p47) ∧ cellH B h' ⟨k16, 1, none⟩ = some (Value.int .i64 (i50)) ∧ True) [20] ⟨[0, 0, 2, 5, 8, 16, 48, 80, 16, 272, 656, 1040, 2176, 4096, 12288, 20480, 4096, 69632, 167936, 266240, 1048575], [2097151, 2097151, 2097149, 2097146, 2097143, 2097135, 2097103, 2097071, 2097135, 2096879, 2096495, 2096111, 2095103, 2093055, 2084863, 2076671, 2093055, 2027519, 1929215, 1830911, 1572863], [0, 0, 2, 7, 15, 31, 63, 127, 31, 287, 1023, 2047, 4095, 8191, 16383, 32767, 8191, 73727, 262143, 524287, 1048575], 1048576⟩ (.q 0 (.q 1 (.q 2 (.q 3 (.q 4 (.q 5 (.q 6 (.q 8 (.q 9 (.x 7 (.q 10 (.q 11 (.q 12 (.q 13 (.q 14 (.q 16 (.x 15 (.x 17 (.q 18 (.q 19 (.x 20 .nil .no))) .no) (.x 17 (.x 15 (.q 18 (.q 19 (.x 20 .nil .no))) .no) .no)))))))) .no)))))))))) TF.mixed (by kernel_rfl) ⟨f37, f41, f48, f51, trivial⟩ ?_
   refine RunT.quiet rfl rfl rfl (fun h' hC => sem_load1 ⟨k31, 0, none⟩ ((Value.int .i64 (i36))) rfl TF.agg_3 hC.1 ⟨rfl, rfl⟩) ?_
   refine RunT.quiet rfl rfl rfl (fun h' hC => sem_load1 ⟨k28, 0, none⟩ ((Value.slice a38 n39 c40)) rfl TF.agg_26 hC.2.1 ⟨rfl, rfl⟩) ?_
   refine RunT.quiet rfl rfl rfl (fun h' hC => sem_lenSl a38 n39 c40 rfl TF.sl_26 ⟨rfl, rfl⟩) ?_
   refine RunT.quiet rfl rfl rfl (fun h' hC => sem_binI .i64 (i36) ((n39 : Nat)) (.bool true) rfl rfl (binI_eql_t hb43) ⟨rfl, rfl⟩) ?_
   refine RunT.quiet rfl rfl rfl (fun h' hC => sem_move ((Value.bool true)) rfl ⟨rfl, rfl⟩) ?_
   refine RunT.quiet rfl rfl rfl (fun h' hC => sem_fieldAddr ⟨k14, 0, none⟩ 2 rfl TF.fld_140_2 ⟨rfl, rfl⟩) ?_
   refine RunT.quiet rfl rfl rfl (fun h' hC => sem_load1 ⟨k14, 2, none⟩ ((Value.pointer p47)) rfl TF.agg_137 hC.2.2.1 ⟨rfl, rfl⟩) ?_
   refine RunT.quiet rfl rfl rfl (fun h' hC => sem_fieldAddr ⟨k16, 0, none⟩ 1 rfl TF.fld_144_1 ⟨rfl, rfl⟩) ?_
   refine RunT.quiet rfl rfl rfl (fun h' hC => sem_load1 ⟨k16, 1, none⟩ ((Value.int .i64 (i50))) rfl TF.agg_3 hC.2.2.2.1 ⟨rfl, rfl⟩) ?_
   refine ⟨?_, trivial⟩
   refine OpH.go rfl rfl rfl (sem_callL [(Value.pointer p47), (Value.int .i64 (0))] (TF.goes_129) rfl rfl (Spec.mono hS fun v h52 hv => ?_))
   obtain ⟨i53, rfl, hS⟩ := hv
   obtain ⟨g54, g55, g56, g57, hS⟩ := hS
   refine ⟨fun _ => ⟨g54, g55, g56, g57, trivial⟩, ?_⟩
   obtain ⟨hT, hF⟩ := hS
   by_cases hb58 : (i53 : Int) = i50
   ·have hS := hT hb58; clear hT hF
    refine RunT.quiet rfl rfl rfl (fun h' hC => sem_binI .i64 (i53) (i50) (.bool true) rfl rfl (binI_eql_t hb58) ⟨rfl, rfl⟩) ?_
    refine RunT.quiet rfl rfl rfl (fun h' hC => sem_pick true ((Value.bool true)) rfl rfl ⟨rfl, rfl⟩) ?_
    refine RunT.quiet rfl rfl rfl (fun h' hC => sem_move ((Value.bool true)) rfl ⟨rfl, rfl⟩) ?_
    refine RunT.quiet rfl rfl rfl (fun h' hC => sem_fieldAddr ⟨k14, 0, none⟩ 3 rfl TF.fld_140_3 ⟨rfl, rfl⟩) ?_
    obtain ⟨hi0, hi1, hS⟩ := hS
    refine RunT.quiet rfl rfl rfl (fun h' hC => sem_indexAddrA ⟨k14, 3, none⟩ .i64 (0) rfl rfl TF.arr_138 hi0 hi1 ⟨rfl, rfl⟩) ?_
    refine RunT.quiet rfl rfl rfl (fun h' hC => sem_fieldAddr ⟨k16, 0, none⟩ 2 rfl TF.fld_144_2 ⟨rfl, rfl⟩) ?_
    refine RunT.joinJ (t := (.q 18 (.q 19 (.x 20 .nil .no)))) (fun e h66 => ∃ i64 : Int, ∃ i65 : Int, Agree [(4, (Value.pointer (some ⟨k18, 0, none⟩))), (57, (Value.bool true)), (60, (Value.int .i64 (i64))), (62, (Value.int .i64 (i65)))] e ∧ cellH B h66 ⟨k31, 0, none⟩ = some (Value.int .i64 (i36)) ∧ cellH B h66 ⟨k28, 0, none⟩ = some (Value.slice a38 n39 c40) ∧ cellH B h66 ⟨k14, 2, none⟩ = some (Value.pointer p47) ∧ cellH B h66 ⟨k16, 1, none⟩ = some (Value.int .i64 (i50)) ∧ S_countermandlaw17_same_J2 B k14 k16 k18 k28 k31 i36 a38 n39 c40 p47 i50 i64 i65 h66 Q) ?_ fun j63 => ?_
    ·rintro e h66 ⟨i64, i65, hag, g67, g68, g69, g70, hS⟩
     refine RunT.env hag ?_; clear hag
     refine RunT.quiet rfl rfl rfl (fun h' hC => sem_binI .i64 (i64) (i65) ((Value.bool ((i64 : Int) == (i65)))) rfl rfl rfl ⟨rfl, rfl⟩) ?_
     refine RunT.quiet rfl rfl rfl (fun h' hC => sem_pick true ((Value.bool ((i64 : Int) == (i65)))) rfl rfl ⟨rfl, rfl⟩) ?_
     refine ⟨?_, trivial⟩
     obtain ⟨h71, hst, hS⟩ := hS
     refine OpH.go rfl rfl rfl (sem_store1 ⟨k18, 0, none⟩ ((Value.bool ((i64 : Int) == (i65)))) h71 rfl rfl rfl TF.sz_4 hst ?_)
     refine ⟨fun hz => Bool.noConfusion hz, ?_⟩
     obtain ⟨b72, hl0, hS⟩ := hS
     refine Run.ret ⟨.inr rfl, ?_⟩
     exact ⟨⟨k18, 0, none⟩, (Value.bool b72), rfl, loadH1 TF.agg_4 hl0, hS.imp fun h' hq => ⟨(b72), rfl, hq⟩⟩
    refine ⟨?_, ?_, trivial⟩
    ·have hS := hS.1
     obtain ⟨i73, hl, hS⟩ := hS
     refine OpH.go rfl rfl rfl (sem_load1 ⟨k14, 3, none⟩ ((Value.int .i64 (i73))) rfl TF.agg_3 hl ?_)
     refine ⟨fun _ => ⟨g54, g55, g56, g57, trivial⟩, ?_⟩
     refine ⟨?_, trivial⟩
     obtain ⟨i74, hl, hS⟩ := hS
     refine OpH.go rfl rfl rfl (sem_load1 ⟨k16, 2, none⟩ ((Value.int .i64 (i74))) rfl TF.agg_3 hl ?_)
     refine ⟨fun _ => ⟨g54, g55, g56, g57, trivial⟩, ?_⟩
     exact j63 _ _ ⟨(i73), (i74), ⟨rfl, rfl, rfl, rfl, trivial⟩, g54, g55, g56, g57, hS⟩
    ·have hS := hS.2
     obtain ⟨i75, hl, hS⟩ := hS
     refine OpH.go rfl rfl rfl (sem_load1 ⟨k16, 2, none⟩ ((Value.int .i64 (i75))) rfl TF.agg_3 hl ?_)
     refine ⟨fun _ => ⟨g54, g55, g56, g57, trivial⟩, ?_⟩
     refine ⟨?_, trivial⟩
     obtain ⟨i76, hl, hS⟩ := hS
     refine OpH.go rfl rfl rfl (sem_load1 ⟨k14, 3, none⟩ ((Value.int .i64 (i76))) rfl TF.agg_3 hl ?_)
     refine ⟨fun _ => ⟨g54, g55, g56, g57, trivial⟩, ?_⟩
     exact j63 _ _ ⟨(i76), (i75), ⟨rfl, rfl, rfl, rfl, trivial⟩, g54, g55, g56, g57, hS⟩
   ·have hS := hF hb58; clear hT hF
    refine RunT.quiet rfl rfl rfl (fun h' hC => sem_binI .i64 (i53) (i50) (.bool false) rfl rfl (binI_eql_f hb58) ⟨rfl, rfl⟩) ?_
    refine RunT.quiet rfl rfl rfl (fun h' hC => sem_pick true ((Value.bool false)) rfl rfl ⟨rfl, rfl⟩) ?_
    refine RunT.quiet rfl rfl rfl (fun h' hC => sem_move ((Value.bool false)) rfl ⟨rfl, rfl⟩) ?_
    refine RunT.skip rfl rfl rfl ?_
    refine RunT.skip rfl rfl rfl ?_
    refine RunT.skip rfl rfl rfl ?_
    refine RunT.joinJ (t := (.q 18 (.q 19 (.x 20 .nil .no)))) (fun e h78 => Agree [(4, (Value.pointer (some ⟨k18, 0, none⟩))), (57, (Value.bool false))] e ∧ cellH B h78 ⟨k31, 0, none⟩ = some (Value.int .i64 (i36)) ∧ cellH B h78 ⟨k28, 0, none⟩ = some (Value.slice a38 n39 c40) ∧ cellH B h78 ⟨k14, 2, none⟩ = some (Value.pointer p47) ∧ cellH B h78 ⟨k16, 1, none⟩ = some (Value.int .i64 (i50)) ∧ S_countermandlaw17_same_J3 B k14 k16 k18 k28 k31 i36 a38 n39 c40 p47 i50 h78 Q) ?_ fun j77 => ?_
    ·rintro e h78 ⟨hag, g79, g80, g81, g82, hS⟩
     refine RunT.env hag ?_; clear hag
     refine RunT.skip rfl rfl rfl ?_
     refine RunT.quiet rfl rfl rfl (fun h' hC => sem_pick false ((Value.bool false)) rfl rfl ⟨rfl, rfl⟩) ?_
     refine ⟨?_, trivial⟩
     obtain ⟨h83, hst, hS⟩ := hS
     refine OpH.go rfl rfl rfl (sem_store1 ⟨k18, 0, none⟩ ((Value.bool false)) h83 rfl rfl rfl TF.sz_4 hst ?_)
     refine ⟨fun hz => Bool.noConfusion hz, ?_⟩
     obtain ⟨b84, hl0, hS⟩ := hS
     refine Run.ret ⟨.inr rfl, ?_⟩
     exact ⟨⟨k18, 0, none⟩, (Value.bool b84), rfl, loadH1 TF.agg_4 hl0, hS.imp fun h' hq => ⟨(b84), rfl, hq⟩⟩
    refine ⟨?_, ?_, trivial⟩
    ·have hS := hS.1
     refine OpH.no rfl rfl rfl ⟨fun _ => ⟨g54, g55, g56, g57, trivial⟩, ?_⟩
     refine ⟨?_, trivial⟩
     refine OpH.no rfl rfl rfl ⟨fun _ => ⟨g54, g55, g56, g57, trivial⟩, ?_⟩
     exact j77 _ _ ⟨⟨rfl, rfl, trivial⟩, g54, g55, g56, g57, hS⟩
    ·have hS := hS.2
     refine OpH.no rfl rfl rfl ⟨fun _ => ⟨g54, g55, g56, g57, trivial⟩, ?_⟩
     refine ⟨?_, trivial⟩
     refine OpH.no rfl rfl rfl ⟨fun _ => ⟨g54, g55, g56, g57, trivial⟩, ?_⟩
     exact j77 _ _ ⟨⟨rfl, rfl, trivial⟩, g54, g55, g56, g57, hS⟩
  ·have hS := hF hb43; clear hT hF
   skip
   skip
   refine Run.drawM (fun h' => cellH B h' ⟨k31, 0, none⟩ = some (Value.int .i64 (i36)) ∧ cellH B h' ⟨k28, 0, none⟩ = some (Value.slice a38 n39 c40) ∧ True) [20] ⟨[0, 0, 2, 5, 8, 16, 48, 80, 16, 272, 656, 1040, 2176, 4096, 12288, 20480, 4096, 69632, 167936, 266240, 1048575], [2097151, 2097151, 2097149, 2097146, 2097143, 2097135, 2097103, 2097071, 2097135, 2096879, 2096495, 2096111, 2095103, 2093055, 2084863, 2076671, 2093055, 2027519, 1929215, 1830911, 1572863], [0, 0, 2, 7, 15, 31, 63, 127, 31, 287, 1023, 2047, 4095, 8191, 16383, 32767, 8191, 73727, 262143, 524287, 1048575], 1048576⟩ (.q 0 (.q 1 (.q 2 (.q 3 (.q 4 (.q 5 (.q 6 (.q 8 (.q 9 (.x 7 (.q 10 (.q 11 (.q 12 (.q 13 (.q 14 (.q 16 (.x 15 (.x 17 (.q 18 (.q 19 (.x 20 .nil .no))) .no) (.x 17 (.x 15 (.q 18 (.q 19 (.x 20 .nil .no))) .no) .no)))))))) .no)))))))))) TF.mixed (by kernel_rfl) ⟨f37, f41, trivial⟩ ?_
   refine RunT.quiet rfl rfl rfl (fun h' hC => sem_load1 ⟨k31, 0, none⟩ ((Value.int .i64 (i36))) rfl TF.agg_3 hC.1 ⟨rfl, rfl⟩) ?_
   refine RunT.quiet rfl rfl rfl (fun h' hC => sem_load1 ⟨k28, 0, none⟩ ((Value.slice a38 n39 c40)) rfl TF.agg_26 hC.2.1 ⟨rfl, rfl⟩) ?_
   refine RunT.quiet rfl rfl rfl (fun h' hC => sem_lenSl a38 n39 c40 rfl TF.sl_26 ⟨rfl, rfl⟩) ?_
   refine RunT.quiet rfl rfl rfl (fun h' hC => sem_binI .i64 (i36) ((n39 : Nat)) (.bool false) rfl rfl (binI_eql_f hb43) ⟨rfl, rfl⟩) ?_
   refine RunT.quiet rfl rfl rfl (fun h' hC => sem_move ((Value.bool false)) rfl ⟨rfl, rfl⟩) ?_
   refine RunT.skip rfl rfl rfl ?_
   refine RunT.skip rfl rfl rfl ?_
   refine RunT.skip rfl rfl rfl ?_
   refine RunT.skip rfl rfl rfl ?_
   refine ⟨?_, trivial⟩
   refine OpH.no rfl rfl rfl ⟨fun _ => ⟨f37, f41, trivial⟩, ?_⟩
   refine RunT.skip rfl rfl rfl ?_
   refine RunT.quiet rfl rfl rfl (fun h' hC => sem_pick false ((Value.bool false)) rfl rfl ⟨rfl, rfl⟩) ?_
   refine RunT.quiet rfl rfl rfl (fun h' hC => sem_move ((Value.bool false)) rfl ⟨rfl, rfl⟩) ?_
   refine RunT.skip rfl rfl rfl ?_
   refine RunT.skip rfl rfl rfl ?_
   refine RunT.skip rfl rfl rfl ?_
   refine RunT.joinJ (t := (.q 18 (.q 19 (.x 20 .nil .no)))) (fun e h88 => Agree [(4, (Value.pointer (some ⟨k18, 0, none⟩))), (57, (Value.bool false))] e ∧ cellH B h88 ⟨k31, 0, none⟩ = some (Value.int .i64 (i36)) ∧ cellH B h88 ⟨k28, 0, none⟩ = some (Value.slice a38 n39 c40) ∧ S_countermandlaw17_same_J4 B k18 k28 k31 i36 a38 n39 c40 h88 Q) ?_ fun j87 => ?_
   ·rintro e h88 ⟨hag, g89, g90, hS⟩
    refine RunT.env hag ?_; clear hag
    refine RunT.skip rfl rfl rfl ?_
    refine RunT.quiet rfl rfl rfl (fun h' hC => sem_pick false ((Value.bool false)) rfl rfl ⟨rfl, rfl⟩) ?_
    refine ⟨?_, trivial⟩
    obtain ⟨h91, hst, hS⟩ := hS
    refine OpH.go rfl rfl rfl (sem_store1 ⟨k18, 0, none⟩ ((Value.bool false)) h91 rfl rfl rfl TF.sz_4 hst ?_)
    refine ⟨fun hz => Bool.noConfusion hz, ?_⟩
    obtain ⟨b92, hl0, hS⟩ := hS
    refine Run.ret ⟨.inr rfl, ?_⟩
    exact ⟨⟨k18, 0, none⟩, (Value.bool b92), rfl, loadH1 TF.agg_4 hl0, hS.imp fun h' hq => ⟨(b92), rfl, hq⟩⟩
   refine ⟨?_, ?_, trivial⟩
   ·have hS := hS.1
    refine OpH.no rfl rfl rfl ⟨fun _ => ⟨f37, f41, trivial⟩, ?_⟩
    refine ⟨?_, trivial⟩
    refine OpH.no rfl rfl rfl ⟨fun _ => ⟨f37, f41, trivial⟩, ?_⟩
    exact j87 _ _ ⟨⟨rfl, rfl, trivial⟩, f37, f41, hS⟩
   ·have hS := hS.2
    refine OpH.no rfl rfl rfl ⟨fun _ => ⟨f37, f41, trivial⟩, ?_⟩
    refine ⟨?_, trivial⟩
    refine OpH.no rfl rfl rfl ⟨fun _ => ⟨f37, f41, trivial⟩, ?_⟩
    exact j87 _ _ ⟨⟨rfl, rfl, trivial⟩, f37, f41, hS⟩
 refine Run.seq ?_
 refine Run.ops0 (idx := [0, 1, 2]) rfl ?_
 refine Run.go rfl rfl rfl (sem_fieldAddr ⟨k14, 0, none⟩ 0 rfl TF.fld_140_0 ?_)
 obtain ⟨p93, hl, hS⟩ := hS
 refine Run.go rfl rfl rfl (sem_load1 ⟨k14, 0, none⟩ ((Value.pointer p93)) rfl TF.agg_135 hl ?_)
 refine Run.go rfl rfl rfl (sem_callL [(Value.pointer p93)] (TF.goes_127) rfl rfl (Spec.mono hS fun v95 h94 hv => ?_))
 obtain ⟨_, rfl, hS⟩ := hv
 refine Run.region_end ?_
 refine Run.block ?_
 obtain ⟨xs102, G98, J101, hit, hins, hG, h0, hS, hR⟩ := hS
 refine Run.of_fin (h0.imp fun h' h0 => ?_)
 refine Run.range (v95) (xs102.map (fun x : Int × Int => [(Value.int .i64 (x.1)), (Value.int .i64 (x.2))])) G98 J101 rfl hit hins hG h0 rfl (fun a ha => by obtain ⟨x, _, rfl⟩ := List.mem_map.1 ha; rfl) ?_ ?_
 ·rintro q100 args h99 ha hJ
  obtain ⟨⟨i96, i97⟩, hx, rfl⟩ := Option.map_eq_some_iff.1 ((List.getElem?_map ..).symm.trans ha)
  have hS := hS q100 h99 i96 i97 hx hJ; clear hJ hx ha
  refine Run.seq ?_
  refine Run.ops0 (idx := [0]) rfl ?_
  refine Run.go rfl rfl rfl (sem_assign ((Value.int .i64 (i96))) rfl ?_)
  refine Run.region_end ?_
  refine Run.ops0 (idx := [0]) rfl ?_
  refine Run.go rfl rfl rfl (sem_assign ((Value.int .i64 (i97))) rfl ?_)
  refine Run.region_end ?_
  refine Run.begin ⟨rfl, ?_⟩
  refine Run.block ?_
  refine Run.seq ?_
  refine Run.ops0 (idx := [0, 1, 2, 3, 4, 5, 6, 7, 8]) rfl ?_
  refine Run.go rfl rfl rfl (sem_fieldAddr ⟨k16, 0, none⟩ 0 rfl TF.fld_144_0 ?_)
  refine Run.ldSl hS fun a103 n104 c105 h106 hl hS => ?_
  refine Run.go rfl rfl rfl (sem_load1 ⟨k16, 0, none⟩ ((Value.slice a103 n104 c105)) rfl TF.agg_142 hl ?_)
  refine Run.go rfl rfl rfl (sem_move ((Value.int .i64 (i96))) rfl ?_)
  refine Run.go rfl rfl rfl (sem_callL [(Value.slice a103 n104 c105), (Value.int .i64 (i96))] (TF.goes_128) rfl rfl (Spec.mono hS fun v h107 hv => ?_))
  obtain ⟨i108, b109, rfl, hS⟩ := hv
  refine Run.go rfl rfl rfl (sem_move ((Value.tuple #[(Value.int .i64 (i108)), (Value.bool b109)])) rfl ?_)
  refine Run.go rfl rfl rfl (sem_extract #[(Value.int .i64 (i108)), (Value.bool b109)] ((Value.int .i64 (i108))) rfl rfl ?_)
  refine Run.go rfl rfl rfl (sem_extract #[(Value.int .i64 (i108)), (Value.bool b109)] ((Value.bool b109)) rfl rfl ?_)
  refine Run.go rfl rfl rfl (sem_assign ((Value.int .i64 (i108))) rfl ?_)
  refine Run.go rfl rfl rfl (sem_assign ((Value.bool b109)) rfl ?_)
  refine Run.region_end ?_
  refine Run.seq ?_
  refine Run.seq ?_
  refine Run.ops0 (idx := [0, 1, 2, 3, 4, 5, 6, 7, 8, 9, 10, 11, 12, 13, 14, 15, 16]) rfl ?_
  obtain ⟨i110, hl, hS⟩ := hS
  refine Run.go rfl rfl rfl (sem_load1 ⟨k31, 0, none⟩ ((Value.int .i64 (i110))) rfl TF.agg_3 hl ?_)
  refine Run.ldSl hS fun a111 n112 c113 h114 hl hS => ?_
  refine Run.go rfl rfl rfl (sem_load1 ⟨k28, 0, none⟩ ((Value.slice a111 n112 c113)) rfl TF.agg_26 hl ?_)
  refine Run.go rfl rfl rfl (sem_lenSl a111 n112 c113 rfl TF.sl_26 ?_)
  obtain ⟨hT, hF⟩ := hS
  by_cases hb115 : (i110 : Int) ≥ ((n112 : Nat))
  ·have hS := hT hb115; clear hT hF
   refine Run.go rfl rfl rfl (sem_binI .i64 (i110) ((n112 : Nat)) (.bool true) rfl rfl (binI_geq_t hb115) ?_)
   refine Run.go rfl rfl rfl (sem_move ((Value.bool true)) rfl ?_)
   refine Run.no rfl rfl rfl ?_
   refine Run.no rfl rfl rfl ?_
   refine Run.no rfl rfl rfl ?_
   refine Run.no rfl rfl rfl ?_
   refine Run.no rfl rfl rfl ?_
   refine Run.no rfl rfl rfl ?_
   refine Run.go rfl rfl rfl (sem_pick true ((Value.bool true)) rfl rfl ?_)
   refine Run.go rfl rfl rfl (sem_move ((Value.bool true)) rfl ?_)
   refine Run.no rfl rfl rfl ?_
   refine Run.no rfl rfl rfl ?_
   refine Run.no rfl rfl rfl ?_
   refine Run.go rfl rfl rfl (sem_pick true ((Value.bool true)) rfl rfl ?_)
   refine Run.region_end ?_
   refine Run.condT rfl ?_
   refine Run.seq ?_
   refine Run.ops0 (idx := [0]) rfl ?_
   obtain ⟨h116, hst, hS⟩ := hS
   refine Run.go rfl rfl rfl (sem_store1 ⟨k18, 0, none⟩ ((Value.bool false)) h116 rfl rfl rfl TF.sz_4 hst ?_)
   refine Run.region_end ?_
   refine Run.ret (.inr ⟨_, rfl, ?_⟩)
   obtain ⟨b117, hl0, hS⟩ := hS
   refine Run.ret ⟨.inr rfl, ?_⟩
   exact ⟨⟨k18, 0, none⟩, (Value.bool b117), rfl, loadH1 TF.agg_4 hl0, hS.imp fun h' hq => ⟨(b117), rfl, hq⟩⟩
  ·have hS := hF hb115; clear hT hF
   refine Run.go rfl rfl rfl (sem_binI .i64 (i110) ((n112 : Nat)) (.bool false) rfl rfl (binI_geq_f hb115) ?_)
   refine Run.go rfl rfl rfl (sem_move ((Value.bool false)) rfl ?_)
   refine Run.go rfl rfl rfl (sem_move ((Value.int .i64 (i96))) rfl ?_)
   refine Run.ldSl hS fun a118 n119 c120 h121 hl hS => ?_
   refine Run.go rfl rfl rfl (sem_load1 ⟨k28, 0, none⟩ ((Value.slice a118 n119 c120)) rfl TF.agg_26 hl ?_)
   obtain ⟨i122, hl, hS⟩ := hS
   refine Run.go rfl rfl rfl (sem_load1 ⟨k31, 0, none⟩ ((Value.int .i64 (i122))) rfl TF.agg_3 hl ?_)
   obtain ⟨A123, e124, hi0, hi1, hS⟩ := hS
   refine Run.go rfl rfl rfl (sem_indexAddrS A123 n119 c120 .i64 (i122) (congrArg (fun a => Value.slice a n119 c120) e124) rfl TF.slc_26 hi0 hi1 ?_)
   obtain ⟨i125, hl, hS⟩ := hS
   refine Run.go rfl rfl rfl (sem_load1 (Addr.add A123 (Int.toNat (i122) * 1)) ((Value.int .i64 (i125))) rfl TF.agg_3 hl ?_)
   obtain ⟨hT, hF⟩ := hS
   by_cases hb126 : (i96 : Int) = i125
   ·have hS := hT hb126; clear hT hF
    refine Run.go rfl rfl rfl (sem_binI .i64 (i96) (i125) (.bool false) rfl rfl (binI_neq_t hb126) ?_)
    refine Run.go rfl rfl rfl (sem_pick false ((Value.bool false)) rfl rfl ?_)
    refine Run.go rfl rfl rfl (sem_move ((Value.bool false)) rfl ?_)
    refine Run.go rfl rfl rfl (sem_move ((Value.int .i64 (i97))) rfl ?_)
    refine Run.go rfl rfl rfl (sem_move ((Value.int .i64 (i108))) rfl ?_)
    obtain ⟨hT, hF⟩ := hS
    by_cases hb127 : (i97 : Int) = i108
    ·have hS := hT hb127; clear hT hF
     refine Run.go rfl rfl rfl (sem_binI .i64 (i97) (i108) (.bool false) rfl rfl (binI_neq_t hb127) ?_)
     refine Run.go rfl rfl rfl (sem_pick false ((Value.bool false)) rfl rfl ?_)
     refine Run.region_end ?_
     refine Run.condF rfl ?_
     refine Run.skip ?_
     refine Run.ops0 (idx := [0, 1, 2]) rfl ?_
     obtain ⟨i128, hl, hS⟩ := hS
     refine Run.go rfl rfl rfl (sem_load1 ⟨k31, 0, none⟩ ((Value.int .i64 (i128))) rfl TF.agg_3 hl ?_)
     refine Run.go rfl rfl rfl (sem_binI .i64 (i128) (1) ((Value.int .i64 (IntKind.wrap .i64 ((i128) + (1))))) rfl rfl rfl ?_)
     obtain ⟨h129, hst, hS⟩ := hS
     refine Run.go rfl rfl rfl (sem_store1 ⟨k31, 0, none⟩ ((Value.int .i64 (IntKind.wrap .i64 ((i128) + (1))))) h129 rfl rfl rfl TF.sz_3 hst ?_)
     refine Run.region_end ?_
     refine Run.inBlock ?_
     refine Run.of_fin (hS.imp fun h' hS => ?_)
     exact Run.fall (.inl ⟨rfl, hS⟩)
    ·have hS := hF hb127; clear hT hF
     refine Run.go rfl rfl rfl (sem_binI .i64 (i97) (i108) (.bool true) rfl rfl (binI_neq_f hb127) ?_)
     refine Run.go rfl rfl rfl (sem_pick false ((Value.bool true)) rfl rfl ?_)
     refine Run.region_end ?_
     refine Run.condT rfl ?_
     refine Run.seq ?_
     refine Run.ops0 (idx := [0]) rfl ?_
     obtain ⟨h130, hst, hS⟩ := hS
     refine Run.go rfl rfl rfl (sem_store1 ⟨k18, 0, none⟩ ((Value.bool false)) h130 rfl rfl rfl TF.sz_4 hst ?_)
     refine Run.region_end ?_
     refine Run.ret (.inr ⟨_, rfl, ?_⟩)
     obtain ⟨b131, hl0, hS⟩ := hS
     refine Run.ret ⟨.inr rfl, ?_⟩
     exact ⟨⟨k18, 0, none⟩, (Value.bool b131), rfl, loadH1 TF.agg_4 hl0, hS.imp fun h' hq => ⟨(b131), rfl, hq⟩⟩
   ·have hS := hF hb126; clear hT hF
    refine Run.go rfl rfl rfl (sem_binI .i64 (i96) (i125) (.bool true) rfl rfl (binI_neq_f hb126) ?_)
    refine Run.go rfl rfl rfl (sem_pick false ((Value.bool true)) rfl rfl ?_)
    refine Run.go rfl rfl rfl (sem_move ((Value.bool true)) rfl ?_)
    refine Run.no rfl rfl rfl ?_
    refine Run.no rfl rfl rfl ?_
    refine Run.no rfl rfl rfl ?_
    refine Run.go rfl rfl rfl (sem_pick true ((Value.bool true)) rfl rfl ?_)
    refine Run.region_end ?_
    refine Run.condT rfl ?_
    refine Run.seq ?_
    refine Run.ops0 (idx := [0]) rfl ?_
    obtain ⟨h132, hst, hS⟩ := hS
    refine Run.go rfl rfl rfl (sem_store1 ⟨k18, 0, none⟩ ((Value.bool false)) h132 rfl rfl rfl TF.sz_4 hst ?_)
    refine Run.region_end ?_
    refine Run.ret (.inr ⟨_, rfl, ?_⟩)
    obtain ⟨b133, hl0, hS⟩ := hS
    refine Run.ret ⟨.inr rfl, ?_⟩
    exact ⟨⟨k18, 0, none⟩, (Value.bool b133), rfl, loadH1 TF.agg_4 hl0, hS.imp fun h' hq => ⟨(b133), rfl, hq⟩⟩
 ·intro h99 hJ
  have hS := hR h99 (by simpa using hJ); clear hJ hR
  refine Run.inBlock ?_
  exact Run.of_fin (hS.imp fun h' hS => j34 _ _ ⟨⟨rfl, rfl, rfl, rfl, rfl, trivial⟩, hS⟩)
set_option maxHeartbeats 4000000 in
theorem C_mark_Stack_Clear.of {B : RO} {p1 : Option Addr} {h : Heap} {Q : Heap → Prop} (hS : S_mark_Stack_Clear B p1 h Q) : C_mark_Stack_Clear B p1 h Q := by
 unfold S_mark_Stack_Clear at hS
 unfold C_mark_Stack_Clear
 refine Spec.of_run Try.func81 (N := 16) (rs := []) rfl rfl rfl (Nat.le_of_ble_eq_true rfl) ?_
 refine Run.seq ?_
 refine Run.ops0 (idx := [0, 1]) rfl ?_
 refine Run.go rfl rfl rfl (sem_move ((Value.pointer p1)) rfl ?_)
 obtain ⟨hT, hF⟩ := hS
 by_cases hb2 : p1 = none
 ·have hS := hT hb2; clear hT hF
  refine Run.go rfl rfl rfl (sem_ptrNilT p1 (.inr rfl) false rfl rfl TF.ptr_131 hb2 rfl ?_)
  refine Run.region_end ?_
  refine Run.condF rfl ?_
  refine Run.skip ?_
  refine Run.fall ⟨.inl rfl, ?_⟩
  exact hS.imp fun h' hq => ⟨rfl, hq⟩
 ·have hS := hF hb2; clear hT hF
  refine Run.go rfl rfl rfl (sem_ptrNilF p1 (.inr rfl) true rfl rfl TF.ptr_131 hb2 rfl ?_)
  refine Run.region_end ?_
  refine Run.condT rfl ?_
  refine Run.seq ?_
  refine Run.ops0 (idx := [0, 1, 2, 3, 4]) rfl ?_
  refine Run.go rfl rfl rfl (sem_move ((Value.pointer p1)) rfl ?_)
  obtain ⟨A3, e4, hS⟩ := hS
  refine Run.go rfl rfl rfl (sem_nilCheck A3 (congrArg Value.pointer e4) ?_)
  refine Run.go rfl rfl rfl (sem_fieldAddr A3 0 rfl TF.fld_134_0 ?_)
  refine Run.ldSl hS fun a5 n6 c7 h8 hl hS => ?_
  refine Run.go rfl rfl rfl (sem_load1 A3 ((Value.slice a5 n6 c7)) rfl TF.agg_132 hl ?_)
  refine Run.go rfl rfl rfl (sem_clearL [(Value.slice a5 n6 c7)] rfl (semH_mono (fun v h9 hv => ?_) hS))
  obtain ⟨rfl, hS⟩ := hv
  refine Run.region_end ?_
  refine Run.ops0 (idx := [0, 1, 2, 3, 4, 5, 6, 7, 8]) rfl ?_
  refine Run.go rfl rfl rfl (sem_move ((Value.pointer p1)) rfl ?_)
  refine Run.go rfl rfl rfl (sem_move ((Value.pointer p1)) rfl ?_)
  obtain ⟨A10, e11, hS⟩ := hS
  refine Run.go rfl rfl rfl (sem_nilCheck A10 (congrArg Value.pointer e11) ?_)
  refine Run.go rfl rfl rfl (sem_fieldAddr A10 0 rfl TF.fld_134_0 ?_)
  refine Run.ldSl hS fun a12 n13 c14 h15 hl hS => ?_
  refine Run.go rfl rfl rfl (sem_load1 A10 ((Value.slice a12 n13 c14)) rfl TF.agg_132 hl ?_)
  obtain ⟨hi0, hi1, hi2, hS⟩ := hS
  refine Run.go rfl rfl rfl (sem_sliceSlI a12 n13 c14 (0) (0) rfl TF.slc_132 rfl ⟨_, rfl⟩ hi0 hi1 hi2 ?_)
  obtain ⟨A16, e17, hS⟩ := hS
  refine Run.go rfl rfl rfl (sem_nilCheck A16 (congrArg Value.pointer e17) ?_)
  refine Run.go rfl rfl rfl (sem_fieldAddr A16 0 rfl TF.fld_134_0 ?_)
  obtain ⟨h18, hst, hS⟩ := hS
  refine Run.go rfl rfl rfl (sem_store1 A16 ((Value.slice (if c14 = Int.toNat (0) then a12 else Option.map (·.add (Int.toNat (0) * 12)) a12) (Int.toNat (0) - Int.toNat (0)) (c14 - Int.toNat (0)))) h18 rfl rfl rfl TF.sz_132 hst ?_)
  refine Run.region_end ?_
  refine Run.fall ⟨.inl rfl, ?_⟩
  exact hS.imp fun h' hq => ⟨rfl, hq⟩
set_option maxHeartbeats 4000000 in
theorem C_mark_Stack_Len.of {B : RO} {p1 : Option Addr} {h : Heap} {Q : Int → Heap → Prop} (hS : S_mark_Stack_Len B p1 h Q) : C_mark_Stack_Len B p1 h Q := by
 unfold S_mark_Stack_Len at hS
 unfold C_mark_Stack_Len
 refine Spec.of_run Try.func82 (N := 10) (rs := [ResultVar.tmp 2]) rfl rfl rfl (Nat.le_of_ble_eq_true rfl) ?_
 refine Run.seq ?_
 refine Run.ops0 (idx := [0]) rfl ?_
 refine Run.go rfl rfl rfl (sem_assign ((Value.int .i64 (0))) rfl ?_)
 refine Run.region_end ?_
 refine Run.seq ?_
 refine Run.seq ?_
 refine Run.ops0 (idx := [0, 1]) rfl ?_
 refine Run.go rfl rfl rfl (sem_move ((Value.pointer p1)) rfl ?_)
 obtain ⟨hT, hF⟩ := hS
 by_cases hb3 : p1 = none
 ·have hS := hT hb3; clear hT hF
  refine Run.go rfl rfl rfl (sem_ptrNilT p1 (.inl rfl) true rfl rfl TF.ptr_131 hb3 rfl ?_)
  refine Run.region_end ?_
  refine Run.condT rfl ?_
  refine Run.seq ?_
  refine Run.ops0 (idx := [0]) rfl ?_
  refine Run.go rfl rfl rfl (sem_assign ((Value.int .i64 (0))) rfl ?_)
  refine Run.region_end ?_
  refine Run.ret ⟨.inr rfl, ?_⟩
  exact hS.imp fun h' hq => ⟨(0), rfl, hq⟩
 ·have hS := hF hb3; clear hT hF
  refine Run.go rfl rfl rfl (sem_ptrNilF p1 (.inl rfl) false rfl rfl TF.ptr_131 hb3 rfl ?_)
  refine Run.region_end ?_
  refine Run.condF rfl ?_
  refine Run.skip ?_
  refine Run.seq ?_
  refine Run.ops0 (idx := [0, 1, 2, 3, 4, 5]) rfl ?_
  refine Run.go rfl rfl rfl (sem_move ((Value.pointer p1)) rfl ?_)
  obtain ⟨A4, e5, hS⟩ := hS
  refine Run.go rfl rfl rfl (sem_nilCheck A4 (congrArg Value.pointer e5) ?_)
  refine Run.go rfl rfl rfl (sem_fieldAddr A4 0 rfl TF.fld_134_0 ?_)
  refine Run.ldSl hS fun a6 n7 c8 h9 hl hS => ?_
  refine Run.go rfl rfl rfl (sem_load1 A4 ((Value.slice a6 n7 c8)) rfl TF.agg_132 hl ?_)
  refine Run.go rfl rfl rfl (sem_lenSl a6 n7 c8 rfl TF.sl_132 ?_)
  refine Run.go rfl rfl rfl (sem_assign ((Value.int .i64 ((n7 : Nat)))) rfl ?_)
  refine Run.region_end ?_
  refine Run.ret ⟨.inr rfl, ?_⟩
  exact hS.imp fun h' hq => ⟨((n7 : Nat)), rfl, hq⟩
set_option maxHeartbeats 4000000 in
theorem C_sheet_New.of {B : RO} {h : Heap} {Q : Option Addr → Heap → Prop} (hS : S_sheet_New B h Q) : C_sheet_New B h Q := by
 unfold S_sheet_New at hS
 unfold C_sheet_New
 refine Spec.of_run Try.func120 (N := 5) (rs := [ResultVar.tmp 0]) rfl rfl rfl (Nat.le_of_ble_eq_true rfl) ?_
 refine Run.seq ?_
 refine Run.ops0 (idx := [0]) rfl ?_
 refine Run.go rfl rfl rfl (sem_assign ((Value.pointer none)) rfl ?_)
 refine Run.region_end ?_
 refine Run.seq ?_
 refine Run.ops0 (idx := [0, 1, 2, 3, 4]) rfl ?_
 refine Run.go rfl rfl rfl (sem_buildSL [] [(Value.slice none 0 0)] TF.zero_193 TF.places_193 rfl rfl ?_)
 refine Run.go rfl rfl rfl (sem_boxNN [(Value.slice none 0 0)] rfl (fun k2 hb1 hb2 h3 hb3 => ?_))
 have hS := hS k2 hb1 hb2 h3 hb3
 refine Run.go rfl rfl rfl (sem_buildSL [(0, (Value.pointer (some ⟨k2, 0, none⟩)))] [(Value.pointer (some ⟨k2, 0, none⟩))] TF.zero_262 TF.places_262 rfl rfl ?_)
 refine Run.go rfl rfl rfl (sem_boxNN [(Value.pointer (some ⟨k2, 0, none⟩))] rfl (fun k4 hb1 hb2 h5 hb3 => ?_))
 have hS := hS k4 hb1 hb2 h5 hb3
 refine Run.go rfl rfl rfl (sem_assign ((Value.pointer (some ⟨k4, 0, none⟩))) rfl ?_)
 refine Run.region_end ?_
 refine Run.ret ⟨.inr rfl, ?_⟩
 exact hS.imp fun h' hq => ⟨(some ⟨k4, 0, none⟩), rfl, hq⟩
set_option maxHeartbeats 4000000 in
theorem C_draft_Draft_int_find.of {B : RO} {p1 : Option Addr} {i2 : Int} {h : Heap} {Q : Int → Bool → Heap → Prop} (hS : S_draft_Draft_int_find B p1 i2 h Q) : C_draft_Draft_int_find B p1 i2 h Q := by
 unfold S_draft_Draft_int_find at hS
 unfold C_draft_Draft_int_find
 refine Spec.of_run Try.func121 (N := 14) (rs := [ResultVar.tmp 4, ResultVar.tmp 5]) rfl rfl rfl (Nat.le_of_ble_eq_true rfl) ?_
 refine Run.seq ?_
 refine Run.ops0 (idx := [0, 1]) rfl ?_
 refine Run.go rfl rfl rfl (sem_assign ((Value.int .i64 (0))) rfl ?_)
 refine Run.go rfl rfl rfl (sem_assign ((Value.bool false)) rfl ?_)
 refine Run.region_end ?_
 refine Run.seq ?_
 refine Run.ops0 (idx := [0, 1, 2, 3, 4, 5, 6, 7, 8, 9]) rfl ?_
 refine Run.go rfl rfl rfl (sem_move ((Value.pointer p1)) rfl ?_)
 obtain ⟨A5, e6, hS⟩ := hS
 refine Run.go rfl rfl rfl (sem_nilCheck A5 (congrArg Value.pointer e6) ?_)
 refine Run.go rfl rfl rfl (sem_fieldAddr A5 0 rfl TF.fld_220_0 ?_)
 refine Run.ldSl hS fun a7 n8 c9 h10 hl hS => ?_
 refine Run.go rfl rfl rfl (sem_load1 A5 ((Value.slice a7 n8 c9)) rfl TF.agg_218 hl ?_)
 refine Run.go rfl rfl rfl (sem_move ((Value.int .i64 (i2))) rfl ?_)
 refine Run.go rfl rfl rfl (sem_callL [(Value.slice a7 n8 c9), (Value.int .i64 (i2)), (Value.func (.func 151) #[] #[])] (TF.goes_150) rfl rfl (Spec.mono hS fun v h11 hv => ?_))
 obtain ⟨i12, b13, rfl, hS⟩ := hv
 refine Run.go rfl rfl rfl (sem_extract #[(Value.int .i64 (i12)), (Value.bool b13)] ((Value.int .i64 (i12))) rfl rfl ?_)
 refine Run.go rfl rfl rfl (sem_extract #[(Value.int .i64 (i12)), (Value.bool b13)] ((Value.bool b13)) rfl rfl ?_)
 refine Run.go rfl rfl rfl (sem_assign ((Value.int .i64 (i12))) rfl ?_)
 refine Run.go rfl rfl rfl (sem_assign ((Value.bool b13)) rfl ?_)
 refine Run.region_end ?_
 refine Run.ret ⟨.inr rfl, ?_⟩
 exact hS.imp fun h' hq => ⟨(i12), (b13), rfl, hq⟩
set_option maxHeartbeats 4000000 in
theorem C_slices_Insert_s_draft_entry_int_draft_entry_int.of {B : RO} {a1 : Option Addr} {n2 : Nat} {c3 : Nat} {i4 : Int} {a5 : Option Addr} {n6 : Nat} {c7 : Nat} {h : Heap} {Q : Option Addr → Nat → Nat → Heap → Prop} (hS : S_slices_Insert_s_draft_entry_int_draft_entry_int B a1 n2 c3 i4 a5 n6 c7 h Q) : C_slices_Insert_s_draft_entry_int_draft_entry_int B a1 n2 c3 i4 a5 n6 c7 h Q := by
 unfold S_slices_Insert_s_draft_entry_int_draft_entry_int at hS
 unfold C_slices_Insert_s_draft_entry_int_draft_entry_int
 refine Spec.of_run Try.func122 (N := 95) (rs := [ResultVar.tmp 6]) rfl rfl rfl (Nat.le_of_ble_eq_true rfl) ?_
 refine Run.seq ?_
 refine Run.ops0 (idx := [0]) rfl ?_
 refine Run.go rfl rfl rfl (sem_assign ((Value.slice none 0 0)) rfl ?_)
 refine Run.region_end ?_
 refine Run.seq ?_
 refine Run.ops0 (idx := [0, 1, 2]) rfl ?_
 refine Run.go rfl rfl rfl (sem_move ((Value.slice a1 n2 c3)) rfl ?_)
 refine Run.go rfl rfl rfl (sem_move ((Value.int .i64 (i4))) rfl ?_)
 obtain ⟨hi0, hi1, hi2, hS⟩ := hS
 refine Run.go rfl rfl rfl (sem_sliceSlI a1 n2 c3 (i4) ((n2 : Nat)) rfl TF.slc_218 ⟨_, rfl⟩ rfl hi0 hi1 hi2 ?_)
 refine Run.region_end ?_
 refine Run.seq ?_
 refine Run.ops0 (idx := [0, 1, 2]) rfl ?_
 refine Run.go rfl rfl rfl (sem_move ((Value.slice a5 n6 c7)) rfl ?_)
 refine Run.go rfl rfl rfl (sem_lenSl a5 n6 c7 rfl TF.sl_218 ?_)
 refine Run.go rfl rfl rfl (sem_assign ((Value.int .i64 ((n6 : Nat)))) rfl ?_)
 refine Run.region_end ?_
 refine Run.seq ?_
 refine Run.seq ?_
 refine Run.ops0 (idx := [0, 1]) rfl ?_
 refine Run.go rfl rfl rfl (sem_move ((Value.int .i64 ((n6 : Nat)))) rfl ?_)
 obtain ⟨hT, hF⟩ := hS
 by_cases hb11 : ((n6 : Nat) : Int) = 0
 ·have hS := hT hb11; clear hT hF
  refine Run.go rfl rfl rfl (sem_binI .i64 ((n6 : Nat)) (0) (.bool true) rfl rfl (binI_eql_t hb11) ?_)
  refine Run.region_end ?_
  refine Run.condT rfl ?_
  refine Run.seq ?_
  refine Run.ops0 (idx := [0, 1]) rfl ?_
  refine Run.go rfl rfl rfl (sem_move ((Value.slice a1 n2 c3)) rfl ?_)
  refine Run.go rfl rfl rfl (sem_assign ((Value.slice a1 n2 c3)) rfl ?_)
  refine Run.region_end ?_
  refine Run.ret ⟨.inr rfl, ?_⟩
  exact hS.imp fun h' hq => ⟨a1, n2, c3, rfl, hq⟩
 ·have hS := hF hb11; clear hT hF
  refine Run.go rfl rfl rfl (sem_binI .i64 ((n6 : Nat)) (0) (.bool false) rfl rfl (binI_eql_f hb11) ?_)
  refine Run.region_end ?_
  refine Run.condF rfl ?_
  refine Run.skip ?_
  refine Run.seq ?_
  refine Run.ops0 (idx := [0, 1, 2]) rfl ?_
  refine Run.go rfl rfl rfl (sem_move ((Value.slice a1 n2 c3)) rfl ?_)
  refine Run.go rfl rfl rfl (sem_lenSl a1 n2 c3 rfl TF.sl_218 ?_)
  refine Run.go rfl rfl rfl (sem_assign ((Value.int .i64 ((n2 : Nat)))) rfl ?_)
  refine Run.region_end ?_
  refine Run.seq ?_
  refine Run.seq ?_
  refine Run.ops0 (idx := [0, 1, 2]) rfl ?_
  refine Run.go rfl rfl rfl (sem_move ((Value.int .i64 (i4))) rfl ?_)
  refine Run.go rfl rfl rfl (sem_move ((Value.int .i64 ((n2 : Nat)))) rfl ?_)
  obtain ⟨hT, hF⟩ := hS
  by_cases hb12 : (i4 : Int) = (n2 : Nat)
  ·have hS := hT hb12; clear hT hF
   refine Run.go rfl rfl rfl (sem_binI .i64 (i4) ((n2 : Nat)) (.bool true) rfl rfl (binI_eql_t hb12) ?_)
   refine Run.region_end ?_
   refine Run.condT rfl ?_
   refine Run.seq ?_
   refine Run.ops0 (idx := [0, 1, 2, 3]) rfl ?_
   refine Run.go rfl rfl rfl (sem_move ((Value.slice a1 n2 c3)) rfl ?_)
   refine Run.go rfl rfl rfl (sem_move ((Value.slice a5 n6 c7)) rfl ?_)
   refine Run.go rfl rfl rfl (sem_appendL [(Value.slice a1 n2 c3), (Value.slice a5 n6 c7)] rfl (semH_mono (fun v h13 hv => ?_) hS))
   obtain ⟨a14, n15, c16, rfl, hS⟩ := hv
   refine Run.go rfl rfl rfl (sem_assign ((Value.slice a14 n15 c16)) rfl ?_)
   refine Run.region_end ?_
   refine Run.ret ⟨.inr rfl, ?_⟩
   exact hS.imp fun h' hq => ⟨a14, n15, c16, rfl, hq⟩
  ·have hS := hF hb12; clear hT hF
   refine Run.go rfl rfl rfl (sem_binI .i64 (i4) ((n2 : Nat)) (.bool false) rfl rfl (binI_eql_f hb12) ?_)
   refine Run.region_end ?_
   refine Run.condF rfl ?_
   refine Run.skip ?_
   refine Run.seq ?_
   refine Run.seq ?_
   refine Run.ops0 (idx := [0, 1, 2, 3, 4, 5]) rfl ?_
   refine Run.go rfl rfl rfl (sem_move ((Value.int .i64 ((n2 : Nat)))) rfl ?_)
   refine Run.go rfl rfl rfl (sem_move ((Value.int .i64 ((n6 : Nat)))) rfl ?_)
   refine Run.go rfl rfl rfl (sem_binI .i64 ((n2 : Nat)) ((n6 : Nat)) ((Value.int .i64 (IntKind.wrap .i64 (((n2 : Nat)) + ((n6 : Nat)))))) rfl rfl rfl ?_)
   refine Run.go rfl rfl rfl (sem_move ((Value.slice a1 n2 c3)) rfl ?_)
   refine Run.go rfl rfl rfl (sem_capSl a1 (n2) (c3) rfl TF.sl_218 ?_)
   obtain ⟨hT, hF⟩ := hS
   by_cases hb17 : (IntKind.wrap .i64 (((n2 : Nat)) + ((n6 : Nat))) : Int) > ((c3 : Nat))
   ·have hS := hT hb17; clear hT hF
    refine Run.go rfl rfl rfl (sem_binI .i64 (IntKind.wrap .i64 (((n2 : Nat)) + ((n6 : Nat)))) ((c3 : Nat)) (.bool true) rfl rfl (binI_gtr_t hb17) ?_)
    refine Run.region_end ?_
    refine Run.condT rfl ?_
    refine Run.seq ?_
    refine Run.ops0 (idx := [0, 1, 2, 3, 4, 5, 6, 7, 8, 9]) rfl ?_
    refine Run.go rfl rfl rfl (sem_move ((Value.slice a1 n2 c3)) rfl ?_)
    refine Run.go rfl rfl rfl (sem_move ((Value.int .i64 (i4))) rfl ?_)
    obtain ⟨hi0, hi1, hi2, hS⟩ := hS
    refine Run.go rfl rfl rfl (sem_sliceSlI a1 n2 c3 (0) (i4) rfl TF.slc_218 rfl ⟨_, rfl⟩ hi0 hi1 hi2 ?_)
    refine Run.go rfl rfl rfl (sem_move ((Value.int .i64 ((n2 : Nat)))) rfl ?_)
    refine Run.go rfl rfl rfl (sem_move ((Value.int .i64 ((n6 : Nat)))) rfl ?_)
    refine Run.go rfl rfl rfl (sem_binI .i64 ((n2 : Nat)) ((n6 : Nat)) ((Value.int .i64 (IntKind.wrap .i64 (((n2 : Nat)) + ((n6 : Nat)))))) rfl rfl rfl ?_)
    refine Run.go rfl rfl rfl (sem_move ((Value.int .i64 (i4))) rfl ?_)
    refine Run.go rfl rfl rfl (sem_binI .i64 (IntKind.wrap .i64 (((n2 : Nat)) + ((n6 : Nat)))) (i4) ((Value.int .i64 (IntKind.wrap .i64 ((IntKind.wrap .i64 (((n2 : Nat)) + ((n6 : Nat)))) - (i4))))) rfl rfl rfl ?_)
    refine Run.go rfl rfl rfl (sem_appendL [(Value.slice (if c3 = Int.toNat (0) then a1 else Option.map (·.add (Int.toNat (0) * 2)) a1) (Int.toNat (i4) - Int.toNat (0)) (c3 - Int.toNat (0))), (Value.int .i64 (IntKind.wrap .i64 ((IntKind.wrap .i64 (((n2 : Nat)) + ((n6 : Nat)))) - (i4))))] rfl (semH_mono (fun v h18 hv => ?_) hS))
    obtain ⟨a19, n20, c21, rfl, hS⟩ := hv
    refine Run.go rfl rfl rfl (sem_assign ((Value.slice a19 n20 c21)) rfl ?_)
    refine Run.region_end ?_
    refine Run.seq ?_
    refine Run.ops0 (idx := [0, 1, 2, 3, 4]) rfl ?_
    refine Run.go rfl rfl rfl (sem_move ((Value.slice a19 n20 c21)) rfl ?_)
    refine Run.go rfl rfl rfl (sem_move ((Value.int .i64 (i4))) rfl ?_)
    obtain ⟨hi0, hi1, hi2, hS⟩ := hS
    refine Run.go rfl rfl rfl (sem_sliceSlI a19 n20 c21 (i4) ((n20 : Nat)) rfl TF.slc_218 ⟨_, rfl⟩ rfl hi0 hi1 hi2 ?_)
    refine Run.go rfl rfl rfl (sem_move ((Value.slice a5 n6 c7)) rfl ?_)
    refine Run.go rfl rfl rfl (sem_copyL [(Value.slice (if c21 = Int.toNat (i4) then a19 else Option.map (·.add (Int.toNat (i4) * 2)) a19) (Int.toNat ((n20 : Nat)) - Int.toNat (i4)) (c21 - Int.toNat (i4))), (Value.slice a5 n6 c7)] rfl (semH_mono (fun v h22 hv => ?_) hS))
    obtain ⟨i23, rfl, hS⟩ := hv
    refine Run.region_end ?_
    refine Run.seq ?_
    refine Run.drawM (fun h' => h' = h22) [8] ⟨[0, 0, 0, 6, 9, 0, 0, 96, 144], [511, 511, 511, 505, 502, 511, 511, 415, 367], [0, 0, 0, 6, 15, 0, 0, 96, 255], 256⟩ (.q 0 (.q 1 (.q 2 (.q 3 (.q 4 (.q 5 (.q 6 (.q 7 (.x 8 .nil .no))))))))) TF.mixed (by kernel_rfl) rfl ?_
    refine RunT.quiet rfl rfl rfl (quiet_eq (sem_move ((Value.slice a19 n20 c21)) rfl ⟨rfl, rfl⟩)) ?_
    refine RunT.quiet rfl rfl rfl (quiet_eq (sem_move ((Value.int .i64 (i4))) rfl ⟨rfl, rfl⟩)) ?_
    refine RunT.quiet rfl rfl rfl (quiet_eq (sem_move ((Value.int .i64 ((n6 : Nat)))) rfl ⟨rfl, rfl⟩)) ?_
    refine RunT.quiet rfl rfl rfl (quiet_eq (sem_binI .i64 (i4) ((n6 : Nat)) ((Value.int .i64 (IntKind.wrap .i64 ((i4) + ((n6 : Nat)))))) rfl rfl rfl ⟨rfl, rfl⟩)) ?_
    obtain ⟨hi0, hi1, hi2, hS⟩ := hS
    refine RunT.quiet rfl rfl rfl (quiet_eq (sem_sliceSlI a19 n20 c21 (IntKind.wrap .i64 ((i4) + ((n6 : Nat)))) ((n20 : Nat)) rfl TF.slc_218 ⟨_, rfl⟩ rfl hi0 hi1 hi2 ⟨rfl, rfl⟩)) ?_
    refine RunT.quiet rfl rfl rfl (quiet_eq (sem_move ((Value.slice a1 n2 c3)) rfl ⟨rfl, rfl⟩)) ?_
    refine RunT.quiet rfl rfl rfl (quiet_eq (sem_move ((Value.int .i64 (i4))) rfl ⟨rfl, rfl⟩)) ?_
    obtain ⟨hi0, hi1, hi2, hS⟩ := hS
    refine RunT.quiet rfl rfl rfl (quiet_eq (sem_sliceSlI a1 n2 c3 (i4) ((n2 : Nat)) rfl TF.slc_218 ⟨_, rfl⟩ rfl hi0 hi1 hi2 ⟨rfl, rfl⟩)) ?_
    refine ⟨?_, trivial⟩
    refine OpH.go rfl rfl rfl (sem_copyL [(Value.slice (if c21 = Int.toNat (IntKind.wrap .i64 ((i4) + ((n6 : Nat)))) then a19 else Option.map (·.add (Int.toNat (IntKind.wrap .i64 ((i4) + ((n6 : Nat)))) * 2)) a19) (Int.toNat ((n20 : Nat)) - Int.toNat (IntKind.wrap .i64 ((i4) + ((n6 : Nat))))) (c21 - Int.toNat (IntKind.wrap .i64 ((i4) + ((n6 : Nat)))))), (Value.slice (if c3 = Int.toNat (i4) then a1 else Option.map (·.add (Int.toNat (i4) * 2)) a1) (Int.toNat ((n2 : Nat)) - Int.toNat (i4)) (c3 - Int.toNat (i4)))] rfl (semH_mono (fun v h24 hv => ?_) hS))
    obtain ⟨i25, rfl, hS⟩ := hv
    refine ⟨fun hz => Bool.noConfusion hz, ?_⟩
    refine Run.seq ?_
    refine Run.ops0 (idx := [0, 1]) rfl ?_
    refine Run.go rfl rfl rfl (sem_move ((Value.slice a19 n20 c21)) rfl ?_)
    refine Run.go rfl rfl rfl (sem_assign ((Value.slice a19 n20 c21)) rfl ?_)
    refine Run.region_end ?_
    refine Run.ret ⟨.inr rfl, ?_⟩
    exact hS.imp fun h' hq => ⟨a19, n20, c21, rfl, hq⟩
   ·have hS := hF hb17; clear hT hF
    refine Run.go rfl rfl rfl (sem_binI .i64 (IntKind.wrap .i64 (((n2 : Nat)) + ((n6 : Nat)))) ((c3 : Nat)) (.bool false) rfl rfl (binI_gtr_f hb17) ?_)
    refine Run.region_end ?_
    refine Run.condF rfl ?_
    refine Run.skip ?_
    refine Run.seq ?_
    refine Run.ops0 (idx := [0, 1, 2, 3, 4, 5]) rfl ?_
    refine Run.go rfl rfl rfl (sem_move ((Value.slice a1 n2 c3)) rfl ?_)
    refine Run.go rfl rfl rfl (sem_move ((Value.int .i64 ((n2 : Nat)))) rfl ?_)
    refine Run.go rfl rfl rfl (sem_move ((Value.int .i64 ((n6 : Nat)))) rfl ?_)
    refine Run.go rfl rfl rfl (sem_binI .i64 ((n2 : Nat)) ((n6 : Nat)) ((Value.int .i64 (IntKind.wrap .i64 (((n2 : Nat)) + ((n6 : Nat)))))) rfl rfl rfl ?_)
    obtain ⟨hi0, hi1, hi2, hS⟩ := hS
    refine Run.go rfl rfl rfl (sem_sliceSlI a1 n2 c3 (0) (IntKind.wrap .i64 (((n2 : Nat)) + ((n6 : Nat)))) rfl TF.slc_218 rfl ⟨_, rfl⟩ hi0 hi1 hi2 ?_)
    refine Run.go rfl rfl rfl (sem_assign ((Value.slice (if c3 = Int.toNat (0) then a1 else Option.map (·.add (Int.toNat (0) * 2)) a1) (Int.toNat (IntKind.wrap .i64 (((n2 : Nat)) + ((n6 : Nat)))) - Int.toNat (0)) (c3 - Int.toNat (0)))) rfl ?_)
    refine Run.region_end ?_
    refine Run.seq ?_
    refine Run.seq ?_
    refine Run.ops0 (idx := [0, 1, 2, 3, 4, 5, 6, 7]) rfl ?_
    refine Run.go rfl rfl rfl (sem_move ((Value.slice a5 n6 c7)) rfl ?_)
    refine Run.go rfl rfl rfl (sem_move ((Value.slice (if c3 = Int.toNat (0) then a1 else Option.map (·.add (Int.toNat (0) * 2)) a1) (Int.toNat (IntKind.wrap .i64 (((n2 : Nat)) + ((n6 : Nat)))) - Int.toNat (0)) (c3 - Int.toNat (0)))) rfl ?_)
    refine Run.go rfl rfl rfl (sem_move ((Value.int .i64 (i4))) rfl ?_)
    refine Run.go rfl rfl rfl (sem_move ((Value.int .i64 ((n6 : Nat)))) rfl ?_)
    refine Run.go rfl rfl rfl (sem_binI .i64 (i4) ((n6 : Nat)) ((Value.int .i64 (IntKind.wrap .i64 ((i4) + ((n6 : Nat)))))) rfl rfl rfl ?_)
    obtain ⟨hi0, hi1, hi2, hS⟩ := hS
    refine Run.go rfl rfl rfl (sem_sliceSlI (if c3 = Int.toNat (0) then a1 else Option.map (·.add (Int.toNat (0) * 2)) a1) (Int.toNat (IntKind.wrap .i64 (((n2 : Nat)) + ((n6 : Nat)))) - Int.toNat (0)) (c3 - Int.toNat (0)) (IntKind.wrap .i64 ((i4) + ((n6 : Nat)))) (((Int.toNat (IntKind.wrap .i64 (((n2 : Nat)) + ((n6 : Nat)))) - Int.toNat (0)) : Nat)) rfl TF.slc_218 ⟨_, rfl⟩ rfl hi0 hi1 hi2 ?_)
    refine Run.go rfl rfl rfl (sem_callXL [(Value.slice a5 n6 c7), (Value.slice (if (c3 - Int.toNat (0)) = Int.toNat (IntKind.wrap .i64 ((i4) + ((n6 : Nat)))) then (if c3 = Int.toNat (0) then a1 else Option.map (·.add (Int.toNat (0) * 2)) a1) else Option.map (·.add (Int.toNat (IntKind.wrap .i64 ((i4) + ((n6 : Nat)))) * 2)) (if c3 = Int.toNat (0) then a1 else Option.map (·.add (Int.toNat (0) * 2)) a1)) (Int.toNat (((Int.toNat (IntKind.wrap .i64 (((n2 : Nat)) + ((n6 : Nat)))) - Int.toNat (0)) : Nat)) - Int.toNat (IntKind.wrap .i64 ((i4) + ((n6 : Nat))))) ((c3 - Int.toNat (0)) - Int.toNat (IntKind.wrap .i64 ((i4) + ((n6 : Nat))))))] (TF.goesx_152) rfl rfl (semH_mono (fun v h26 hv => ?_) hS))
    obtain ⟨b27, rfl, hS⟩ := hv
    obtain ⟨hT, hF⟩ := hS
    cases b27
    ·have hS := hF rfl; clear hT hF
     refine Run.go rfl rfl rfl (sem_not false rfl ?_)
     refine Run.region_end ?_
     refine Run.condT rfl ?_
     refine Run.seq ?_
     refine Run.drawM (fun h' => h' = h26) [8] ⟨[0, 0, 0, 6, 9, 0, 0, 96, 144], [511, 511, 511, 505, 502, 511, 511, 415, 367], [0, 0, 0, 6, 15, 0, 0, 96, 255], 256⟩ (.q 0 (.q 1 (.q 2 (.q 3 (.q 4 (.q 5 (.q 6 (.q 7 (.x 8 .nil .no))))))))) TF.mixed (by kernel_rfl) rfl ?_
     refine RunT.quiet rfl rfl rfl (quiet_eq (sem_move ((Value.slice (if c3 = Int.toNat (0) then a1 else Option.map (·.add (Int.toNat (0) * 2)) a1) (Int.toNat (IntKind.wrap .i64 (((n2 : Nat)) + ((n6 : Nat)))) - Int.toNat (0)) (c3 - Int.toNat (0)))) rfl ⟨rfl, rfl⟩)) ?_
     refine RunT.quiet rfl rfl rfl (quiet_eq (sem_move ((Value.int .i64 (i4))) rfl ⟨rfl, rfl⟩)) ?_
     refine RunT.quiet rfl rfl rfl (quiet_eq (sem_move ((Value.int .i64 ((n6 : Nat)))) rfl ⟨rfl, rfl⟩)) ?_
     refine RunT.quiet rfl rfl rfl (quiet_eq (sem_binI .i64 (i4) ((n6 : Nat)) ((Value.int .i64 (IntKind.wrap .i64 ((i4) + ((n6 : Nat)))))) rfl rfl rfl ⟨rfl, rfl⟩)) ?_
     obtain ⟨hi0, hi1, hi2, hS⟩ := hS
     refine RunT.quiet rfl rfl rfl (quiet_eq (sem_sliceSlI (if c3 = Int.toNat (0) then a1 else Option.map (·.add (Int.toNat (0) * 2)) a1) (Int.toNat (IntKind.wrap .i64 (((n2 : Nat)) + ((n6 : Nat)))) - Int.toNat (0)) (c3 - Int.toNat (0)) (IntKind.wrap .i64 ((i4) + ((n6 : Nat)))) (((Int.toNat (IntKind.wrap .i64 (((n2 : Nat)) + ((n6 : Nat)))) - Int.toNat (0)) : Nat)) rfl TF.slc_218 ⟨_, rfl⟩ rfl hi0 hi1 hi2 ⟨rfl, rfl⟩)) ?_
     refine RunT.quiet rfl rfl rfl (quiet_eq (sem_move ((Value.slice (if c3 = Int.toNat (0) then a1 else Option.map (·.add (Int.toNat (0) * 2)) a1) (Int.toNat (IntKind.wrap .i64 (((n2 : Nat)) + ((n6 : Nat)))) - Int.toNat (0)) (c3 - Int.toNat (0)))) rfl ⟨rfl, rfl⟩)) ?_
     refine RunT.quiet rfl rfl rfl (quiet_eq (sem_move ((Value.int .i64 (i4))) rfl ⟨rfl, rfl⟩)) ?_
     obtain ⟨hi0, hi1, hi2, hS⟩ := hS
     refine RunT.quiet rfl rfl rfl (quiet_eq (sem_sliceSlI (if c3 = Int.toNat (0) then a1 else Option.map (·.add (Int.toNat (0) * 2)) a1) (Int.toNat (IntKind.wrap .i64 (((n2 : Nat)) + ((n6 : Nat)))) - Int.toNat (0)) (c3 - Int.toNat (0)) (i4) (((Int.toNat (IntKind.wrap .i64 (((n2 : Nat)) + ((n6 : Nat)))) - Int.toNat (0)) : Nat)) rfl TF.slc_218 ⟨_, rfl⟩ rfl hi0 hi1 hi2 ⟨rfl, rfl⟩)) ?_
     refine ⟨?_, trivial⟩
     refine OpH.go rfl rfl rfl (sem_copyL [(Value.slice (if (c3 - Int.toNat (0)) = Int.toNat (IntKind.wrap .i64 ((i4) + ((n6 : Nat)))) then (if c3 = Int.toNat (0) then a1 else Option.map (·.add (Int.toNat (0) * 2)) a1) else Option.map (·.add (Int.toNat (IntKind.wrap .i64 ((i4) + ((n6 : Nat)))) * 2)) (if c3 = Int.toNat (0) then a1 else Option.map (·.add (Int.toNat (0) * 2)) a1)) (Int.toNat (((Int.toNat (IntKind.wrap .i64 (((n2 : Nat)) + ((n6 : Nat)))) - Int.toNat (0)) : Nat)) - Int.toNat (IntKind.wrap .i64 ((i4) + ((n6 : Nat))))) ((c3 - Int.toNat (0)) - Int.toNat (IntKind.wrap .i64 ((i4) + ((n6 : Nat)))))), (Value.slice (if (c3 - Int.toNat (0)) = Int.toNat (i4) then (if c3 = Int.toNat (0) then a1 else Option.map (·.add (Int.toNat (0) * 2)) a1) else Option.map (·.add (Int.toNat (i4) * 2)) (if c3 = Int.toNat (0) then a1 else Option.map (·.add (Int.toNat (0) * 2)) a1)) (Int.toNat (((Int.toNat (IntKind.wrap .i64 (((n2 : Nat)) + ((n6 : Nat)))) - Int.toNat (0)) : Nat)) - Int.toNat (i4)) ((c3 - Int.toNat (0)) - Int.toNat (i4)))] rfl (semH_mono (fun v h28 hv => ?_) hS))
     obtain ⟨i29, rfl, hS⟩ := hv
     refine ⟨fun hz => Bool.noConfusion hz, ?_⟩
     refine Run.seq ?_
     refine Run.ops0 (idx := [0, 1, 2, 3, 4]) rfl ?_
     refine Run.go rfl rfl rfl (sem_move ((Value.slice (if c3 = Int.toNat (0) then a1 else Option.map (·.add (Int.toNat (0) * 2)) a1) (Int.toNat (IntKind.wrap .i64 (((n2 : Nat)) + ((n6 : Nat)))) - Int.toNat (0)) (c3 - Int.toNat (0)))) rfl ?_)
     refine Run.go rfl rfl rfl (sem_move ((Value.int .i64 (i4))) rfl ?_)
     obtain ⟨hi0, hi1, hi2, hS⟩ := hS
     refine Run.go rfl rfl rfl (sem_sliceSlI (if c3 = Int.toNat (0) then a1 else Option.map (·.add (Int.toNat (0) * 2)) a1) (Int.toNat (IntKind.wrap .i64 (((n2 : Nat)) + ((n6 : Nat)))) - Int.toNat (0)) (c3 - Int.toNat (0)) (i4) (((Int.toNat (IntKind.wrap .i64 (((n2 : Nat)) + ((n6 : Nat)))) - Int.toNat (0)) : Nat)) rfl TF.slc_218 ⟨_, rfl⟩ rfl hi0 hi1 hi2 ?_)
     refine Run.go rfl rfl rfl (sem_move ((Value.slice a5 n6 c7)) rfl ?_)
     refine Run.go rfl rfl rfl (sem_copyL [(Value.slice (if (c3 - Int.toNat (0)) = Int.toNat (i4) then (if c3 = Int.toNat (0) then a1 else Option.map (·.add (Int.toNat (0) * 2)) a1) else Option.map (·.add (Int.toNat (i4) * 2)) (if c3 = Int.toNat (0) then a1 else Option.map (·.add (Int.toNat (0) * 2)) a1)) (Int.toNat (((Int.toNat (IntKind.wrap .i64 (((n2 : Nat)) + ((n6 : Nat)))) - Int.toNat (0)) : Nat)) - Int.toNat (i4)) ((c3 - Int.toNat (0)) - Int.toNat (i4))), (Value.slice a5 n6 c7)] rfl (semH_mono (fun v h30 hv => ?_) hS))
     obtain ⟨i31, rfl, hS⟩ := hv
     refine Run.region_end ?_
     refine Run.seq ?_
     refine Run.ops0 (idx := [0, 1]) rfl ?_
     refine Run.go rfl rfl rfl (sem_move ((Value.slice (if c3 = Int.toNat (0) then a1 else Option.map (·.add (Int.toNat (0) * 2)) a1) (Int.toNat (IntKind.wrap .i64 (((n2 : Nat)) + ((n6 : Nat)))) - Int.toNat (0)) (c3 - Int.toNat (0)))) rfl ?_)
     refine Run.go rfl rfl rfl (sem_assign ((Value.slice (if c3 = Int.toNat (0) then a1 else Option.map (·.add (Int.toNat (0) * 2)) a1) (Int.toNat (IntKind.wrap .i64 (((n2 : Nat)) + ((n6 : Nat)))) - Int.toNat (0)) (c3 - Int.toNat (0)))) rfl ?_)
     refine Run.region_end ?_
     refine Run.ret ⟨.inr rfl, ?_⟩
     exact hS.imp fun h' hq => ⟨(if c3 = Int.toNat (0) then a1 else Option.map (·.add (Int.toNat (0) * 2)) a1), (Int.toNat (IntKind.wrap .i64 (((n2 : Nat)) + ((n6 : Nat)))) - Int.toNat (0)), (c3 - Int.toNat (0)), rfl, hq⟩
    ·have hS := hT rfl; clear hT hF
     refine Run.go rfl rfl rfl (sem_not true rfl ?_)
     refine Run.region_end ?_
     refine Run.condF rfl ?_
     refine Run.skip ?_
     refine Run.seq ?_
     refine Run.ops0 (idx := [0, 1, 2, 3, 4]) rfl ?_
     refine Run.go rfl rfl rfl (sem_move ((Value.slice (if c3 = Int.toNat (0) then a1 else Option.map (·.add (Int.toNat (0) * 2)) a1) (Int.toNat (IntKind.wrap .i64 (((n2 : Nat)) + ((n6 : Nat)))) - Int.toNat (0)) (c3 - Int.toNat (0)))) rfl ?_)
     refine Run.go rfl rfl rfl (sem_move ((Value.int .i64 ((n2 : Nat)))) rfl ?_)
     obtain ⟨hi0, hi1, hi2, hS⟩ := hS
     refine Run.go rfl rfl rfl (sem_sliceSlI (if c3 = Int.toNat (0) then a1 else Option.map (·.add (Int.toNat (0) * 2)) a1) (Int.toNat (IntKind.wrap .i64 (((n2 : Nat)) + ((n6 : Nat)))) - Int.toNat (0)) (c3 - Int.toNat (0)) ((n2 : Nat)) (((Int.toNat (IntKind.wrap .i64 (((n2 : Nat)) + ((n6 : Nat)))) - Int.toNat (0)) : Nat)) rfl TF.slc_218 ⟨_, rfl⟩ rfl hi0 hi1 hi2 ?_)
     refine Run.go rfl rfl rfl (sem_move ((Value.slice a5 n6 c7)) rfl ?_)
     refine Run.go rfl rfl rfl (sem_copyL [(Value.slice (if (c3 - Int.toNat (0)) = Int.toNat ((n2 : Nat)) then (if c3 = Int.toNat (0) then a1 else Option.map (·.add (Int.toNat (0) * 2)) a1) else Option.map (·.add (Int.toNat ((n2 : Nat)) * 2)) (if c3 = Int.toNat (0) then a1 else Option.map (·.add (Int.toNat (0) * 2)) a1)) (Int.toNat (((Int.toNat (IntKind.wrap .i64 (((n2 : Nat)) + ((n6 : Nat)))) - Int.toNat (0)) : Nat)) - Int.toNat ((n2 : Nat))) ((c3 - Int.toNat (0)) - Int.toNat ((n2 : Nat)))), (Value.slice a5 n6 c7)] rfl (semH_mono (fun v h32 hv => ?_) hS))
     obtain ⟨i33, rfl, hS⟩ := hv
     refine Run.region_end ?_
     refine Run.seq ?_
     refine Run.ops0 (idx := [0, 1, 2, 3, 4]) rfl ?_
     refine Run.go rfl rfl rfl (sem_move ((Value.slice (if c3 = Int.toNat (0) then a1 else Option.map (·.add (Int.toNat (0) * 2)) a1) (Int.toNat (IntKind.wrap .i64 (((n2 : Nat)) + ((n6 : Nat)))) - Int.toNat (0)) (c3 - Int.toNat (0)))) rfl ?_)
     refine Run.go rfl rfl rfl (sem_move ((Value.int .i64 (i4))) rfl ?_)
     obtain ⟨hi0, hi1, hi2, hS⟩ := hS
     refine Run.go rfl rfl rfl (sem_sliceSlI (if c3 = Int.toNat (0) then a1 else Option.map (·.add (Int.toNat (0) * 2)) a1) (Int.toNat (IntKind.wrap .i64 (((n2 : Nat)) + ((n6 : Nat)))) - Int.toNat (0)) (c3 - Int.toNat (0)) (i4) (((Int.toNat (IntKind.wrap .i64 (((n2 : Nat)) + ((n6 : Nat)))) - Int.toNat (0)) : Nat)) rfl TF.slc_218 ⟨_, rfl⟩ rfl hi0 hi1 hi2 ?_)
     refine Run.go rfl rfl rfl (sem_move ((Value.int .i64 ((n6 : Nat)))) rfl ?_)
     refine Run.go rfl rfl rfl (sem_callL [(Value.slice (if (c3 - Int.toNat (0)) = Int.toNat (i4) then (if c3 = Int.toNat (0) then a1 else Option.map (·.add (Int.toNat (0) * 2)) a1) else Option.map (·.add (Int.toNat (i4) * 2)) (if c3 = Int.toNat (0) then a1 else Option.map (·.add (Int.toNat (0) * 2)) a1)) (Int.toNat (((Int.toNat (IntKind.wrap .i64 (((n2 : Nat)) + ((n6 : Nat)))) - Int.toNat (0)) : Nat)) - Int.toNat (i4)) ((c3 - Int.toNat (0)) - Int.toNat (i4))), (Value.int .i64 ((n6 : Nat)))] (TF.goes_153) rfl rfl (Spec.mono hS fun v h34 hv => ?_))
     obtain ⟨rfl, hS⟩ := hv
     refine Run.region_end ?_
     refine Run.seq ?_
     refine Run.ops0 (idx := [0, 1]) rfl ?_
     refine Run.go rfl rfl rfl (sem_move ((Value.slice (if c3 = Int.toNat (0) then a1 else Option.map (·.add (Int.toNat (0) * 2)) a1) (Int.toNat (IntKind.wrap .i64 (((n2 : Nat)) + ((n6 : Nat)))) - Int.toNat (0)) (c3 - Int.toNat (0)))) rfl ?_)
     refine Run.go rfl rfl rfl (sem_assign ((Value.slice (if c3 = Int.toNat (0) then a1 else Option.map (·.add (Int.toNat (0) * 2)) a1) (Int.toNat (IntKind.wrap .i64 (((n2 : Nat)) + ((n6 : Nat)))) - Int.toNat (0)) (c3 - Int.toNat (0)))) rfl ?_)
     refine Run.region_end ?_
     refine Run.ret ⟨.inr rfl, ?_⟩
     exact hS.imp fun h' hq => ⟨(if c3 = Int.toNat (0) then a1 else Option.map (·.add (Int.toNat (0) * 2)) a1), (Int.toNat (IntKind.wrap .i64 (((n2 : Nat)) + ((n6 : Nat)))) - Int.toNat (0)), (c3 - Int.toNat (0)), rfl, hq⟩
end Go.Proofs.Ythloobpjkeodgaa.H
