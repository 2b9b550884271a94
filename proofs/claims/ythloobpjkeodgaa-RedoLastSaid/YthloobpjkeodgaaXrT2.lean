/- The functions do what they ask for. No condition. -/
import Derived.Test.YthloobpjkeodgaaXrS
namespace Go.Proofs.Ythloobpjkeodgaa.H
open Go
set_option linter.unusedVariables false
set_option maxRecDepth 100000

set_option maxHeartbeats 4000000 in
theorem C_countermandlaw18_RedoLast.of {B : RO} {l1 : List Value} {a2 : Option Addr} {n3 : Nat} {c4 : Nat} {a5 : Option Addr} {n6 : Nat} {c7 : Nat} {h : Heap} {Q : Bool → Heap → Prop} (hS : S_countermandlaw18_RedoLast B l1 a2 n3 c4 a5 n6 c7 h Q) : C_countermandlaw18_RedoLast B l1 a2 n3 c4 a5 n6 c7 h Q := by
 unfold S_countermandlaw18_RedoLast at hS
 unfold C_countermandlaw18_RedoLast
 refine Spec.of_run Try.func13 (N := 73) (rs := [ResultVar.tmp 6]) rfl rfl rfl (Nat.le_of_ble_eq_true rfl) ?_
 refine Run.seq ?_
 refine Run.ops0 (idx := [0, 1]) rfl ?_
 refine Run.go rfl rfl rfl (sem_boxNN l1 rfl (fun k9 hb1 hb2 h10 hb3 => ?_))
 have hS := hS k9 hb1 hb2 h10 hb3
 refine Run.go rfl rfl rfl (sem_assign ((Value.bool false)) rfl ?_)
 refine Run.region_end ?_
 refine Run.seq ?_
 refine Run.seq ?_
 refine Run.ops0 (idx := [0, 1]) rfl ?_
 refine Run.go rfl rfl rfl (sem_callL [] (TF.goes_60) rfl rfl (Spec.mono hS fun v h11 hv => ?_))
 obtain ⟨b12, rfl, hS⟩ := hv
 obtain ⟨hT, hF⟩ := hS
 cases b12
 ·have hS := hF rfl; clear hT hF
  refine Run.go rfl rfl rfl (sem_not false rfl ?_)
  refine Run.region_end ?_
  refine Run.condT rfl ?_
  refine Run.seq ?_
  refine Run.ops0 (idx := [0]) rfl ?_
  refine Run.go rfl rfl rfl (sem_assign ((Value.bool false)) rfl ?_)
  refine Run.region_end ?_
  refine Run.ret ⟨.inr rfl, ?_⟩
  exact hS.imp fun h' hq => ⟨(false), rfl, hq⟩
 ·have hS := hT rfl; clear hT hF
  refine Run.go rfl rfl rfl (sem_not true rfl ?_)
  refine Run.region_end ?_
  refine Run.condF rfl ?_
  refine Run.skip ?_
  refine Run.seq ?_
  refine Run.ops0 (idx := [0, 1, 2, 3, 4, 5, 6, 7, 8, 9]) rfl ?_
  obtain ⟨l13, hln, hl, hS⟩ := hS
  refine Run.go rfl rfl rfl (sem_loadN ⟨k9, 0, none⟩ l13 rfl TF.agg_112 (TF.sz_112.trans (congrArg some hln.symm)) hl ?_)
  refine Run.go rfl rfl rfl (sem_callL [(Value.agg (List.toArray l13))] (TF.goes_67) rfl rfl (Spec.mono hS fun v h14 hv => ?_))
  obtain ⟨p15, l16, b17, rfl, hS⟩ := hv
  refine Run.go rfl rfl rfl (sem_move ((Value.tuple #[(Value.pointer p15), (Value.agg (List.toArray l16)), (Value.bool b17)])) rfl ?_)
  refine Run.go rfl rfl rfl (sem_extract #[(Value.pointer p15), (Value.agg (List.toArray l16)), (Value.bool b17)] ((Value.pointer p15)) rfl rfl ?_)
  refine Run.go rfl rfl rfl (sem_extract #[(Value.pointer p15), (Value.agg (List.toArray l16)), (Value.bool b17)] ((Value.agg (List.toArray l16))) rfl rfl ?_)
  obtain ⟨hT, hF⟩ := hS
  cases b17
  ·have hS := hF rfl; clear hT hF
   refine Run.go rfl rfl rfl (sem_extract #[(Value.pointer p15), (Value.agg (List.toArray l16)), (Value.bool false)] (.bool false) rfl rfl ?_)
   refine Run.go rfl rfl rfl (sem_allocN [(Value.bool false), (Value.string ByteArray.empty), (Value.bool false), (Value.string ByteArray.empty), (Value.bool false), (Value.string ByteArray.empty), (Value.bool false), (Value.string ByteArray.empty), (Value.bool false), (Value.string ByteArray.empty), (Value.bool false), (Value.string ByteArray.empty)] TF.zero_115 (fun k18 hb1 hb2 h19 hb3 => ?_))
   have hS := hS k18 hb1 hb2 h19 hb3
   refine Run.go rfl rfl rfl (sem_assign ((Value.pointer p15)) rfl ?_)
   obtain ⟨hln, h20, hst, hS⟩ := hS
   refine Run.go rfl rfl rfl (sem_storeN ⟨k18, 0, none⟩ l16 h20 rfl rfl (TF.sz_115.trans (congrArg some hln.symm)) hst ?_)
   refine Run.go rfl rfl rfl (sem_assign ((Value.bool false)) rfl ?_)
   refine Run.region_end ?_
   refine Run.seq ?_
   refine Run.ops0 (idx := [0, 1, 2, 3, 4, 5, 6, 7, 8]) rfl ?_
   refine Run.go rfl rfl rfl (sem_move ((Value.slice a2 n3 c4)) rfl ?_)
   refine Run.go rfl rfl rfl (sem_callL [(Value.slice a2 n3 c4)] (TF.goes_65) rfl rfl (Spec.mono hS fun v h21 hv => ?_))
   obtain ⟨p22, a23, n24, c25, b26, rfl, hS⟩ := hv
   refine Run.go rfl rfl rfl (sem_move ((Value.tuple #[(Value.pointer p22), (Value.slice a23 n24 c25), (Value.bool b26)])) rfl ?_)
   refine Run.go rfl rfl rfl (sem_extract #[(Value.pointer p22), (Value.slice a23 n24 c25), (Value.bool b26)] ((Value.pointer p22)) rfl rfl ?_)
   refine Run.go rfl rfl rfl (sem_extract #[(Value.pointer p22), (Value.slice a23 n24 c25), (Value.bool b26)] ((Value.slice a23 n24 c25)) rfl rfl ?_)
   obtain ⟨hT, hF⟩ := hS
   cases b26
   ·have hS := hF rfl; clear hT hF
    refine Run.go rfl rfl rfl (sem_extract #[(Value.pointer p22), (Value.slice a23 n24 c25), (Value.bool false)] (.bool false) rfl rfl ?_)
    refine Run.go rfl rfl rfl (sem_assign ((Value.pointer p22)) rfl ?_)
    refine Run.go rfl rfl rfl (sem_assign ((Value.slice a23 n24 c25)) rfl ?_)
    refine Run.go rfl rfl rfl (sem_assign ((Value.bool false)) rfl ?_)
    refine Run.region_end ?_
    refine Run.seq ?_
    refine Run.ops0 (idx := [0, 1, 2, 3, 4, 5, 6, 7, 8]) rfl ?_
    refine Run.go rfl rfl rfl (sem_move ((Value.slice a5 n6 c7)) rfl ?_)
    refine Run.go rfl rfl rfl (sem_callL [(Value.slice a5 n6 c7)] (TF.goes_65) rfl rfl (Spec.mono hS fun v h27 hv => ?_))
    obtain ⟨p28, a29, n30, c31, b32, rfl, hS⟩ := hv
    refine Run.go rfl rfl rfl (sem_move ((Value.tuple #[(Value.pointer p28), (Value.slice a29 n30 c31), (Value.bool b32)])) rfl ?_)
    refine Run.go rfl rfl rfl (sem_extract #[(Value.pointer p28), (Value.slice a29 n30 c31), (Value.bool b32)] ((Value.pointer p28)) rfl rfl ?_)
    refine Run.go rfl rfl rfl (sem_extract #[(Value.pointer p28), (Value.slice a29 n30 c31), (Value.bool b32)] ((Value.slice a29 n30 c31)) rfl rfl ?_)
    obtain ⟨hT, hF⟩ := hS
    cases b32
    ·have hS := hF rfl; clear hT hF
     refine Run.go rfl rfl rfl (sem_extract #[(Value.pointer p28), (Value.slice a29 n30 c31), (Value.bool false)] (.bool false) rfl rfl ?_)
     refine Run.go rfl rfl rfl (sem_assign ((Value.pointer p28)) rfl ?_)
     refine Run.go rfl rfl rfl (sem_assign ((Value.slice a29 n30 c31)) rfl ?_)
     refine Run.go rfl rfl rfl (sem_assign ((Value.bool false)) rfl ?_)
     refine Run.region_end ?_
     refine Run.seqJ (fun e h34 => Agree [(7, (Value.pointer p15)), (8, (Value.pointer (some ⟨k18, 0, none⟩))), (10, (Value.pointer p22)), (11, (Value.slice a23 n24 c25)), (13, (Value.pointer p28)), (14, (Value.slice a29 n30 c31))] e ∧ S_countermandlaw18_RedoLast_J1 B p15 k18 p22 a23 n24 c25 p28 a29 n30 c31 h34 Q) ?_ fun j33 => ?_
     ·rintro e h34 ⟨hag, hS⟩
      refine Run.env hag ?_; clear hag
      refine Run.seq ?_
      refine Run.ops0 (idx := [0, 1, 2, 3, 4, 5, 6, 7, 8, 9, 10, 11]) rfl ?_
      refine Run.go rfl rfl rfl (sem_move ((Value.pointer p15)) rfl ?_)
      refine Run.go rfl rfl rfl (sem_move ((Value.pointer p22)) rfl ?_)
      refine Run.go rfl rfl rfl (sem_callL [(Value.int .i64 (3)), (Value.pointer p22)] (TF.goes_66) rfl rfl (Spec.mono hS fun v h35 hv => ?_))
      obtain ⟨s36, rfl, hS⟩ := hv
      refine Run.go rfl rfl rfl (sem_move ((Value.pointer p28)) rfl ?_)
      refine Run.go rfl rfl rfl (sem_callL [(Value.int .i64 (2)), (Value.pointer p28)] (TF.goes_66) rfl rfl (Spec.mono hS fun v h37 hv => ?_))
      obtain ⟨s38, rfl, hS⟩ := hv
      refine Run.go rfl rfl rfl (sem_buildSliceL [(0, (Value.string s36)), (1, (Value.string s38))] [(Value.string s36), (Value.string s38)] TF.slc_55 TF.zero_9 rfl (by decide) (by decide) rfl rfl (fun k39 hb1 hb2 h40 hb3 => ?_))
      have hS := hS k39 hb1 hb2 h40 hb3
      refine Run.go rfl rfl rfl (sem_callL [(Value.pointer p15), (Value.slice (some ⟨k39, 0, none⟩) 2 2)] (TF.goes_72) rfl rfl (Spec.mono hS fun v h41 hv => ?_))
      obtain ⟨i42, i43, rfl, hS⟩ := hv
      refine Run.go rfl rfl rfl (sem_move ((Value.tuple #[(Value.int .i64 (i42)), (Value.int .i64 (i43))])) rfl ?_)
      refine Run.go rfl rfl rfl (sem_extract #[(Value.int .i64 (i42)), (Value.int .i64 (i43))] ((Value.int .i64 (i42))) rfl rfl ?_)
      refine Run.go rfl rfl rfl (sem_extract #[(Value.int .i64 (i42)), (Value.int .i64 (i43))] ((Value.int .i64 (i43))) rfl rfl ?_)
      refine Run.go rfl rfl rfl (sem_assign ((Value.int .i64 (i42))) rfl ?_)
      refine Run.go rfl rfl rfl (sem_assign ((Value.int .i64 (i43))) rfl ?_)
      refine Run.region_end ?_
      refine Run.seq ?_
      refine Run.ops0 (idx := [0, 1, 2, 3, 4, 5, 6, 7, 8, 9, 10, 11, 12, 13, 14, 15]) rfl ?_
      refine Run.go rfl rfl rfl (sem_move ((Value.int .i64 (i42))) rfl ?_)
      obtain ⟨hT, hF⟩ := hS
      by_cases hb44 : (i42 : Int) = 3
      ·have hS := hT hb44; clear hT hF
       refine Run.go rfl rfl rfl (sem_binI .i64 (i42) (3) (.bool true) rfl rfl (binI_eql_t hb44) ?_)
       refine Run.go rfl rfl rfl (sem_move ((Value.bool true)) rfl ?_)
       refine Run.go rfl rfl rfl (sem_move ((Value.int .i64 (i43))) rfl ?_)
       obtain ⟨hT, hF⟩ := hS
       by_cases hb45 : (i43 : Int) = 2
       ·have hS := hT hb45; clear hT hF
        refine Run.go rfl rfl rfl (sem_binI .i64 (i43) (2) (.bool true) rfl rfl (binI_eql_t hb45) ?_)
        refine Run.go rfl rfl rfl (sem_pick true ((Value.bool true)) rfl rfl ?_)
        refine Run.go rfl rfl rfl (sem_move ((Value.bool true)) rfl ?_)
        refine Run.go rfl rfl rfl (sem_move ((Value.pointer p15)) rfl ?_)
        obtain ⟨l46, hln, hl, hS⟩ := hS
        refine Run.go rfl rfl rfl (sem_loadN ⟨k18, 0, none⟩ l46 rfl TF.agg_115 (TF.sz_115.trans (congrArg some hln.symm)) hl ?_)
        refine Run.go rfl rfl rfl (sem_move ((Value.slice a23 n24 c25)) rfl ?_)
        refine Run.go rfl rfl rfl (sem_callL [(Value.agg (List.toArray l46)), (Value.slice a23 n24 c25)] (TF.goes_69) rfl rfl (Spec.mono hS fun v h47 hv => ?_))
        obtain ⟨l48, rfl, hS⟩ := hv
        refine Run.go rfl rfl rfl (sem_move ((Value.slice a29 n30 c31)) rfl ?_)
        refine Run.go rfl rfl rfl (sem_callL [(Value.agg (List.toArray l48)), (Value.slice a29 n30 c31)] (TF.goes_69) rfl rfl (Spec.mono hS fun v h49 hv => ?_))
        obtain ⟨l50, rfl, hS⟩ := hv
        refine Run.go rfl rfl rfl (sem_callL [(Value.pointer p15), (Value.agg (List.toArray l50))] (TF.goes_70) rfl rfl (Spec.mono hS fun v h51 hv => ?_))
        obtain ⟨b52, rfl, hS⟩ := hv
        refine Run.go rfl rfl rfl (sem_pick true ((Value.bool b52)) rfl rfl ?_)
        refine Run.go rfl rfl rfl (sem_assign ((Value.bool b52)) rfl ?_)
        refine Run.region_end ?_
        refine Run.ret ⟨.inr rfl, ?_⟩
        exact hS.imp fun h' hq => ⟨(b52), rfl, hq⟩
       ·have hS := hF hb45; clear hT hF
        refine Run.go rfl rfl rfl (sem_binI .i64 (i43) (2) (.bool false) rfl rfl (binI_eql_f hb45) ?_)
        refine Run.go rfl rfl rfl (sem_pick true ((Value.bool false)) rfl rfl ?_)
        refine Run.go rfl rfl rfl (sem_move ((Value.bool false)) rfl ?_)
        refine Run.no rfl rfl rfl ?_
        refine Run.no rfl rfl rfl ?_
        refine Run.no rfl rfl rfl ?_
        refine Run.no rfl rfl rfl ?_
        refine Run.no rfl rfl rfl ?_
        refine Run.no rfl rfl rfl ?_
        refine Run.no rfl rfl rfl ?_
        refine Run.go rfl rfl rfl (sem_pick false ((Value.bool false)) rfl rfl ?_)
        refine Run.go rfl rfl rfl (sem_assign ((Value.bool false)) rfl ?_)
        refine Run.region_end ?_
        refine Run.ret ⟨.inr rfl, ?_⟩
        exact hS.imp fun h' hq => ⟨(false), rfl, hq⟩
      ·have hS := hF hb44; clear hT hF
       refine Run.go rfl rfl rfl (sem_binI .i64 (i42) (3) (.bool false) rfl rfl (binI_eql_f hb44) ?_)
       refine Run.go rfl rfl rfl (sem_move ((Value.bool false)) rfl ?_)
       refine Run.no rfl rfl rfl ?_
       refine Run.no rfl rfl rfl ?_
       refine Run.go rfl rfl rfl (sem_pick false ((Value.bool false)) rfl rfl ?_)
       refine Run.go rfl rfl rfl (sem_move ((Value.bool false)) rfl ?_)
       refine Run.no rfl rfl rfl ?_
       refine Run.no rfl rfl rfl ?_
       refine Run.no rfl rfl rfl ?_
       refine Run.no rfl rfl rfl ?_
       refine Run.no rfl rfl rfl ?_
       refine Run.no rfl rfl rfl ?_
       refine Run.no rfl rfl rfl ?_
       refine Run.go rfl rfl rfl (sem_pick false ((Value.bool false)) rfl rfl ?_)
       refine Run.go rfl rfl rfl (sem_assign ((Value.bool false)) rfl ?_)
       refine Run.region_end ?_
       refine Run.ret ⟨.inr rfl, ?_⟩
       exact hS.imp fun h' hq => ⟨(false), rfl, hq⟩
     refine Run.seq ?_
     refine Run.ops0 (idx := [0, 1, 2, 3, 4, 5, 6, 7, 8, 9]) rfl ?_
     refine Run.go rfl rfl rfl (sem_move ((Value.bool false)) rfl ?_)
     refine Run.go rfl rfl rfl (sem_not false rfl ?_)
     refine Run.go rfl rfl rfl (sem_move ((Value.bool true)) rfl ?_)
     refine Run.no rfl rfl rfl ?_
     refine Run.no rfl rfl rfl ?_
     refine Run.go rfl rfl rfl (sem_pick true ((Value.bool true)) rfl rfl ?_)
     refine Run.go rfl rfl rfl (sem_move ((Value.bool true)) rfl ?_)
     refine Run.no rfl rfl rfl ?_
     refine Run.no rfl rfl rfl ?_
     refine Run.go rfl rfl rfl (sem_pick true ((Value.bool true)) rfl rfl ?_)
     refine Run.region_end ?_
     refine Run.condT rfl ?_
     refine Run.seq ?_
     refine Run.ops0 (idx := [0]) rfl ?_
     refine Run.go rfl rfl rfl (sem_assign ((Value.bool true)) rfl ?_)
     refine Run.region_end ?_
     refine Run.ret ⟨.inr rfl, ?_⟩
     exact hS.imp fun h' hq => ⟨(true), rfl, hq⟩
    ·have hS := hT rfl; clear hT hF
     refine Run.go rfl rfl rfl (sem_extract #[(Value.pointer p28), (Value.slice a29 n30 c31), (Value.bool true)] (.bool true) rfl rfl ?_)
     refine Run.go rfl rfl rfl (sem_assign ((Value.pointer p28)) rfl ?_)
     refine Run.go rfl rfl rfl (sem_assign ((Value.slice a29 n30 c31)) rfl ?_)
     refine Run.go rfl rfl rfl (sem_assign ((Value.bool true)) rfl ?_)
     refine Run.region_end ?_
     refine Run.seqJ (fun e h54 => Agree [(7, (Value.pointer p15)), (8, (Value.pointer (some ⟨k18, 0, none⟩))), (10, (Value.pointer p22)), (11, (Value.slice a23 n24 c25)), (13, (Value.pointer p28)), (14, (Value.slice a29 n30 c31))] e ∧ S_countermandlaw18_RedoLast_J2 B p15 k18 p22 a23 n24 c25 p28 a29 n30 c31 h54 Q) ?_ fun j53 => ?_
     ·rintro e h54 ⟨hag, hS⟩
      refine Run.env hag ?_; clear hag
      refine Run.seq ?_
      refine Run.ops0 (idx := [0, 1, 2, 3, 4, 5, 6, 7, 8, 9, 10, 11]) rfl ?_
      refine Run.go rfl rfl rfl (sem_move ((Value.pointer p15)) rfl ?_)
      refine Run.go rfl rfl rfl (sem_move ((Value.pointer p22)) rfl ?_)
      refine Run.go rfl rfl rfl (sem_callL [(Value.int .i64 (3)), (Value.pointer p22)] (TF.goes_66) rfl rfl (Spec.mono hS fun v h55 hv => ?_))
      obtain ⟨s56, rfl, hS⟩ := hv
      refine Run.go rfl rfl rfl (sem_move ((Value.pointer p28)) rfl ?_)
      refine Run.go rfl rfl rfl (sem_callL [(Value.int .i64 (2)), (Value.pointer p28)] (TF.goes_66) rfl rfl (Spec.mono hS fun v h57 hv => ?_))
      obtain ⟨s58, rfl, hS⟩ := hv
      refine Run.go rfl rfl rfl (sem_buildSliceL [(0, (Value.string s56)), (1, (Value.string s58))] [(Value.string s56), (Value.string s58)] TF.slc_55 TF.zero_9 rfl (by decide) (by decide) rfl rfl (fun k59 hb1 hb2 h60 hb3 => ?_))
      have hS := hS k59 hb1 hb2 h60 hb3
      refine Run.go rfl rfl rfl (sem_callL [(Value.pointer p15), (Value.slice (some ⟨k59, 0, none⟩) 2 2)] (TF.goes_72) rfl rfl (Spec.mono hS fun v h61 hv => ?_))
      obtain ⟨i62, i63, rfl, hS⟩ := hv
      refine Run.go rfl rfl rfl (sem_move ((Value.tuple #[(Value.int .i64 (i62)), (Value.int .i64 (i63))])) rfl ?_)
      refine Run.go rfl rfl rfl (sem_extract #[(Value.int .i64 (i62)), (Value.int .i64 (i63))] ((Value.int .i64 (i62))) rfl rfl ?_)
      refine Run.go rfl rfl rfl (sem_extract #[(Value.int .i64 (i62)), (Value.int .i64 (i63))] ((Value.int .i64 (i63))) rfl rfl ?_)
      refine Run.go rfl rfl rfl (sem_assign ((Value.int .i64 (i62))) rfl ?_)
      refine Run.go rfl rfl rfl (sem_assign ((Value.int .i64 (i63))) rfl ?_)
      refine Run.region_end ?_
      refine Run.seq ?_
      refine Run.ops0 (idx := [0, 1, 2, 3, 4, 5, 6, 7, 8, 9, 10, 11, 12, 13, 14, 15]) rfl ?_
      refine Run.go rfl rfl rfl (sem_move ((Value.int .i64 (i62))) rfl ?_)
      obtain ⟨hT, hF⟩ := hS
      by_cases hb64 : (i62 : Int) = 3
      ·have hS := hT hb64; clear hT hF
       refine Run.go rfl rfl rfl (sem_binI .i64 (i62) (3) (.bool true) rfl rfl (binI_eql_t hb64) ?_)
       refine Run.go rfl rfl rfl (sem_move ((Value.bool true)) rfl ?_)
       refine Run.go rfl rfl rfl (sem_move ((Value.int .i64 (i63))) rfl ?_)
       obtain ⟨hT, hF⟩ := hS
       by_cases hb65 : (i63 : Int) = 2
       ·have hS := hT hb65; clear hT hF
        refine Run.go rfl rfl rfl (sem_binI .i64 (i63) (2) (.bool true) rfl rfl (binI_eql_t hb65) ?_)
        refine Run.go rfl rfl rfl (sem_pick true ((Value.bool true)) rfl rfl ?_)
        refine Run.go rfl rfl rfl (sem_move ((Value.bool true)) rfl ?_)
        refine Run.go rfl rfl rfl (sem_move ((Value.pointer p15)) rfl ?_)
        obtain ⟨l66, hln, hl, hS⟩ := hS
        refine Run.go rfl rfl rfl (sem_loadN ⟨k18, 0, none⟩ l66 rfl TF.agg_115 (TF.sz_115.trans (congrArg some hln.symm)) hl ?_)
        refine Run.go rfl rfl rfl (sem_move ((Value.slice a23 n24 c25)) rfl ?_)
        refine Run.go rfl rfl rfl (sem_callL [(Value.agg (List.toArray l66)), (Value.slice a23 n24 c25)] (TF.goes_69) rfl rfl (Spec.mono hS fun v h67 hv => ?_))
        obtain ⟨l68, rfl, hS⟩ := hv
        refine Run.go rfl rfl rfl (sem_move ((Value.slice a29 n30 c31)) rfl ?_)
        refine Run.go rfl rfl rfl (sem_callL [(Value.agg (List.toArray l68)), (Value.slice a29 n30 c31)] (TF.goes_69) rfl rfl (Spec.mono hS fun v h69 hv => ?_))
        obtain ⟨l70, rfl, hS⟩ := hv
        refine Run.go rfl rfl rfl (sem_callL [(Value.pointer p15), (Value.agg (List.toArray l70))] (TF.goes_70) rfl rfl (Spec.mono hS fun v h71 hv => ?_))
        obtain ⟨b72, rfl, hS⟩ := hv
        refine Run.go rfl rfl rfl (sem_pick true ((Value.bool b72)) rfl rfl ?_)
        refine Run.go rfl rfl rfl (sem_assign ((Value.bool b72)) rfl ?_)
        refine Run.region_end ?_
        refine Run.ret ⟨.inr rfl, ?_⟩
        exact hS.imp fun h' hq => ⟨(b72), rfl, hq⟩
       ·have hS := hF hb65; clear hT hF
        refine Run.go rfl rfl rfl (sem_binI .i64 (i63) (2) (.bool false) rfl rfl (binI_eql_f hb65) ?_)
        refine Run.go rfl rfl rfl (sem_pick true ((Value.bool false)) rfl rfl ?_)
        refine Run.go rfl rfl rfl (sem_move ((Value.bool false)) rfl ?_)
        refine Run.no rfl rfl rfl ?_
        refine Run.no rfl rfl rfl ?_
        refine Run.no rfl rfl rfl ?_
        refine Run.no rfl rfl rfl ?_
        refine Run.no rfl rfl rfl ?_
        refine Run.no rfl rfl rfl ?_
        refine Run.no rfl rfl rfl ?_
        refine Run.go rfl rfl rfl (sem_pick false ((Value.bool false)) rfl rfl ?_)
        refine Run.go rfl rfl rfl (sem_assign ((Value.bool false)) rfl ?_)
        refine Run.region_end ?_
        refine Run.ret ⟨.inr rfl, ?_⟩
        exact hS.imp fun h' hq => ⟨(false), rfl, hq⟩
      ·have hS := hF hb64; clear hT hF
       refine Run.go rfl rfl rfl (sem_binI .i64 (i62) (3) (.bool false) rfl rfl (binI_eql_f hb64) ?_)
       refine Run.go rfl rfl rfl (sem_move ((Value.bool false)) rfl ?_)
       refine Run.no rfl rfl rfl ?_
       refine Run.no rfl rfl rfl ?_
       refine Run.go rfl rfl rfl (sem_pick false ((Value.bool false)) rfl rfl ?_)
       refine Run.go rfl rfl rfl (sem_move ((Value.bool false)) rfl ?_)
       refine Run.no rfl rfl rfl ?_
       refine Run.no rfl rfl rfl ?_
       refine Run.no rfl rfl rfl ?_
       refine Run.no rfl rfl rfl ?_
       refine Run.no rfl rfl rfl ?_
       refine Run.no rfl rfl rfl ?_
       refine Run.no rfl rfl rfl ?_
       refine Run.go rfl rfl rfl (sem_pick false ((Value.bool false)) rfl rfl ?_)
       refine Run.go rfl rfl rfl (sem_assign ((Value.bool false)) rfl ?_)
       refine Run.region_end ?_
       refine Run.ret ⟨.inr rfl, ?_⟩
       exact hS.imp fun h' hq => ⟨(false), rfl, hq⟩
     refine Run.seq ?_
     refine Run.ops0 (idx := [0, 1, 2, 3, 4, 5, 6, 7, 8, 9]) rfl ?_
     refine Run.go rfl rfl rfl (sem_move ((Value.bool false)) rfl ?_)
     refine Run.go rfl rfl rfl (sem_not false rfl ?_)
     refine Run.go rfl rfl rfl (sem_move ((Value.bool true)) rfl ?_)
     refine Run.no rfl rfl rfl ?_
     refine Run.no rfl rfl rfl ?_
     refine Run.go rfl rfl rfl (sem_pick true ((Value.bool true)) rfl rfl ?_)
     refine Run.go rfl rfl rfl (sem_move ((Value.bool true)) rfl ?_)
     refine Run.no rfl rfl rfl ?_
     refine Run.no rfl rfl rfl ?_
     refine Run.go rfl rfl rfl (sem_pick true ((Value.bool true)) rfl rfl ?_)
     refine Run.region_end ?_
     refine Run.condT rfl ?_
     refine Run.seq ?_
     refine Run.ops0 (idx := [0]) rfl ?_
     refine Run.go rfl rfl rfl (sem_assign ((Value.bool true)) rfl ?_)
     refine Run.region_end ?_
     refine Run.ret ⟨.inr rfl, ?_⟩
     exact hS.imp fun h' hq => ⟨(true), rfl, hq⟩
   ·have hS := hT rfl; clear hT hF
    refine Run.go rfl rfl rfl (sem_extract #[(Value.pointer p22), (Value.slice a23 n24 c25), (Value.bool true)] (.bool true) rfl rfl ?_)
    refine Run.go rfl rfl rfl (sem_assign ((Value.pointer p22)) rfl ?_)
    refine Run.go rfl rfl rfl (sem_assign ((Value.slice a23 n24 c25)) rfl ?_)
    refine Run.go rfl rfl rfl (sem_assign ((Value.bool true)) rfl ?_)
    refine Run.region_end ?_
    refine Run.seq ?_
    refine Run.ops0 (idx := [0, 1, 2, 3, 4, 5, 6, 7, 8]) rfl ?_
    refine Run.go rfl rfl rfl (sem_move ((Value.slice a5 n6 c7)) rfl ?_)
    refine Run.go rfl rfl rfl (sem_callL [(Value.slice a5 n6 c7)] (TF.goes_65) rfl rfl (Spec.mono hS fun v h73 hv => ?_))
    obtain ⟨p74, a75, n76, c77, b78, rfl, hS⟩ := hv
    refine Run.go rfl rfl rfl (sem_move ((Value.tuple #[(Value.pointer p74), (Value.slice a75 n76 c77), (Value.bool b78)])) rfl ?_)
    refine Run.go rfl rfl rfl (sem_extract #[(Value.pointer p74), (Value.slice a75 n76 c77), (Value.bool b78)] ((Value.pointer p74)) rfl rfl ?_)
    refine Run.go rfl rfl rfl (sem_extract #[(Value.pointer p74), (Value.slice a75 n76 c77), (Value.bool b78)] ((Value.slice a75 n76 c77)) rfl rfl ?_)
    obtain ⟨hT, hF⟩ := hS
    cases b78
    ·have hS := hF rfl; clear hT hF
     refine Run.go rfl rfl rfl (sem_extract #[(Value.pointer p74), (Value.slice a75 n76 c77), (Value.bool false)] (.bool false) rfl rfl ?_)
     refine Run.go rfl rfl rfl (sem_assign ((Value.pointer p74)) rfl ?_)
     refine Run.go rfl rfl rfl (sem_assign ((Value.slice a75 n76 c77)) rfl ?_)
     refine Run.go rfl rfl rfl (sem_assign ((Value.bool false)) rfl ?_)
     refine Run.region_end ?_
     refine Run.seqJ (fun e h80 => Agree [(7, (Value.pointer p15)), (8, (Value.pointer (some ⟨k18, 0, none⟩))), (10, (Value.pointer p22)), (11, (Value.slice a23 n24 c25)), (13, (Value.pointer p74)), (14, (Value.slice a75 n76 c77))] e ∧ S_countermandlaw18_RedoLast_J3 B p15 k18 p22 a23 n24 c25 p74 a75 n76 c77 h80 Q) ?_ fun j79 => ?_
     ·rintro e h80 ⟨hag, hS⟩
      refine Run.env hag ?_; clear hag
      refine Run.seq ?_
      refine Run.ops0 (idx := [0, 1, 2, 3, 4, 5, 6, 7, 8, 9, 10, 11]) rfl ?_
      refine Run.go rfl rfl rfl (sem_move ((Value.pointer p15)) rfl ?_)
      refine Run.go rfl rfl rfl (sem_move ((Value.pointer p22)) rfl ?_)
      refine Run.go rfl rfl rfl (sem_callL [(Value.int .i64 (3)), (Value.pointer p22)] (TF.goes_66) rfl rfl (Spec.mono hS fun v h81 hv => ?_))
      obtain ⟨s82, rfl, hS⟩ := hv
      refine Run.go rfl rfl rfl (sem_move ((Value.pointer p74)) rfl ?_)
      refine Run.go rfl rfl rfl (sem_callL [(Value.int .i64 (2)), (Value.pointer p74)] (TF.goes_66) rfl rfl (Spec.mono hS fun v h83 hv => ?_))
      obtain ⟨s84, rfl, hS⟩ := hv
      refine Run.go rfl rfl rfl (sem_buildSliceL [(0, (Value.string s82)), (1, (Value.string s84))] [(Value.string s82), (Value.string s84)] TF.slc_55 TF.zero_9 rfl (by decide) (by decide) rfl rfl (fun k85 hb1 hb2 h86 hb3 => ?_))
      have hS := hS k85 hb1 hb2 h86 hb3
      refine Run.go rfl rfl rfl (sem_callL [(Value.pointer p15), (Value.slice (some ⟨k85, 0, none⟩) 2 2)] (TF.goes_72) rfl rfl (Spec.mono hS fun v h87 hv => ?_))
      obtain ⟨i88, i89, rfl, hS⟩ := hv
      refine Run.go rfl rfl rfl (sem_move ((Value.tuple #[(Value.int .i64 (i88)), (Value.int .i64 (i89))])) rfl ?_)
      refine Run.go rfl rfl rfl (sem_extract #[(Value.int .i64 (i88)), (Value.int .i64 (i89))] ((Value.int .i64 (i88))) rfl rfl ?_)
      refine Run.go rfl rfl rfl (sem_extract #[(Value.int .i64 (i88)), (Value.int .i64 (i89))] ((Value.int .i64 (i89))) rfl rfl ?_)
      refine Run.go rfl rfl rfl (sem_assign ((Value.int .i64 (i88))) rfl ?_)
      refine Run.go rfl rfl rfl (sem_assign ((Value.int .i64 (i89))) rfl ?_)
      refine Run.region_end ?_
      refine Run.seq ?_
      refine Run.ops0 (idx := [0, 1, 2, 3, 4, 5, 6, 7, 8, 9, 10, 11, 12, 13, 14, 15]) rfl ?_
      refine Run.go rfl rfl rfl (sem_move ((Value.int .i64 (i88))) rfl ?_)
      obtain ⟨hT, hF⟩ := hS
      by_cases hb90 : (i88 : Int) = 3
      ·have hS := hT hb90; clear hT hF
       refine Run.go rfl rfl rfl (sem_binI .i64 (i88) (3) (.bool true) rfl rfl (binI_eql_t hb90) ?_)
       refine Run.go rfl rfl rfl (sem_move ((Value.bool true)) rfl ?_)
       refine Run.go rfl rfl rfl (sem_move ((Value.int .i64 (i89))) rfl ?_)
       obtain ⟨hT, hF⟩ := hS
       by_cases hb91 : (i89 : Int) = 2
       ·have hS := hT hb91; clear hT hF
        refine Run.go rfl rfl rfl (sem_binI .i64 (i89) (2) (.bool true) rfl rfl (binI_eql_t hb91) ?_)
        refine Run.go rfl rfl rfl (sem_pick true ((Value.bool true)) rfl rfl ?_)
        refine Run.go rfl rfl rfl (sem_move ((Value.bool true)) rfl ?_)
        refine Run.go rfl rfl rfl (sem_move ((Value.pointer p15)) rfl ?_)
        obtain ⟨l92, hln, hl, hS⟩ := hS
        refine Run.go rfl rfl rfl (sem_loadN ⟨k18, 0, none⟩ l92 rfl TF.agg_115 (TF.sz_115.trans (congrArg some hln.symm)) hl ?_)
        refine Run.go rfl rfl rfl (sem_move ((Value.slice a23 n24 c25)) rfl ?_)
        refine Run.go rfl rfl rfl (sem_callL [(Value.agg (List.toArray l92)), (Value.slice a23 n24 c25)] (TF.goes_69) rfl rfl (Spec.mono hS fun v h93 hv => ?_))
        obtain ⟨l94, rfl, hS⟩ := hv
        refine Run.go rfl rfl rfl (sem_move ((Value.slice a75 n76 c77)) rfl ?_)
        refine Run.go rfl rfl rfl (sem_callL [(Value.agg (List.toArray l94)), (Value.slice a75 n76 c77)] (TF.goes_69) rfl rfl (Spec.mono hS fun v h95 hv => ?_))
        obtain ⟨l96, rfl, hS⟩ := hv
        refine Run.go rfl rfl rfl (sem_callL [(Value.pointer p15), (Value.agg (List.toArray l96))] (TF.goes_70) rfl rfl (Spec.mono hS fun v h97 hv => ?_))
        obtain ⟨b98, rfl, hS⟩ := hv
        refine Run.go rfl rfl rfl (sem_pick true ((Value.bool b98)) rfl rfl ?_)
        refine Run.go rfl rfl rfl (sem_assign ((Value.bool b98)) rfl ?_)
        refine Run.region_end ?_
        refine Run.ret ⟨.inr rfl, ?_⟩
        exact hS.imp fun h' hq => ⟨(b98), rfl, hq⟩
       ·have hS := hF hb91; clear hT hF
        refine Run.go rfl rfl rfl (sem_binI .i64 (i89) (2) (.bool false) rfl rfl (binI_eql_f hb91) ?_)
        refine Run.go rfl rfl rfl (sem_pick true ((Value.bool false)) rfl rfl ?_)
        refine Run.go rfl rfl rfl (sem_move ((Value.bool false)) rfl ?_)
        refine Run.no rfl rfl rfl ?_
        refine Run.no rfl rfl rfl ?_
        refine Run.no rfl rfl rfl ?_
        refine Run.no rfl rfl rfl ?_
        refine Run.no rfl rfl rfl ?_
        refine Run.no rfl rfl rfl ?_
        refine Run.no rfl rfl rfl ?_
        refine Run.go rfl rfl rfl (sem_pick false ((Value.bool false)) rfl rfl ?_)
        refine Run.go rfl rfl rfl (sem_assign ((Value.bool false)) rfl ?_)
        refine Run.region_end ?_
        refine Run.ret ⟨.inr rfl, ?_⟩
        exact hS.imp fun h' hq => ⟨(false), rfl, hq⟩
      ·have hS := hF hb90; clear hT hF
       refine Run.go rfl rfl rfl (sem_binI .i64 (i88) (3) (.bool false) rfl rfl (binI_eql_f hb90) ?_)
       refine Run.go rfl rfl rfl (sem_move ((Value.bool false)) rfl ?_)
       refine Run.no rfl rfl rfl ?_
       refine Run.no rfl rfl rfl ?_
       refine Run.go rfl rfl rfl (sem_pick false ((Value.bool false)) rfl rfl ?_)
       refine Run.go rfl rfl rfl (sem_move ((Value.bool false)) rfl ?_)
       refine Run.no rfl rfl rfl ?_
       refine Run.no rfl rfl rfl ?_
       refine Run.no rfl rfl rfl ?_
       refine Run.no rfl rfl rfl ?_
       refine Run.no rfl rfl rfl ?_
       refine Run.no rfl rfl rfl ?_
       refine Run.no rfl rfl rfl ?_
       refine Run.go rfl rfl rfl (sem_pick false ((Value.bool false)) rfl rfl ?_)
       refine Run.go rfl rfl rfl (sem_assign ((Value.bool false)) rfl ?_)
       refine Run.region_end ?_
       refine Run.ret ⟨.inr rfl, ?_⟩
       exact hS.imp fun h' hq => ⟨(false), rfl, hq⟩
     refine Run.seq ?_
     refine Run.ops0 (idx := [0, 1, 2, 3, 4, 5, 6, 7, 8, 9]) rfl ?_
     refine Run.go rfl rfl rfl (sem_move ((Value.bool false)) rfl ?_)
     refine Run.go rfl rfl rfl (sem_not false rfl ?_)
     refine Run.go rfl rfl rfl (sem_move ((Value.bool true)) rfl ?_)
     refine Run.no rfl rfl rfl ?_
     refine Run.no rfl rfl rfl ?_
     refine Run.go rfl rfl rfl (sem_pick true ((Value.bool true)) rfl rfl ?_)
     refine Run.go rfl rfl rfl (sem_move ((Value.bool true)) rfl ?_)
     refine Run.no rfl rfl rfl ?_
     refine Run.no rfl rfl rfl ?_
     refine Run.go rfl rfl rfl (sem_pick true ((Value.bool true)) rfl rfl ?_)
     refine Run.region_end ?_
     refine Run.condT rfl ?_
     refine Run.seq ?_
     refine Run.ops0 (idx := [0]) rfl ?_
     refine Run.go rfl rfl rfl (sem_assign ((Value.bool true)) rfl ?_)
     refine Run.region_end ?_
     refine Run.ret ⟨.inr rfl, ?_⟩
     exact hS.imp fun h' hq => ⟨(true), rfl, hq⟩
    ·have hS := hT rfl; clear hT hF
     refine Run.go rfl rfl rfl (sem_extract #[(Value.pointer p74), (Value.slice a75 n76 c77), (Value.bool true)] (.bool true) rfl rfl ?_)
     refine Run.go rfl rfl rfl (sem_assign ((Value.pointer p74)) rfl ?_)
     refine Run.go rfl rfl rfl (sem_assign ((Value.slice a75 n76 c77)) rfl ?_)
     refine Run.go rfl rfl rfl (sem_assign ((Value.bool true)) rfl ?_)
     refine Run.region_end ?_
     refine Run.seqJ (fun e h100 => Agree [(7, (Value.pointer p15)), (8, (Value.pointer (some ⟨k18, 0, none⟩))), (10, (Value.pointer p22)), (11, (Value.slice a23 n24 c25)), (13, (Value.pointer p74)), (14, (Value.slice a75 n76 c77))] e ∧ S_countermandlaw18_RedoLast_J4 B p15 k18 p22 a23 n24 c25 p74 a75 n76 c77 h100 Q) ?_ fun j99 => ?_
     ·rintro e h100 ⟨hag, hS⟩
      refine Run.env hag ?_; clear hag
      refine Run.seq ?_
      refine Run.ops0 (idx := [0, 1, 2, 3, 4, 5, 6, 7, 8, 9, 10, 11]) rfl ?_
      refine Run.go rfl rfl rfl (sem_move ((Value.pointer p15)) rfl ?_)
      refine Run.go rfl rfl rfl (sem_move ((Value.pointer p22)) rfl ?_)
      refine Run.go rfl rfl rfl (sem_callL [(Value.int .i64 (3)), (Value.pointer p22)] (TF.goes_66) rfl rfl (Spec.mono hS fun v h101 hv => ?_))
      obtain ⟨s102, rfl, hS⟩ := hv
      refine Run.go rfl rfl rfl (sem_move ((Value.pointer p74)) rfl ?_)
      refine Run.go rfl rfl rfl (sem_callL [(Value.int .i64 (2)), (Value.pointer p74)] (TF.goes_66) rfl rfl (Spec.mono hS fun v h103 hv => ?_))
      obtain ⟨s104, rfl, hS⟩ := hv
      refine Run.go rfl rfl rfl (sem_buildSliceL [(0, (Value.string s102)), (1, (Value.string s104))] [(Value.string s102), (Value.string s104)] TF.slc_55 TF.zero_9 rfl (by decide) (by decide) rfl rfl (fun k105 hb1 hb2 h106 hb3 => ?_))
      have hS := hS k105 hb1 hb2 h106 hb3
      refine Run.go rfl rfl rfl (sem_callL [(Value.pointer p15), (Value.slice (some ⟨k105, 0, none⟩) 2 2)] (TF.goes_72) rfl rfl (Spec.mono hS fun v h107 hv => ?_))
      obtain ⟨i108, i109, rfl, hS⟩ := hv
      refine Run.go rfl rfl rfl (sem_move ((Value.tuple #[(Value.int .i64 (i108)), (Value.int .i64 (i109))])) rfl ?_)
      refine Run.go rfl rfl rfl (sem_extract #[(Value.int .i64 (i108)), (Value.int .i64 (i109))] ((Value.int .i64 (i108))) rfl rfl ?_)
      refine Run.go rfl rfl rfl (sem_extract #[(Value.int .i64 (i108)), (Value.int .i64 (i109))] ((Value.int .i64 (i109))) rfl rfl ?_)
      refine Run.go rfl rfl rfl (sem_assign ((Value.int .i64 (i108))) rfl ?_)
      refine Run.go rfl rfl rfl (sem_assign ((Value.int .i64 (i109))) rfl ?_)
      refine Run.region_end ?_
      refine Run.seq ?_
      refine Run.ops0 (idx := [0, 1, 2, 3, 4, 5, 6, 7, 8, 9, 10, 11, 12, 13, 14, 15]) rfl ?_
      refine Run.go rfl rfl rfl (sem_move ((Value.int .i64 (i108))) rfl ?_)
      obtain ⟨hT, hF⟩ := hS
      by_cases hb110 : (i108 : Int) = 3
      ·have hS := hT hb110; clear hT hF
       refine Run.go rfl rfl rfl (sem_binI .i64 (i108) (3) (.bool true) rfl rfl (binI_eql_t hb110) ?_)
       refine Run.go rfl rfl rfl (sem_move ((Value.bool true)) rfl ?_)
       refine Run.go rfl rfl rfl (sem_move ((Value.int .i64 (i109))) rfl ?_)
       obtain ⟨hT, hF⟩ := hS
       by_cases hb111 : (i109 : Int) = 2
       ·have hS := hT hb111; clear hT hF
        refine Run.go rfl rfl rfl (sem_binI .i64 (i109) (2) (.bool true) rfl rfl (binI_eql_t hb111) ?_)
        refine Run.go rfl rfl rfl (sem_pick true ((Value.bool true)) rfl rfl ?_)
        refine Run.go rfl rfl rfl (sem_move ((Value.bool true)) rfl ?_)
        refine Run.go rfl rfl rfl (sem_move ((Value.pointer p15)) rfl ?_)
        obtain ⟨l112, hln, hl, hS⟩ := hS
        refine Run.go rfl rfl rfl (sem_loadN ⟨k18, 0, none⟩ l112 rfl TF.agg_115 (TF.sz_115.trans (congrArg some hln.symm)) hl ?_)
        refine Run.go rfl rfl rfl (sem_move ((Value.slice a23 n24 c25)) rfl ?_)
        refine Run.go rfl rfl rfl (sem_callL [(Value.agg (List.toArray l112)), (Value.slice a23 n24 c25)] (TF.goes_69) rfl rfl (Spec.mono hS fun v h113 hv => ?_))
        obtain ⟨l114, rfl, hS⟩ := hv
        refine Run.go rfl rfl rfl (sem_move ((Value.slice a75 n76 c77)) rfl ?_)
        refine Run.go rfl rfl rfl (sem_callL [(Value.agg (List.toArray l114)), (Value.slice a75 n76 c77)] (TF.goes_69) rfl rfl (Spec.mono hS fun v h115 hv => ?_))
        obtain ⟨l116, rfl, hS⟩ := hv
        refine Run.go rfl rfl rfl (sem_callL [(Value.pointer p15), (Value.agg (List.toArray l116))] (TF.goes_70) rfl rfl (Spec.mono hS fun v h117 hv => ?_))
        obtain ⟨b118, rfl, hS⟩ := hv
        refine Run.go rfl rfl rfl (sem_pick true ((Value.bool b118)) rfl rfl ?_)
        refine Run.go rfl rfl rfl (sem_assign ((Value.bool b118)) rfl ?_)
        refine Run.region_end ?_
        refine Run.ret ⟨.inr rfl, ?_⟩
        exact hS.imp fun h' hq => ⟨(b118), rfl, hq⟩
       ·have hS := hF hb111; clear hT hF
        refine Run.go rfl rfl rfl (sem_binI .i64 (i109) (2) (.bool false) rfl rfl (binI_eql_f hb111) ?_)
        refine Run.go rfl rfl rfl (sem_pick true ((Value.bool false)) rfl rfl ?_)
        refine Run.go rfl rfl rfl (sem_move ((Value.bool false)) rfl ?_)
        refine Run.no rfl rfl rfl ?_
        refine Run.no rfl rfl rfl ?_
        refine Run.no rfl rfl rfl ?_
        refine Run.no rfl rfl rfl ?_
        refine Run.no rfl rfl rfl ?_
        refine Run.no rfl rfl rfl ?_
        refine Run.no rfl rfl rfl ?_
        refine Run.go rfl rfl rfl (sem_pick false ((Value.bool false)) rfl rfl ?_)
        refine Run.go rfl rfl rfl (sem_assign ((Value.bool false)) rfl ?_)
        refine Run.region_end ?_
        refine Run.ret ⟨.inr rfl, ?_⟩
        exact hS.imp fun h' hq => ⟨(false), rfl, hq⟩
      ·have hS := hF hb110; clear hT hF
       refine Run.go rfl rfl rfl (sem_binI .i64 (i108) (3) (.bool false) rfl rfl (binI_eql_f hb110) ?_)
       refine Run.go rfl rfl rfl (sem_move ((Value.bool false)) rfl ?_)
       refine Run.no rfl rfl rfl ?_
       refine Run.no rfl rfl rfl ?_
       refine Run.go rfl rfl rfl (sem_pick false ((Value.bool false)) rfl rfl ?_)
       refine Run.go rfl rfl rfl (sem_move ((Value.bool false)) rfl ?_)
       refine Run.no rfl rfl rfl ?_
       refine Run.no rfl rfl rfl ?_
       refine Run.no rfl rfl rfl ?_
       refine Run.no rfl rfl rfl ?_
       refine Run.no rfl rfl rfl ?_
       refine Run.no rfl rfl rfl ?_
       refine Run.no rfl rfl rfl ?_
       refine Run.go rfl rfl rfl (sem_pick false ((Value.bool false)) rfl rfl ?_)
       refine Run.go rfl rfl rfl (sem_assign ((Value.bool false)) rfl ?_)
       refine Run.region_end ?_
       refine Run.ret ⟨.inr rfl, ?_⟩
       exact hS.imp fun h' hq => ⟨(false), rfl, hq⟩
     refine Run.seq ?_
     refine Run.ops0 (idx := [0, 1, 2, 3, 4, 5, 6, 7, 8, 9]) rfl ?_
     refine Run.go rfl rfl rfl (sem_move ((Value.bool false)) rfl ?_)
     refine Run.go rfl rfl rfl (sem_not false rfl ?_)
     refine Run.go rfl rfl rfl (sem_move ((Value.bool true)) rfl ?_)
     refine Run.no rfl rfl rfl ?_
     refine Run.no rfl rfl rfl ?_
     refine Run.go rfl rfl rfl (sem_pick true ((Value.bool true)) rfl rfl ?_)
     refine Run.go rfl rfl rfl (sem_move ((Value.bool true)) rfl ?_)
     refine Run.no rfl rfl rfl ?_
     refine Run.no rfl rfl rfl ?_
     refine Run.go rfl rfl rfl (sem_pick true ((Value.bool true)) rfl rfl ?_)
     refine Run.region_end ?_
     refine Run.condT rfl ?_
     refine Run.seq ?_
     refine Run.ops0 (idx := [0]) rfl ?_
     refine Run.go rfl rfl rfl (sem_assign ((Value.bool true)) rfl ?_)
     refine Run.region_end ?_
     refine Run.ret ⟨.inr rfl, ?_⟩
     exact hS.imp fun h' hq => ⟨(true), rfl, hq⟩
  ·have hS := hT rfl; clear hT hF
   refine Run.go rfl rfl rfl (sem_extract #[(Value.pointer p15), (Value.agg (List.toArray l16)), (Value.bool true)] (.bool true) rfl rfl ?_)
   refine Run.go rfl rfl rfl (sem_allocN [(Value.bool false), (Value.string ByteArray.empty), (Value.bool false), (Value.string ByteArray.empty), (Value.bool false), (Value.string ByteArray.empty), (Value.bool false), (Value.string ByteArray.empty), (Value.bool false), (Value.string ByteArray.empty), (Value.bool false), (Value.string ByteArray.empty)] TF.zero_115 (fun k119 hb1 hb2 h120 hb3 => ?_))
   have hS := hS k119 hb1 hb2 h120 hb3
   refine Run.go rfl rfl rfl (sem_assign ((Value.pointer p15)) rfl ?_)
   obtain ⟨hln, h121, hst, hS⟩ := hS
   refine Run.go rfl rfl rfl (sem_storeN ⟨k119, 0, none⟩ l16 h121 rfl rfl (TF.sz_115.trans (congrArg some hln.symm)) hst ?_)
   refine Run.go rfl rfl rfl (sem_assign ((Value.bool true)) rfl ?_)
   refine Run.region_end ?_
   refine Run.seq ?_
   refine Run.ops0 (idx := [0, 1, 2, 3, 4, 5, 6, 7, 8]) rfl ?_
   refine Run.go rfl rfl rfl (sem_move ((Value.slice a2 n3 c4)) rfl ?_)
   refine Run.go rfl rfl rfl (sem_callL [(Value.slice a2 n3 c4)] (TF.goes_65) rfl rfl (Spec.mono hS fun v h122 hv => ?_))
   obtain ⟨p123, a124, n125, c126, b127, rfl, hS⟩ := hv
   refine Run.go rfl rfl rfl (sem_move ((Value.tuple #[(Value.pointer p123), (Value.slice a124 n125 c126), (Value.bool b127)])) rfl ?_)
   refine Run.go rfl rfl rfl (sem_extract #[(Value.pointer p123), (Value.slice a124 n125 c126), (Value.bool b127)] ((Value.pointer p123)) rfl rfl ?_)
   refine Run.go rfl rfl rfl (sem_extract #[(Value.pointer p123), (Value.slice a124 n125 c126), (Value.bool b127)] ((Value.slice a124 n125 c126)) rfl rfl ?_)
   obtain ⟨hT, hF⟩ := hS
   cases b127
   ·have hS := hF rfl; clear hT hF
    refine Run.go rfl rfl rfl (sem_extract #[(Value.pointer p123), (Value.slice a124 n125 c126), (Value.bool false)] (.bool false) rfl rfl ?_)
    refine Run.go rfl rfl rfl (sem_assign ((Value.pointer p123)) rfl ?_)
    refine Run.go rfl rfl rfl (sem_assign ((Value.slice a124 n125 c126)) rfl ?_)
    refine Run.go rfl rfl rfl (sem_assign ((Value.bool false)) rfl ?_)
    refine Run.region_end ?_
    refine Run.seq ?_
    refine Run.ops0 (idx := [0, 1, 2, 3, 4, 5, 6, 7, 8]) rfl ?_
    refine Run.go rfl rfl rfl (sem_move ((Value.slice a5 n6 c7)) rfl ?_)
    refine Run.go rfl rfl rfl (sem_callL [(Value.slice a5 n6 c7)] (TF.goes_65) rfl rfl (Spec.mono hS fun v h128 hv => ?_))
    obtain ⟨p129, a130, n131, c132, b133, rfl, hS⟩ := hv
    refine Run.go rfl rfl rfl (sem_move ((Value.tuple #[(Value.pointer p129), (Value.slice a130 n131 c132), (Value.bool b133)])) rfl ?_)
    refine Run.go rfl rfl rfl (sem_extract #[(Value.pointer p129), (Value.slice a130 n131 c132), (Value.bool b133)] ((Value.pointer p129)) rfl rfl ?_)
    refine Run.go rfl rfl rfl (sem_extract #[(Value.pointer p129), (Value.slice a130 n131 c132), (Value.bool b133)] ((Value.slice a130 n131 c132)) rfl rfl ?_)
    obtain ⟨hT, hF⟩ := hS
    cases b133
    ·have hS := hF rfl; clear hT hF
     refine Run.go rfl rfl rfl (sem_extract #[(Value.pointer p129), (Value.slice a130 n131 c132), (Value.bool false)] (.bool false) rfl rfl ?_)
     refine Run.go rfl rfl rfl (sem_assign ((Value.pointer p129)) rfl ?_)
     refine Run.go rfl rfl rfl (sem_assign ((Value.slice a130 n131 c132)) rfl ?_)
     refine Run.go rfl rfl rfl (sem_assign ((Value.bool false)) rfl ?_)
     refine Run.region_end ?_
     refine Run.seqJ (fun e h135 => Agree [(7, (Value.pointer p15)), (8, (Value.pointer (some ⟨k119, 0, none⟩))), (10, (Value.pointer p123)), (11, (Value.slice a124 n125 c126)), (13, (Value.pointer p129)), (14, (Value.slice a130 n131 c132))] e ∧ S_countermandlaw18_RedoLast_J5 B p15 k119 p123 a124 n125 c126 p129 a130 n131 c132 h135 Q) ?_ fun j134 => ?_
     ·rintro e h135 ⟨hag, hS⟩
      refine Run.env hag ?_; clear hag
      refine Run.seq ?_
      refine Run.ops0 (idx := [0, 1, 2, 3, 4, 5, 6, 7, 8, 9, 10, 11]) rfl ?_
      refine Run.go rfl rfl rfl (sem_move ((Value.pointer p15)) rfl ?_)
      refine Run.go rfl rfl rfl (sem_move ((Value.pointer p123)) rfl ?_)
      refine Run.go rfl rfl rfl (sem_callL [(Value.int .i64 (3)), (Value.pointer p123)] (TF.goes_66) rfl rfl (Spec.mono hS fun v h136 hv => ?_))
      obtain ⟨s137, rfl, hS⟩ := hv
      refine Run.go rfl rfl rfl (sem_move ((Value.pointer p129)) rfl ?_)
      refine Run.go rfl rfl rfl (sem_callL [(Value.int .i64 (2)), (Value.pointer p129)] (TF.goes_66) rfl rfl (Spec.mono hS fun v h138 hv => ?_))
      obtain ⟨s139, rfl, hS⟩ := hv
      refine Run.go rfl rfl rfl (sem_buildSliceL [(0, (Value.string s137)), (1, (Value.string s139))] [(Value.string s137), (Value.string s139)] TF.slc_55 TF.zero_9 rfl (by decide) (by decide) rfl rfl (fun k140 hb1 hb2 h141 hb3 => ?_))
      have hS := hS k140 hb1 hb2 h141 hb3
      refine Run.go rfl rfl rfl (sem_callL [(Value.pointer p15), (Value.slice (some ⟨k140, 0, none⟩) 2 2)] (TF.goes_72) rfl rfl (Spec.mono hS fun v h142 hv => ?_))
      obtain ⟨i143, i144, rfl, hS⟩ := hv
      refine Run.go rfl rfl rfl (sem_move ((Value.tuple #[(Value.int .i64 (i143)), (Value.int .i64 (i144))])) rfl ?_)
      refine Run.go rfl rfl rfl (sem_extract #[(Value.int .i64 (i143)), (Value.int .i64 (i144))] ((Value.int .i64 (i143))) rfl rfl ?_)
      refine Run.go rfl rfl rfl (sem_extract #[(Value.int .i64 (i143)), (Value.int .i64 (i144))] ((Value.int .i64 (i144))) rfl rfl ?_)
      refine Run.go rfl rfl rfl (sem_assign ((Value.int .i64 (i143))) rfl ?_)
      refine Run.go rfl rfl rfl (sem_assign ((Value.int .i64 (i144))) rfl ?_)
      refine Run.region_end ?_
      refine Run.seq ?_
      refine Run.ops0 (idx := [0, 1, 2, 3, 4, 5, 6, 7, 8, 9, 10, 11, 12, 13, 14, 15]) rfl ?_
      refine Run.go rfl rfl rfl (sem_move ((Value.int .i64 (i143))) rfl ?_)
      obtain ⟨hT, hF⟩ := hS
      by_cases hb145 : (i143 : Int) = 3
      ·have hS := hT hb145; clear hT hF
       refine Run.go rfl rfl rfl (sem_binI .i64 (i143) (3) (.bool true) rfl rfl (binI_eql_t hb145) ?_)
       refine Run.go rfl rfl rfl (sem_move ((Value.bool true)) rfl ?_)
       refine Run.go rfl rfl rfl (sem_move ((Value.int .i64 (i144))) rfl ?_)
       obtain ⟨hT, hF⟩ := hS
       by_cases hb146 : (i144 : Int) = 2
       ·have hS := hT hb146; clear hT hF
        refine Run.go rfl rfl rfl (sem_binI .i64 (i144) (2) (.bool true) rfl rfl (binI_eql_t hb146) ?_)
        refine Run.go rfl rfl rfl (sem_pick true ((Value.bool true)) rfl rfl ?_)
        refine Run.go rfl rfl rfl (sem_move ((Value.bool true)) rfl ?_)
        refine Run.go rfl rfl rfl (sem_move ((Value.pointer p15)) rfl ?_)
        obtain ⟨l147, hln, hl, hS⟩ := hS
        refine Run.go rfl rfl rfl (sem_loadN ⟨k119, 0, none⟩ l147 rfl TF.agg_115 (TF.sz_115.trans (congrArg some hln.symm)) hl ?_)
        refine Run.go rfl rfl rfl (sem_move ((Value.slice a124 n125 c126)) rfl ?_)
        refine Run.go rfl rfl rfl (sem_callL [(Value.agg (List.toArray l147)), (Value.slice a124 n125 c126)] (TF.goes_69) rfl rfl (Spec.mono hS fun v h148 hv => ?_))
        obtain ⟨l149, rfl, hS⟩ := hv
        refine Run.go rfl rfl rfl (sem_move ((Value.slice a130 n131 c132)) rfl ?_)
        refine Run.go rfl rfl rfl (sem_callL [(Value.agg (List.toArray l149)), (Value.slice a130 n131 c132)] (TF.goes_69) rfl rfl (Spec.mono hS fun v h150 hv => ?_))
        obtain ⟨l151, rfl, hS⟩ := hv
        refine Run.go rfl rfl rfl (sem_callL [(Value.pointer p15), (Value.agg (List.toArray l151))] (TF.goes_70) rfl rfl (Spec.mono hS fun v h152 hv => ?_))
        obtain ⟨b153, rfl, hS⟩ := hv
        refine Run.go rfl rfl rfl (sem_pick true ((Value.bool b153)) rfl rfl ?_)
        refine Run.go rfl rfl rfl (sem_assign ((Value.bool b153)) rfl ?_)
        refine Run.region_end ?_
        refine Run.ret ⟨.inr rfl, ?_⟩
        exact hS.imp fun h' hq => ⟨(b153), rfl, hq⟩
       ·have hS := hF hb146; clear hT hF
        refine Run.go rfl rfl rfl (sem_binI .i64 (i144) (2) (.bool false) rfl rfl (binI_eql_f hb146) ?_)
        refine Run.go rfl rfl rfl (sem_pick true ((Value.bool false)) rfl rfl ?_)
        refine Run.go rfl rfl rfl (sem_move ((Value.bool false)) rfl ?_)
        refine Run.no rfl rfl rfl ?_
        refine Run.no rfl rfl rfl ?_
        refine Run.no rfl rfl rfl ?_
        refine Run.no rfl rfl rfl ?_
        refine Run.no rfl rfl rfl ?_
        refine Run.no rfl rfl rfl ?_
        refine Run.no rfl rfl rfl ?_
        refine Run.go rfl rfl rfl (sem_pick false ((Value.bool false)) rfl rfl ?_)
        refine Run.go rfl rfl rfl (sem_assign ((Value.bool false)) rfl ?_)
        refine Run.region_end ?_
        refine Run.ret ⟨.inr rfl, ?_⟩
        exact hS.imp fun h' hq => ⟨(false), rfl, hq⟩
      ·have hS := hF hb145; clear hT hF
       refine Run.go rfl rfl rfl (sem_binI .i64 (i143) (3) (.bool false) rfl rfl (binI_eql_f hb145) ?_)
       refine Run.go rfl rfl rfl (sem_move ((Value.bool false)) rfl ?_)
       refine Run.no rfl rfl rfl ?_
       refine Run.no rfl rfl rfl ?_
       refine Run.go rfl rfl rfl (sem_pick false ((Value.bool false)) rfl rfl ?_)
       refine Run.go rfl rfl rfl (sem_move ((Value.bool false)) rfl ?_)
       refine Run.no rfl rfl rfl ?_
       refine Run.no rfl rfl rfl ?_
       refine Run.no rfl rfl rfl ?_
       refine Run.no rfl rfl rfl ?_
       refine Run.no rfl rfl rfl ?_
       refine Run.no rfl rfl rfl ?_
       refine Run.no rfl rfl rfl ?_
       refine Run.go rfl rfl rfl (sem_pick false ((Value.bool false)) rfl rfl ?_)
       refine Run.go rfl rfl rfl (sem_assign ((Value.bool false)) rfl ?_)
       refine Run.region_end ?_
       refine Run.ret ⟨.inr rfl, ?_⟩
       exact hS.imp fun h' hq => ⟨(false), rfl, hq⟩
     refine Run.seq ?_
     refine Run.ops0 (idx := [0, 1, 2, 3, 4, 5, 6, 7, 8, 9]) rfl ?_
     refine Run.go rfl rfl rfl (sem_move ((Value.bool true)) rfl ?_)
     refine Run.go rfl rfl rfl (sem_not true rfl ?_)
     refine Run.go rfl rfl rfl (sem_move ((Value.bool false)) rfl ?_)
     refine Run.go rfl rfl rfl (sem_move ((Value.bool false)) rfl ?_)
     refine Run.go rfl rfl rfl (sem_not false rfl ?_)
     refine Run.go rfl rfl rfl (sem_pick false ((Value.bool true)) rfl rfl ?_)
     refine Run.go rfl rfl rfl (sem_move ((Value.bool true)) rfl ?_)
     refine Run.no rfl rfl rfl ?_
     refine Run.no rfl rfl rfl ?_
     refine Run.go rfl rfl rfl (sem_pick true ((Value.bool true)) rfl rfl ?_)
     refine Run.region_end ?_
     refine Run.condT rfl ?_
     refine Run.seq ?_
     refine Run.ops0 (idx := [0]) rfl ?_
     refine Run.go rfl rfl rfl (sem_assign ((Value.bool true)) rfl ?_)
     refine Run.region_end ?_
     refine Run.ret ⟨.inr rfl, ?_⟩
     exact hS.imp fun h' hq => ⟨(true), rfl, hq⟩
    ·have hS := hT rfl; clear hT hF
     refine Run.go rfl rfl rfl (sem_extract #[(Value.pointer p129), (Value.slice a130 n131 c132), (Value.bool true)] (.bool true) rfl rfl ?_)
     refine Run.go rfl rfl rfl (sem_assign ((Value.pointer p129)) rfl ?_)
     refine Run.go rfl rfl rfl (sem_assign ((Value.slice a130 n131 c132)) rfl ?_)
     refine Run.go rfl rfl rfl (sem_assign ((Value.bool true)) rfl ?_)
     refine Run.region_end ?_
     refine Run.seqJ (fun e h155 => Agree [(7, (Value.pointer p15)), (8, (Value.pointer (some ⟨k119, 0, none⟩))), (10, (Value.pointer p123)), (11, (Value.slice a124 n125 c126)), (13, (Value.pointer p129)), (14, (Value.slice a130 n131 c132))] e ∧ S_countermandlaw18_RedoLast_J6 B p15 k119 p123 a124 n125 c126 p129 a130 n131 c132 h155 Q) ?_ fun j154 => ?_
     ·rintro e h155 ⟨hag, hS⟩
      refine Run.env hag ?_; clear hag
      refine Run.seq ?_
      refine Run.ops0 (idx := [0, 1, 2, 3, 4, 5, 6, 7, 8, 9, 10, 11]) rfl ?_
      refine Run.go rfl rfl rfl (sem_move ((Value.pointer p15)) rfl ?_)
      refine Run.go rfl rfl rfl (sem_move ((Value.pointer p123)) rfl ?_)
      refine Run.go rfl rfl rfl (sem_callL [(Value.int .i64 (3)), (Value.pointer p123)] (TF.goes_66) rfl rfl (Spec.mono hS fun v h156 hv => ?_))
      obtain ⟨s157, rfl, hS⟩ := hv
      refine Run.go rfl rfl rfl (sem_move ((Value.pointer p129)) rfl ?_)
      refine Run.go rfl rfl rfl (sem_callL [(Value.int .i64 (2)), (Value.pointer p129)] (TF.goes_66) rfl rfl (Spec.mono hS fun v h158 hv => ?_))
      obtain ⟨s159, rfl, hS⟩ := hv
      refine Run.go rfl rfl rfl (sem_buildSliceL [(0, (Value.string s157)), (1, (Value.string s159))] [(Value.string s157), (Value.string s159)] TF.slc_55 TF.zero_9 rfl (by decide) (by decide) rfl rfl (fun k160 hb1 hb2 h161 hb3 => ?_))
      have hS := hS k160 hb1 hb2 h161 hb3
      refine Run.go rfl rfl rfl (sem_callL [(Value.pointer p15), (Value.slice (some ⟨k160, 0, none⟩) 2 2)] (TF.goes_72) rfl rfl (Spec.mono hS fun v h162 hv => ?_))
      obtain ⟨i163, i164, rfl, hS⟩ := hv
      refine Run.go rfl rfl rfl (sem_move ((Value.tuple #[(Value.int .i64 (i163)), (Value.int .i64 (i164))])) rfl ?_)
      refine Run.go rfl rfl rfl (sem_extract #[(Value.int .i64 (i163)), (Value.int .i64 (i164))] ((Value.int .i64 (i163))) rfl rfl ?_)
      refine Run.go rfl rfl rfl (sem_extract #[(Value.int .i64 (i163)), (Value.int .i64 (i164))] ((Value.int .i64 (i164))) rfl rfl ?_)
      refine Run.go rfl rfl rfl (sem_assign ((Value.int .i64 (i163))) rfl ?_)
      refine Run.go rfl rfl rfl (sem_assign ((Value.int .i64 (i164))) rfl ?_)
      refine Run.region_end ?_
      refine Run.seq ?_
      refine Run.ops0 (idx := [0, 1, 2, 3, 4, 5, 6, 7, 8, 9, 10, 11, 12, 13, 14, 15]) rfl ?_
      refine Run.go rfl rfl rfl (sem_move ((Value.int .i64 (i163))) rfl ?_)
      obtain ⟨hT, hF⟩ := hS
      by_cases hb165 : (i163 : Int) = 3
      ·have hS := hT hb165; clear hT hF
       refine Run.go rfl rfl rfl (sem_binI .i64 (i163) (3) (.bool true) rfl rfl (binI_eql_t hb165) ?_)
       refine Run.go rfl rfl rfl (sem_move ((Value.bool true)) rfl ?_)
       refine Run.go rfl rfl rfl (sem_move ((Value.int .i64 (i164))) rfl ?_)
       obtain ⟨hT, hF⟩ := hS
       by_cases hb166 : (i164 : Int) = 2
       ·have hS := hT hb166; clear hT hF
        refine Run.go rfl rfl rfl (sem_binI .i64 (i164) (2) (.bool true) rfl rfl (binI_eql_t hb166) ?_)
        refine Run.go rfl rfl rfl (sem_pick true ((Value.bool true)) rfl rfl ?_)
        refine Run.go rfl rfl rfl (sem_move ((Value.bool true)) rfl ?_)
        refine Run.go rfl rfl rfl (sem_move ((Value.pointer p15)) rfl ?_)
        obtain ⟨l167, hln, hl, hS⟩ := hS
        refine Run.go rfl rfl rfl (sem_loadN ⟨k119, 0, none⟩ l167 rfl TF.agg_115 (TF.sz_115.trans (congrArg some hln.symm)) hl ?_)
        refine Run.go rfl rfl rfl (sem_move ((Value.slice a124 n125 c126)) rfl ?_)
        refine Run.go rfl rfl rfl (sem_callL [(Value.agg (List.toArray l167)), (Value.slice a124 n125 c126)] (TF.goes_69) rfl rfl (Spec.mono hS fun v h168 hv => ?_))
        obtain ⟨l169, rfl, hS⟩ := hv
        refine Run.go rfl rfl rfl (sem_move ((Value.slice a130 n131 c132)) rfl ?_)
        refine Run.go rfl rfl rfl (sem_callL [(Value.agg (List.toArray l169)), (Value.slice a130 n131 c132)] (TF.goes_69) rfl rfl (Spec.mono hS fun v h170 hv => ?_))
        obtain ⟨l171, rfl, hS⟩ := hv
        refine Run.go rfl rfl rfl (sem_callL [(Value.pointer p15), (Value.agg (List.toArray l171))] (TF.goes_70) rfl rfl (Spec.mono hS fun v h172 hv => ?_))
        obtain ⟨b173, rfl, hS⟩ := hv
        refine Run.go rfl rfl rfl (sem_pick true ((Value.bool b173)) rfl rfl ?_)
        refine Run.go rfl rfl rfl (sem_assign ((Value.bool b173)) rfl ?_)
        refine Run.region_end ?_
        refine Run.ret ⟨.inr rfl, ?_⟩
        exact hS.imp fun h' hq => ⟨(b173), rfl, hq⟩
       ·have hS := hF hb166; clear hT hF
        refine Run.go rfl rfl rfl (sem_binI .i64 (i164) (2) (.bool false) rfl rfl (binI_eql_f hb166) ?_)
        refine Run.go rfl rfl rfl (sem_pick true ((Value.bool false)) rfl rfl ?_)
        refine Run.go rfl rfl rfl (sem_move ((Value.bool false)) rfl ?_)
        refine Run.no rfl rfl rfl ?_
        refine Run.no rfl rfl rfl ?_
        refine Run.no rfl rfl rfl ?_
        refine Run.no rfl rfl rfl ?_
        refine Run.no rfl rfl rfl ?_
        refine Run.no rfl rfl rfl ?_
        refine Run.no rfl rfl rfl ?_
        refine Run.go rfl rfl rfl (sem_pick false ((Value.bool false)) rfl rfl ?_)
        refine Run.go rfl rfl rfl (sem_assign ((Value.bool false)) rfl ?_)
        refine Run.region_end ?_
        refine Run.ret ⟨.inr rfl, ?_⟩
        exact hS.imp fun h' hq => ⟨(false), rfl, hq⟩
      ·have hS := hF hb165; clear hT hF
       refine Run.go rfl rfl rfl (sem_binI .i64 (i163) (3) (.bool false) rfl rfl (binI_eql_f hb165) ?_)
       refine Run.go rfl rfl rfl (sem_move ((Value.bool false)) rfl ?_)
       refine Run.no rfl rfl rfl ?_
       refine Run.no rfl rfl rfl ?_
       refine Run.go rfl rfl rfl (sem_pick false ((Value.bool false)) rfl rfl ?_)
       refine Run.go rfl rfl rfl (sem_move ((Value.bool false)) rfl ?_)
       refine Run.no rfl rfl rfl ?_
       refine Run.no rfl rfl rfl ?_
       refine Run.no rfl rfl rfl ?_
       refine Run.no rfl rfl rfl ?_
       refine Run.no rfl rfl rfl ?_
       refine Run.no rfl rfl rfl ?_
       refine Run.no rfl rfl rfl ?_
       refine Run.go rfl rfl rfl (sem_pick false ((Value.bool false)) rfl rfl ?_)
       refine Run.go rfl rfl rfl (sem_assign ((Value.bool false)) rfl ?_)
       refine Run.region_end ?_
       refine Run.ret ⟨.inr rfl, ?_⟩
       exact hS.imp fun h' hq => ⟨(false), rfl, hq⟩
     refine Run.seq ?_
     refine Run.ops0 (idx := [0, 1, 2, 3, 4, 5, 6, 7, 8, 9]) rfl ?_
     refine Run.go rfl rfl rfl (sem_move ((Value.bool true)) rfl ?_)
     refine Run.go rfl rfl rfl (sem_not true rfl ?_)
     refine Run.go rfl rfl rfl (sem_move ((Value.bool false)) rfl ?_)
     refine Run.go rfl rfl rfl (sem_move ((Value.bool false)) rfl ?_)
     refine Run.go rfl rfl rfl (sem_not false rfl ?_)
     refine Run.go rfl rfl rfl (sem_pick false ((Value.bool true)) rfl rfl ?_)
     refine Run.go rfl rfl rfl (sem_move ((Value.bool true)) rfl ?_)
     refine Run.no rfl rfl rfl ?_
     refine Run.no rfl rfl rfl ?_
     refine Run.go rfl rfl rfl (sem_pick true ((Value.bool true)) rfl rfl ?_)
     refine Run.region_end ?_
     refine Run.condT rfl ?_
     refine Run.seq ?_
     refine Run.ops0 (idx := [0]) rfl ?_
     refine Run.go rfl rfl rfl (sem_assign ((Value.bool true)) rfl ?_)
     refine Run.region_end ?_
     refine Run.ret ⟨.inr rfl, ?_⟩
     exact hS.imp fun h' hq => ⟨(true), rfl, hq⟩
   ·have hS := hT rfl; clear hT hF
    refine Run.go rfl rfl rfl (sem_extract #[(Value.pointer p123), (Value.slice a124 n125 c126), (Value.bool true)] (.bool true) rfl rfl ?_)
    refine Run.go rfl rfl rfl (sem_assign ((Value.pointer p123)) rfl ?_)
    refine Run.go rfl rfl rfl (sem_assign ((Value.slice a124 n125 c126)) rfl ?_)
    refine Run.go rfl rfl rfl (sem_assign ((Value.bool true)) rfl ?_)
    refine Run.region_end ?_
    refine Run.seq ?_
    refine Run.ops0 (idx := [0, 1, 2, 3, 4, 5, 6, 7, 8]) rfl ?_
    refine Run.go rfl rfl rfl (sem_move ((Value.slice a5 n6 c7)) rfl ?_)
    refine Run.go rfl rfl rfl (sem_callL [(Value.slice a5 n6 c7)] (TF.goes_65) rfl rfl (Spec.mono hS fun v h174 hv => ?_))
    obtain ⟨p175, a176, n177, c178, b179, rfl, hS⟩ := hv
    refine Run.go rfl rfl rfl (sem_move ((Value.tuple #[(Value.pointer p175), (Value.slice a176 n177 c178), (Value.bool b179)])) rfl ?_)
    refine Run.go rfl rfl rfl (sem_extract #[(Value.pointer p175), (Value.slice a176 n177 c178), (Value.bool b179)] ((Value.pointer p175)) rfl rfl ?_)
    refine Run.go rfl rfl rfl (sem_extract #[(Value.pointer p175), (Value.slice a176 n177 c178), (Value.bool b179)] ((Value.slice a176 n177 c178)) rfl rfl ?_)
    obtain ⟨hT, hF⟩ := hS
    cases b179
    ·have hS := hF rfl; clear hT hF
     refine Run.go rfl rfl rfl (sem_extract #[(Value.pointer p175), (Value.slice a176 n177 c178), (Value.bool false)] (.bool false) rfl rfl ?_)
     refine Run.go rfl rfl rfl (sem_assign ((Value.pointer p175)) rfl ?_)
     refine Run.go rfl rfl rfl (sem_assign ((Value.slice a176 n177 c178)) rfl ?_)
     refine Run.go rfl rfl rfl (sem_assign ((Value.bool false)) rfl ?_)
     refine Run.region_end ?_
     refine Run.seqJ (fun e h181 => Agree [(7, (Value.pointer p15)), (8, (Value.pointer (some ⟨k119, 0, none⟩))), (10, (Value.pointer p123)), (11, (Value.slice a124 n125 c126)), (13, (Value.pointer p175)), (14, (Value.slice a176 n177 c178))] e ∧ S_countermandlaw18_RedoLast_J7 B p15 k119 p123 a124 n125 c126 p175 a176 n177 c178 h181 Q) ?_ fun j180 => ?_
     ·rintro e h181 ⟨hag, hS⟩
      refine Run.env hag ?_; clear hag
      refine Run.seq ?_
      refine Run.ops0 (idx := [0, 1, 2, 3, 4, 5, 6, 7, 8, 9, 10, 11]) rfl ?_
      refine Run.go rfl rfl rfl (sem_move ((Value.pointer p15)) rfl ?_)
      refine Run.go rfl rfl rfl (sem_move ((Value.pointer p123)) rfl ?_)
      refine Run.go rfl rfl rfl (sem_callL [(Value.int .i64 (3)), (Value.pointer p123)] (TF.goes_66) rfl rfl (Spec.mono hS fun v h182 hv => ?_))
      obtain ⟨s183, rfl, hS⟩ := hv
      refine Run.go rfl rfl rfl (sem_move ((Value.pointer p175)) rfl ?_)
      refine Run.go rfl rfl rfl (sem_callL [(Value.int .i64 (2)), (Value.pointer p175)] (TF.goes_66) rfl rfl (Spec.mono hS fun v h184 hv => ?_))
      obtain ⟨s185, rfl, hS⟩ := hv
      refine Run.go rfl rfl rfl (sem_buildSliceL [(0, (Value.string s183)), (1, (Value.string s185))] [(Value.string s183), (Value.string s185)] TF.slc_55 TF.zero_9 rfl (by decide) (by decide) rfl rfl (fun k186 hb1 hb2 h187 hb3 => ?_))
      have hS := hS k186 hb1 hb2 h187 hb3
      refine Run.go rfl rfl rfl (sem_callL [(Value.pointer p15), (Value.slice (some ⟨k186, 0, none⟩) 2 2)] (TF.goes_72) rfl rfl (Spec.mono hS fun v h188 hv => ?_))
      obtain ⟨i189, i190, rfl, hS⟩ := hv
      refine Run.go rfl rfl rfl (sem_move ((Value.tuple #[(Value.int .i64 (i189)), (Value.int .i64 (i190))])) rfl ?_)
      refine Run.go rfl rfl rfl (sem_extract #[(Value.int .i64 (i189)), (Value.int .i64 (i190))] ((Value.int .i64 (i189))) rfl rfl ?_)
      refine Run.go rfl rfl rfl (sem_extract #[(Value.int .i64 (i189)), (Value.int .i64 (i190))] ((Value.int .i64 (i190))) rfl rfl ?_)
      refine Run.go rfl rfl rfl (sem_assign ((Value.int .i64 (i189))) rfl ?_)
      refine Run.go rfl rfl rfl (sem_assign ((Value.int .i64 (i190))) rfl ?_)
      refine Run.region_end ?_
      refine Run.seq ?_
      refine Run.ops0 (idx := [0, 1, 2, 3, 4, 5, 6, 7, 8, 9, 10, 11, 12, 13, 14, 15]) rfl ?_
      refine Run.go rfl rfl rfl (sem_move ((Value.int .i64 (i189))) rfl ?_)
      obtain ⟨hT, hF⟩ := hS
      by_cases hb191 : (i189 : Int) = 3
      ·have hS := hT hb191; clear hT hF
       refine Run.go rfl rfl rfl (sem_binI .i64 (i189) (3) (.bool true) rfl rfl (binI_eql_t hb191) ?_)
       refine Run.go rfl rfl rfl (sem_move ((Value.bool true)) rfl ?_)
       refine Run.go rfl rfl rfl (sem_move ((Value.int .i64 (i190))) rfl ?_)
       obtain ⟨hT, hF⟩ := hS
       by_cases hb192 : (i190 : Int) = 2
       ·have hS := hT hb192; clear hT hF
        refine Run.go rfl rfl rfl (sem_binI .i64 (i190) (2) (.bool true) rfl rfl (binI_eql_t hb192) ?_)
        refine Run.go rfl rfl rfl (sem_pick true ((Value.bool true)) rfl rfl ?_)
        refine Run.go rfl rfl rfl (sem_move ((Value.bool true)) rfl ?_)
        refine Run.go rfl rfl rfl (sem_move ((Value.pointer p15)) rfl ?_)
        obtain ⟨l193, hln, hl, hS⟩ := hS
        refine Run.go rfl rfl rfl (sem_loadN ⟨k119, 0, none⟩ l193 rfl TF.agg_115 (TF.sz_115.trans (congrArg some hln.symm)) hl ?_)
        refine Run.go rfl rfl rfl (sem_move ((Value.slice a124 n125 c126)) rfl ?_)
        refine Run.go rfl rfl rfl (sem_callL [(Value.agg (List.toArray l193)), (Value.slice a124 n125 c126)] (TF.goes_69) rfl rfl (Spec.mono hS fun v h194 hv => ?_))
        obtain ⟨l195, rfl, hS⟩ := hv
        refine Run.go rfl rfl rfl (sem_move ((Value.slice a176 n177 c178)) rfl ?_)
        refine Run.go rfl rfl rfl (sem_callL [(Value.agg (List.toArray l195)), (Value.slice a176 n177 c178)] (TF.goes_69) rfl rfl (Spec.mono hS fun v h196 hv => ?_))
        obtain ⟨l197, rfl, hS⟩ := hv
        refine Run.go rfl rfl rfl (sem_callL [(Value.pointer p15), (Value.agg (List.toArray l197))] (TF.goes_70) rfl rfl (Spec.mono hS fun v h198 hv => ?_))
        obtain ⟨b199, rfl, hS⟩ := hv
        refine Run.go rfl rfl rfl (sem_pick true ((Value.bool b199)) rfl rfl ?_)
        refine Run.go rfl rfl rfl (sem_assign ((Value.bool b199)) rfl ?_)
        refine Run.region_end ?_
        refine Run.ret ⟨.inr rfl, ?_⟩
        exact hS.imp fun h' hq => ⟨(b199), rfl, hq⟩
       ·have hS := hF hb192; clear hT hF
        refine Run.go rfl rfl rfl (sem_binI .i64 (i190) (2) (.bool false) rfl rfl (binI_eql_f hb192) ?_)
        refine Run.go rfl rfl rfl (sem_pick true ((Value.bool false)) rfl rfl ?_)
        refine Run.go rfl rfl rfl (sem_move ((Value.bool false)) rfl ?_)
        refine Run.no rfl rfl rfl ?_
        refine Run.no rfl rfl rfl ?_
        refine Run.no rfl rfl rfl ?_
        refine Run.no rfl rfl rfl ?_
        refine Run.no rfl rfl rfl ?_
        refine Run.no rfl rfl rfl ?_
        refine Run.no rfl rfl rfl ?_
        refine Run.go rfl rfl rfl (sem_pick false ((Value.bool false)) rfl rfl ?_)
        refine Run.go rfl rfl rfl (sem_assign ((Value.bool false)) rfl ?_)
        refine Run.region_end ?_
        refine Run.ret ⟨.inr rfl, ?_⟩
        exact hS.imp fun h' hq => ⟨(false), rfl, hq⟩
      ·have hS := hF hb191; clear hT hF
       refine Run.go rfl rfl rfl (sem_binI .i64 (i189) (3) (.bool false) rfl rfl (binI_eql_f hb191) ?_)
       refine Run.go rfl rfl rfl (sem_move ((Value.bool false)) rfl ?_)
       refine Run.no rfl rfl rfl ?_
       refine Run.no rfl rfl rfl ?_
       refine Run.go rfl rfl rfl (sem_pick false ((Value.bool false)) rfl rfl ?_)
       refine Run.go rfl rfl rfl (sem_move ((Value.bool false)) rfl ?_)
       refine Run.no rfl rfl rfl ?_
       refine Run.no rfl rfl rfl ?_
       refine Run.no rfl rfl rfl ?_
       refine Run.no rfl rfl rfl ?_
       refine Run.no rfl rfl rfl ?_
       refine Run.no rfl rfl rfl ?_
       refine Run.no rfl rfl rfl ?_
       refine Run.go rfl rfl rfl (sem_pick false ((Value.bool false)) rfl rfl ?_)
       refine Run.go rfl rfl rfl (sem_assign ((Value.bool false)) rfl ?_)
       refine Run.region_end ?_
       refine Run.ret ⟨.inr rfl, ?_⟩
       exact hS.imp fun h' hq => ⟨(false), rfl, hq⟩
     refine Run.seq ?_
     refine Run.ops0 (idx := [0, 1, 2, 3, 4, 5, 6, 7, 8, 9]) rfl ?_
     refine Run.go rfl rfl rfl (sem_move ((Value.bool true)) rfl ?_)
     refine Run.go rfl rfl rfl (sem_not true rfl ?_)
     refine Run.go rfl rfl rfl (sem_move ((Value.bool false)) rfl ?_)
     refine Run.go rfl rfl rfl (sem_move ((Value.bool true)) rfl ?_)
     refine Run.go rfl rfl rfl (sem_not true rfl ?_)
     refine Run.go rfl rfl rfl (sem_pick false ((Value.bool false)) rfl rfl ?_)
     refine Run.go rfl rfl rfl (sem_move ((Value.bool false)) rfl ?_)
     refine Run.go rfl rfl rfl (sem_move ((Value.bool false)) rfl ?_)
     refine Run.go rfl rfl rfl (sem_not false rfl ?_)
     refine Run.go rfl rfl rfl (sem_pick false ((Value.bool true)) rfl rfl ?_)
     refine Run.region_end ?_
     refine Run.condT rfl ?_
     refine Run.seq ?_
     refine Run.ops0 (idx := [0]) rfl ?_
     refine Run.go rfl rfl rfl (sem_assign ((Value.bool true)) rfl ?_)
     refine Run.region_end ?_
     refine Run.ret ⟨.inr rfl, ?_⟩
     exact hS.imp fun h' hq => ⟨(true), rfl, hq⟩
    ·have hS := hT rfl; clear hT hF
     refine Run.go rfl rfl rfl (sem_extract #[(Value.pointer p175), (Value.slice a176 n177 c178), (Value.bool true)] (.bool true) rfl rfl ?_)
     refine Run.go rfl rfl rfl (sem_assign ((Value.pointer p175)) rfl ?_)
     refine Run.go rfl rfl rfl (sem_assign ((Value.slice a176 n177 c178)) rfl ?_)
     refine Run.go rfl rfl rfl (sem_assign ((Value.bool true)) rfl ?_)
     refine Run.region_end ?_
     refine Run.seqJ (fun e h201 => Agree [(7, (Value.pointer p15)), (8, (Value.pointer (some ⟨k119, 0, none⟩))), (10, (Value.pointer p123)), (11, (Value.slice a124 n125 c126)), (13, (Value.pointer p175)), (14, (Value.slice a176 n177 c178))] e ∧ S_countermandlaw18_RedoLast_J8 B p15 k119 p123 a124 n125 c126 p175 a176 n177 c178 h201 Q) ?_ fun j200 => ?_
     ·rintro e h201 ⟨hag, hS⟩
      refine Run.env hag ?_; clear hag
      refine Run.seq ?_
      refine Run.ops0 (idx := [0, 1, 2, 3, 4, 5, 6, 7, 8, 9, 10, 11]) rfl ?_
      refine Run.go rfl rfl rfl (sem_move ((Value.pointer p15)) rfl ?_)
      refine Run.go rfl rfl rfl (sem_move ((Value.pointer p123)) rfl ?_)
      refine Run.go rfl rfl rfl (sem_callL [(Value.int .i64 (3)), (Value.pointer p123)] (TF.goes_66) rfl rfl (Spec.mono hS fun v h202 hv => ?_))
      obtain ⟨s203, rfl, hS⟩ := hv
      refine Run.go rfl rfl rfl (sem_move ((Value.pointer p175)) rfl ?_)
      refine Run.go rfl rfl rfl (sem_callL [(Value.int .i64 (2)), (Value.pointer p175)] (TF.goes_66) rfl rfl (Spec.mono hS fun v h204 hv => ?_))
      obtain ⟨s205, rfl, hS⟩ := hv
      refine Run.go rfl rfl rfl (sem_buildSliceL [(0, (Value.string s203)), (1, (Value.string s205))] [(Value.string s203), (Value.string s205)] TF.slc_55 TF.zero_9 rfl (by decide) (by decide) rfl rfl (fun k206 hb1 hb2 h207 hb3 => ?_))
      have hS := hS k206 hb1 hb2 h207 hb3
      refine Run.go rfl rfl rfl (sem_callL [(Value.pointer p15), (Value.slice (some ⟨k206, 0, none⟩) 2 2)] (TF.goes_72) rfl rfl (Spec.mono hS fun v h208 hv => ?_))
      obtain ⟨i209, i210, rfl, hS⟩ := hv
      refine Run.go rfl rfl rfl (sem_move ((Value.tuple #[(Value.int .i64 (i209)), (Value.int .i64 (i210))])) rfl ?_)
      refine Run.go rfl rfl rfl (sem_extract #[(Value.int .i64 (i209)), (Value.int .i64 (i210))] ((Value.int .i64 (i209))) rfl rfl ?_)
      refine Run.go rfl rfl rfl (sem_extract #[(Value.int .i64 (i209)), (Value.int .i64 (i210))] ((Value.int .i64 (i210))) rfl rfl ?_)
      refine Run.go rfl rfl rfl (sem_assign ((Value.int .i64 (i209))) rfl ?_)
      refine Run.go rfl rfl rfl (sem_assign ((Value.int .i64 (i210))) rfl ?_)
      refine Run.region_end ?_
      refine Run.seq ?_
      refine Run.ops0 (idx := [0, 1, 2, 3, 4, 5, 6, 7, 8, 9, 10, 11, 12, 13, 14, 15]) rfl ?_
      refine Run.go rfl rfl rfl (sem_move ((Value.int .i64 (i209))) rfl ?_)
      obtain ⟨hT, hF⟩ := hS
      by_cases hb211 : (i209 : Int) = 3
      ·have hS := hT hb211; clear hT hF
       refine Run.go rfl rfl rfl (sem_binI .i64 (i209) (3) (.bool true) rfl rfl (binI_eql_t hb211) ?_)
       refine Run.go rfl rfl rfl (sem_move ((Value.bool true)) rfl ?_)
       refine Run.go rfl rfl rfl (sem_move ((Value.int .i64 (i210))) rfl ?_)
       obtain ⟨hT, hF⟩ := hS
       by_cases hb212 : (i210 : Int) = 2
       ·have hS := hT hb212; clear hT hF
        refine Run.go rfl rfl rfl (sem_binI .i64 (i210) (2) (.bool true) rfl rfl (binI_eql_t hb212) ?_)
        refine Run.go rfl rfl rfl (sem_pick true ((Value.bool true)) rfl rfl ?_)
        refine Run.go rfl rfl rfl (sem_move ((Value.bool true)) rfl ?_)
        refine Run.go rfl rfl rfl (sem_move ((Value.pointer p15)) rfl ?_)
        obtain ⟨l213, hln, hl, hS⟩ := hS
        refine Run.go rfl rfl rfl (sem_loadN ⟨k119, 0, none⟩ l213 rfl TF.agg_115 (TF.sz_115.trans (congrArg some hln.symm)) hl ?_)
        refine Run.go rfl rfl rfl (sem_move ((Value.slice a124 n125 c126)) rfl ?_)
        refine Run.go rfl rfl rfl (sem_callL [(Value.agg (List.toArray l213)), (Value.slice a124 n125 c126)] (TF.goes_69) rfl rfl (Spec.mono hS fun v h214 hv => ?_))
        obtain ⟨l215, rfl, hS⟩ := hv
        refine Run.go rfl rfl rfl (sem_move ((Value.slice a176 n177 c178)) rfl ?_)
        refine Run.go rfl rfl rfl (sem_callL [(Value.agg (List.toArray l215)), (Value.slice a176 n177 c178)] (TF.goes_69) rfl rfl (Spec.mono hS fun v h216 hv => ?_))
        obtain ⟨l217, rfl, hS⟩ := hv
        refine Run.go rfl rfl rfl (sem_callL [(Value.pointer p15), (Value.agg (List.toArray l217))] (TF.goes_70) rfl rfl (Spec.mono hS fun v h218 hv => ?_))
        obtain ⟨b219, rfl, hS⟩ := hv
        refine Run.go rfl rfl rfl (sem_pick true ((Value.bool b219)) rfl rfl ?_)
        refine Run.go rfl rfl rfl (sem_assign ((Value.bool b219)) rfl ?_)
        refine Run.region_end ?_
        refine Run.ret ⟨.inr rfl, ?_⟩
        exact hS.imp fun h' hq => ⟨(b219), rfl, hq⟩
       ·have hS := hF hb212; clear hT hF
        refine Run.go rfl rfl rfl (sem_binI .i64 (i210) (2) (.bool false) rfl rfl (binI_eql_f hb212) ?_)
        refine Run.go rfl rfl rfl (sem_pick true ((Value.bool false)) rfl rfl ?_)
        refine Run.go rfl rfl rfl (sem_move ((Value.bool false)) rfl ?_)
        refine Run.no rfl rfl rfl ?_
        refine Run.no rfl rfl rfl ?_
        refine Run.no rfl rfl rfl ?_
        refine Run.no rfl rfl rfl ?_
        refine Run.no rfl rfl rfl ?_
        refine Run.no rfl rfl rfl ?_
        refine Run.no rfl rfl rfl ?_
        refine Run.go rfl rfl rfl (sem_pick false ((Value.bool false)) rfl rfl ?_)
        refine Run.go rfl rfl rfl (sem_assign ((Value.bool false)) rfl ?_)
        refine Run.region_end ?_
        refine Run.ret ⟨.inr rfl, ?_⟩
        exact hS.imp fun h' hq => ⟨(false), rfl, hq⟩
      ·have hS := hF hb211; clear hT hF
       refine Run.go rfl rfl rfl (sem_binI .i64 (i209) (3) (.bool false) rfl rfl (binI_eql_f hb211) ?_)
       refine Run.go rfl rfl rfl (sem_move ((Value.bool false)) rfl ?_)
       refine Run.no rfl rfl rfl ?_
       refine Run.no rfl rfl rfl ?_
       refine Run.go rfl rfl rfl (sem_pick false ((Value.bool false)) rfl rfl ?_)
       refine Run.go rfl rfl rfl (sem_move ((Value.bool false)) rfl ?_)
       refine Run.no rfl rfl rfl ?_
       refine Run.no rfl rfl rfl ?_
       refine Run.no rfl rfl rfl ?_
       refine Run.no rfl rfl rfl ?_
       refine Run.no rfl rfl rfl ?_
       refine Run.no rfl rfl rfl ?_
       refine Run.no rfl rfl rfl ?_
       refine Run.go rfl rfl rfl (sem_pick false ((Value.bool false)) rfl rfl ?_)
       refine Run.go rfl rfl rfl (sem_assign ((Value.bool false)) rfl ?_)
       refine Run.region_end ?_
       refine Run.ret ⟨.inr rfl, ?_⟩
       exact hS.imp fun h' hq => ⟨(false), rfl, hq⟩
     refine Run.seq ?_
     refine Run.ops0 (idx := [0, 1, 2, 3, 4, 5, 6, 7, 8, 9]) rfl ?_
     refine Run.go rfl rfl rfl (sem_move ((Value.bool true)) rfl ?_)
     refine Run.go rfl rfl rfl (sem_not true rfl ?_)
     refine Run.go rfl rfl rfl (sem_move ((Value.bool false)) rfl ?_)
     refine Run.go rfl rfl rfl (sem_move ((Value.bool true)) rfl ?_)
     refine Run.go rfl rfl rfl (sem_not true rfl ?_)
     refine Run.go rfl rfl rfl (sem_pick false ((Value.bool false)) rfl rfl ?_)
     refine Run.go rfl rfl rfl (sem_move ((Value.bool false)) rfl ?_)
     refine Run.go rfl rfl rfl (sem_move ((Value.bool true)) rfl ?_)
     refine Run.go rfl rfl rfl (sem_not true rfl ?_)
     refine Run.go rfl rfl rfl (sem_pick false ((Value.bool false)) rfl rfl ?_)
     refine Run.region_end ?_
     refine Run.condF rfl ?_
     refine Run.skip ?_
     exact Run.of_fin (hS.imp fun h' hS => j200 _ _ ⟨⟨rfl, rfl, rfl, rfl, rfl, rfl, trivial⟩, hS⟩)
set_option maxHeartbeats 4000000 in
theorem C_countermandlaw18_alive.of {B : RO} {h : Heap} {Q : Bool → Heap → Prop} (hS : S_countermandlaw18_alive B h Q) : C_countermandlaw18_alive B h Q := by
 unfold S_countermandlaw18_alive at hS
 unfold C_countermandlaw18_alive
 refine Spec.of_run Try.func60 (N := 10) (rs := [ResultVar.tmp 0]) rfl rfl rfl (Nat.le_of_ble_eq_true rfl) ?_
 refine Run.seq ?_
 refine Run.ops0 (idx := [0]) rfl ?_
 refine Run.go rfl rfl rfl (sem_assign ((Value.bool false)) rfl ?_)
 refine Run.region_end ?_
 refine Run.seq ?_
 refine Run.ops0 (idx := [0, 1, 2]) rfl ?_
 refine Run.go rfl rfl rfl (sem_buildSL [] [(Value.slice none 0 0)] TF.zero_193 TF.places_193 rfl rfl ?_)
 refine Run.go rfl rfl rfl (sem_boxNN [(Value.slice none 0 0)] rfl (fun k2 hb1 hb2 h3 hb3 => ?_))
 have hS := hS k2 hb1 hb2 h3 hb3
 refine Run.go rfl rfl rfl (sem_assign ((Value.pointer (some ⟨k2, 0, none⟩))) rfl ?_)
 refine Run.region_end ?_
 refine Run.seq ?_
 refine Run.ops0 (idx := [0, 1, 2]) rfl ?_
 refine Run.go rfl rfl rfl (sem_move ((Value.pointer (some ⟨k2, 0, none⟩))) rfl ?_)
 refine Run.go rfl rfl rfl (sem_buildSL [(0, (Value.bool true)), (1, (Value.string (ByteArray.mk #[97, 98])))] [(Value.bool true), (Value.string (ByteArray.mk #[97, 98]))] TF.zero_111 TF.places_111 rfl rfl ?_)
 refine Run.go rfl rfl rfl (sem_callL [(Value.pointer (some ⟨k2, 0, none⟩)), (Value.int .i64 (2)), (Value.agg #[(Value.bool true), (Value.string (ByteArray.mk #[97, 98]))])] (TF.goes_103) rfl rfl (Spec.mono hS fun v h4 hv => ?_))
 obtain ⟨b5, rfl, hS⟩ := hv
 refine Run.region_end ?_
 refine Run.seq ?_
 refine Run.ops0 (idx := [0, 1, 2, 3]) rfl ?_
 refine Run.go rfl rfl rfl (sem_move ((Value.pointer (some ⟨k2, 0, none⟩))) rfl ?_)
 refine Run.go rfl rfl rfl (sem_callL [(Value.int .i64 (1)), (Value.pointer (some ⟨k2, 0, none⟩))] (TF.goes_66) rfl rfl (Spec.mono hS fun v h6 hv => ?_))
 obtain ⟨s7, rfl, hS⟩ := hv
 refine Run.go rfl rfl rfl (sem_strEq s7 (ByteArray.mk #[1, 2, 1, 2, 97, 98]) rfl rfl ?_)
 refine Run.go rfl rfl rfl (sem_assign ((Value.bool (decide (s7 = (ByteArray.mk #[1, 2, 1, 2, 97, 98]))))) rfl ?_)
 refine Run.region_end ?_
 refine Run.ret ⟨.inr rfl, ?_⟩
 exact hS.imp fun h' hq => ⟨((decide (s7 = (ByteArray.mk #[1, 2, 1, 2, 97, 98])))), rfl, hq⟩
set_option maxHeartbeats 4000000 in
theorem C_redo_Read.of {B : RO} {s1 : ByteArray} {h : Heap} {Q : Int → Option Addr → Nat → Nat → Bool → Heap → Prop} (hS : S_redo_Read B s1 h Q) : C_redo_Read B s1 h Q := by
 unfold S_redo_Read at hS
 unfold C_redo_Read
 refine Spec.of_run Try.func61 (N := 45) (rs := [ResultVar.tmp 2, ResultVar.tmp 3, ResultVar.tmp 4]) rfl rfl rfl (Nat.le_of_ble_eq_true rfl) ?_
 refine Run.seq ?_
 refine Run.ops0 (idx := [0, 1, 2]) rfl ?_
 refine Run.go rfl rfl rfl (sem_assign ((Value.int .i64 (0))) rfl ?_)
 refine Run.go rfl rfl rfl (sem_assign ((Value.slice none 0 0)) rfl ?_)
 refine Run.go rfl rfl rfl (sem_assign ((Value.bool false)) rfl ?_)
 refine Run.region_end ?_
 refine Run.seq ?_
 refine Run.ops0 (idx := [0, 1, 2]) rfl ?_
 refine Run.go rfl rfl rfl (sem_move ((Value.string s1)) rfl ?_)
 refine Run.go rfl rfl rfl (sem_callL [(Value.string s1)] (TF.goes_104) rfl rfl (Spec.mono hS fun v h7 hv => ?_))
 obtain ⟨p8, rfl, hS⟩ := hv
 refine Run.go rfl rfl rfl (sem_assign ((Value.pointer p8)) rfl ?_)
 refine Run.region_end ?_
 refine Run.seq ?_
 refine Run.ops0 (idx := [0, 1, 2]) rfl ?_
 refine Run.go rfl rfl rfl (sem_move ((Value.pointer p8)) rfl ?_)
 refine Run.go rfl rfl rfl (sem_callL [(Value.pointer p8), (Value.int .i64 (1099511627776))] (TF.goes_105) rfl rfl (Spec.mono hS fun v h9 hv => ?_))
 obtain ⟨i10, rfl, hS⟩ := hv
 refine Run.go rfl rfl rfl (sem_assign ((Value.int .i64 (i10))) rfl ?_)
 refine Run.region_end ?_
 refine Run.seq ?_
 refine Run.ops0 (idx := [0]) rfl ?_
 refine Run.go rfl rfl rfl (sem_assign ((Value.slice none 0 0)) rfl ?_)
 refine Run.region_end ?_
 refine Run.seqJ (fun e h15 => ∃ a12 : Option Addr, ∃ n13 : Nat, ∃ c14 : Nat, Agree [(5, (Value.pointer p8)), (6, (Value.int .i64 (i10))), (7, (Value.slice a12 n13 c14))] e ∧ S_redo_Read_J1 B p8 i10 a12 n13 c14 h15 Q) ?_ fun j11 => ?_
 ·rintro e h15 ⟨a12, n13, c14, hag, hS⟩
  refine Run.env hag ?_; clear hag
  refine Run.seq ?_
  refine Run.seq ?_
  refine Run.ops0 (idx := [0, 1]) rfl ?_
  refine Run.go rfl rfl rfl (sem_move ((Value.pointer p8)) rfl ?_)
  refine Run.go rfl rfl rfl (sem_callL [(Value.pointer p8)] (TF.goes_108) rfl rfl (Spec.mono hS fun v h16 hv => ?_))
  obtain ⟨b17, rfl, hS⟩ := hv
  obtain ⟨hT, hF⟩ := hS
  cases b17
  ·have hS := hF rfl; clear hT hF
   refine Run.region_end ?_
   refine Run.condF rfl ?_
   refine Run.skip ?_
   refine Run.seq ?_
   refine Run.ops0 (idx := [0, 1, 2, 3, 4]) rfl ?_
   refine Run.go rfl rfl rfl (sem_move ((Value.int .i64 (i10))) rfl ?_)
   refine Run.go rfl rfl rfl (sem_move ((Value.slice a12 n13 c14)) rfl ?_)
   refine Run.go rfl rfl rfl (sem_assign ((Value.int .i64 (i10))) rfl ?_)
   refine Run.go rfl rfl rfl (sem_assign ((Value.slice a12 n13 c14)) rfl ?_)
   refine Run.go rfl rfl rfl (sem_assign ((Value.bool true)) rfl ?_)
   refine Run.region_end ?_
   refine Run.ret ⟨.inr rfl, ?_⟩
   exact hS.imp fun h' hq => ⟨(i10), a12, n13, c14, (true), rfl, hq⟩
  ·have hS := hT rfl; clear hT hF
   refine Run.region_end ?_
   refine Run.condT rfl ?_
   refine Run.seq ?_
   refine Run.ops0 (idx := [0, 1, 2]) rfl ?_
   refine Run.go rfl rfl rfl (sem_assign ((Value.int .i64 (0))) rfl ?_)
   refine Run.go rfl rfl rfl (sem_assign ((Value.slice none 0 0)) rfl ?_)
   refine Run.go rfl rfl rfl (sem_assign ((Value.bool false)) rfl ?_)
   refine Run.region_end ?_
   refine Run.ret ⟨.inr rfl, ?_⟩
   exact hS.imp fun h' hq => ⟨(0), none, 0, 0, (false), rfl, hq⟩
 refine Run.seq ?_
 refine Run.ops0 (idx := [0]) rfl ?_
 refine Run.go rfl rfl rfl (sem_assign ((Value.int .i64 ((-1)))) rfl ?_)
 refine Run.region_end ?_
 refine Run.block ?_
 obtain ⟨J26, m24, h0, hS⟩ := hS
 refine Run.of_fin (h0.imp fun h' h0 => ?_)
 refine Run.loop (σ := (Option Addr) × Nat × Nat × Int × Nat) (fun x e h => J26 x.1 x.2.1 x.2.2.1 x.2.2.2.1 x.2.2.2.2 h ∧ Agree [(5, (Value.pointer p8)), (6, (Value.int .i64 (i10))), (7, (Value.slice x.1 x.2.1 x.2.2.1)), (8, (Value.int .i64 (x.2.2.2.1)))] e) (fun x => x.2.2.2.2) (none, 0, 0, ((-1)), m24) ⟨h0, ⟨rfl, rfl, rfl, rfl, trivial⟩⟩ ?_; clear h0
 rintro ⟨a18, n19, c20, i21, m23⟩ e h22 ⟨hJ, hag⟩ ih25
 have hS := hS a18 n19 c20 i21 m23 h22 hJ; clear hJ
 refine Run.env hag ?_; clear hag
 refine Run.seq ?_
 refine Run.seq ?_
 refine Run.ops0 (idx := [0, 1, 2]) rfl ?_
 refine Run.go rfl rfl rfl (sem_move ((Value.pointer p8)) rfl ?_)
 refine Run.go rfl rfl rfl (sem_callL [(Value.pointer p8)] (TF.goes_106) rfl rfl (Spec.mono hS fun v h27 hv => ?_))
 obtain ⟨i28, rfl, hS⟩ := hv
 obtain ⟨hT, hF⟩ := hS
 by_cases hb29 : (i28 : Int) > (0)
 ·have hS := hT hb29; clear hT hF
  refine Run.go rfl rfl rfl (sem_binI .i64 (i28) (0) (.bool true) rfl rfl (binI_gtr_t hb29) ?_)
  refine Run.region_end ?_
  refine Run.condT rfl ?_
  refine Run.skip ?_
  refine Run.block ?_
  refine Run.seq ?_
  refine Run.ops0 (idx := [0, 1, 2, 3, 4]) rfl ?_
  refine Run.go rfl rfl rfl (sem_move ((Value.pointer p8)) rfl ?_)
  refine Run.go rfl rfl rfl (sem_callL [(Value.pointer p8), (Value.int .i64 (5))] (TF.goes_105) rfl rfl (Spec.mono hS fun v h30 hv => ?_))
  obtain ⟨i31, rfl, hS⟩ := hv
  refine Run.go rfl rfl rfl (sem_buildSL [(0, (Value.int .i64 (i31)))] [(Value.int .i64 (i31)), (Value.bool false), (Value.string ByteArray.empty)] TF.zero_199 TF.places_199 rfl rfl ?_)
  refine Run.go rfl rfl rfl (sem_allocN [(Value.int .i64 (0)), (Value.bool false), (Value.string ByteArray.empty)] TF.zero_199 (fun k32 hb1 hb2 h33 hb3 => ?_))
  have hS := hS k32 hb1 hb2 h33 hb3
  obtain ⟨h34, hst, hS⟩ := hS
  refine Run.go rfl rfl rfl (sem_storeN ⟨k32, 0, none⟩ [(Value.int .i64 (i31)), (Value.bool false), (Value.string ByteArray.empty)] h34 rfl rfl TF.sz_199 hst ?_)
  refine Run.region_end ?_
  refine Run.seqJ (fun e h36 => Agree [(5, (Value.pointer p8)), (6, (Value.int .i64 (i10))), (7, (Value.slice a18 n19 c20)), (8, (Value.int .i64 (i21))), (9, (Value.pointer (some ⟨k32, 0, none⟩)))] e ∧ S_redo_Read_J2 B p8 i10 a18 n19 c20 i21 m23 J26 k32 h36 Q) ?_ fun j35 => ?_
  ·rintro e h36 ⟨hag, hS⟩
   refine Run.env hag ?_; clear hag
   refine Run.seqJ (fun e h38 => Agree [(5, (Value.pointer p8)), (6, (Value.int .i64 (i10))), (7, (Value.slice a18 n19 c20)), (9, (Value.pointer (some ⟨k32, 0, none⟩)))] e ∧ S_redo_Read_J3 B p8 i10 a18 n19 c20 m23 J26 k32 h38 Q) ?_ fun j37 => ?_
   ·rintro e h38 ⟨hag, hS⟩
    refine Run.env hag ?_; clear hag
    refine Run.seq ?_
    refine Run.ops0 (idx := [0, 1, 2]) rfl ?_
    refine Run.go rfl rfl rfl (sem_fieldAddr ⟨k32, 0, none⟩ 0 rfl TF.fld_199_0 ?_)
    obtain ⟨i39, hl, hS⟩ := hS
    refine Run.go rfl rfl rfl (sem_load1 ⟨k32, 0, none⟩ ((Value.int .i64 (i39))) rfl TF.agg_3 hl ?_)
    refine Run.go rfl rfl rfl (sem_assign ((Value.int .i64 (i39))) rfl ?_)
    refine Run.region_end ?_
    refine Run.ops0 (idx := [0, 1, 2, 3, 4]) rfl ?_
    refine Run.go rfl rfl rfl (sem_move ((Value.slice a18 n19 c20)) rfl ?_)
    obtain ⟨i40, b41, s42, hl, hS⟩ := hS
    refine Run.go rfl rfl rfl (sem_loadN ⟨k32, 0, none⟩ [(Value.int .i64 (i40)), (Value.bool b41), (Value.string s42)] rfl TF.agg_199 TF.sz_199 hl ?_)
    refine Run.go rfl rfl rfl (sem_buildSliceL [(0, (Value.agg #[(Value.int .i64 (i40)), (Value.bool b41), (Value.string s42)]))] [(Value.int .i64 (i40)), (Value.bool b41), (Value.string s42)] TF.slc_96 TF.zero_199 rfl (by decide) (by decide) rfl rfl (fun k43 hb1 hb2 h44 hb3 => ?_))
    have hS := hS k43 hb1 hb2 h44 hb3
    refine Run.go rfl rfl rfl (sem_appendL [(Value.slice a18 n19 c20), (Value.slice (some ⟨k43, 0, none⟩) 1 1)] rfl (semH_mono (fun v h45 hv => ?_) hS))
    obtain ⟨a46, n47, c48, rfl, hS⟩ := hv
    refine Run.go rfl rfl rfl (sem_assign ((Value.slice a46 n47 c48)) rfl ?_)
    refine Run.region_end ?_
    refine Run.inBlock ?_
    exact Run.of_fin (hS.imp fun h' ⟨m', hm, hS⟩ => ih25 (a46, n47, c48, (i39), m') _ _ ⟨hS, ⟨rfl, rfl, rfl, rfl, trivial⟩⟩ hm)
   refine Run.seq ?_
   refine Run.ops0 (idx := [0, 1, 2, 3, 4, 5, 6, 7]) rfl ?_
   refine Run.go rfl rfl rfl (sem_move ((Value.pointer p8)) rfl ?_)
   refine Run.go rfl rfl rfl (sem_callL [(Value.pointer p8)] (TF.goes_108) rfl rfl (Spec.mono hS fun v h49 hv => ?_))
   obtain ⟨b50, rfl, hS⟩ := hv
   obtain ⟨hT, hF⟩ := hS
   cases b50
   ·have hS := hF rfl; clear hT hF
    refine Run.go rfl rfl rfl (sem_move ((Value.bool false)) rfl ?_)
    refine Run.go rfl rfl rfl (sem_fieldAddr ⟨k32, 0, none⟩ 0 rfl TF.fld_199_0 ?_)
    obtain ⟨i51, hl, hS⟩ := hS
    refine Run.go rfl rfl rfl (sem_load1 ⟨k32, 0, none⟩ ((Value.int .i64 (i51))) rfl TF.agg_3 hl ?_)
    refine Run.go rfl rfl rfl (sem_move ((Value.int .i64 (i21))) rfl ?_)
    obtain ⟨hT, hF⟩ := hS
    by_cases hb52 : (i51 : Int) ≤ (i21)
    ·have hS := hT hb52; clear hT hF
     refine Run.go rfl rfl rfl (sem_binI .i64 (i51) (i21) (.bool true) rfl rfl (binI_leq_t hb52) ?_)
     refine Run.go rfl rfl rfl (sem_pick false ((Value.bool true)) rfl rfl ?_)
     refine Run.region_end ?_
     refine Run.condT rfl ?_
     refine Run.seq ?_
     refine Run.ops0 (idx := [0, 1, 2]) rfl ?_
     refine Run.go rfl rfl rfl (sem_assign ((Value.int .i64 (0))) rfl ?_)
     refine Run.go rfl rfl rfl (sem_assign ((Value.slice none 0 0)) rfl ?_)
     refine Run.go rfl rfl rfl (sem_assign ((Value.bool false)) rfl ?_)
     refine Run.region_end ?_
     refine Run.ret ⟨.inr rfl, ?_⟩
     exact hS.imp fun h' hq => ⟨(0), none, 0, 0, (false), rfl, hq⟩
    ·have hS := hF hb52; clear hT hF
     refine Run.go rfl rfl rfl (sem_binI .i64 (i51) (i21) (.bool false) rfl rfl (binI_leq_f hb52) ?_)
     refine Run.go rfl rfl rfl (sem_pick false ((Value.bool false)) rfl rfl ?_)
     refine Run.region_end ?_
     refine Run.condF rfl ?_
     refine Run.skip ?_
     exact Run.of_fin (hS.imp fun h' hS => j37 _ _ ⟨⟨rfl, rfl, rfl, rfl, trivial⟩, hS⟩)
   ·have hS := hT rfl; clear hT hF
    refine Run.go rfl rfl rfl (sem_move ((Value.bool true)) rfl ?_)
    refine Run.no rfl rfl rfl ?_
    refine Run.no rfl rfl rfl ?_
    refine Run.no rfl rfl rfl ?_
    refine Run.no rfl rfl rfl ?_
    refine Run.go rfl rfl rfl (sem_pick true ((Value.bool true)) rfl rfl ?_)
    refine Run.region_end ?_
    refine Run.condT rfl ?_
    refine Run.seq ?_
    refine Run.ops0 (idx := [0, 1, 2]) rfl ?_
    refine Run.go rfl rfl rfl (sem_assign ((Value.int .i64 (0))) rfl ?_)
    refine Run.go rfl rfl rfl (sem_assign ((Value.slice none 0 0)) rfl ?_)
    refine Run.go rfl rfl rfl (sem_assign ((Value.bool false)) rfl ?_)
    refine Run.region_end ?_
    refine Run.ret ⟨.inr rfl, ?_⟩
    exact hS.imp fun h' hq => ⟨(0), none, 0, 0, (false), rfl, hq⟩
  refine Run.seq ?_
  refine Run.ops0 (idx := [0, 1, 2]) rfl ?_
  refine Run.go rfl rfl rfl (sem_move ((Value.pointer p8)) rfl ?_)
  refine Run.go rfl rfl rfl (sem_callL [(Value.pointer p8), (Value.int .i64 (1))] (TF.goes_105) rfl rfl (Spec.mono hS fun v h53 hv => ?_))
  obtain ⟨i54, rfl, hS⟩ := hv
  obtain ⟨hT, hF⟩ := hS
  by_cases hb55 : (i54 : Int) = 1
  ·have hS := hT hb55; clear hT hF
   refine Run.go rfl rfl rfl (sem_binI .i64 (i54) (1) (.bool true) rfl rfl (binI_eql_t hb55) ?_)
   refine Run.region_end ?_
   refine Run.condT rfl ?_
   refine Run.ops0 (idx := [0, 1, 2, 3, 4]) rfl ?_
   refine Run.go rfl rfl rfl (sem_move ((Value.pointer p8)) rfl ?_)
   refine Run.go rfl rfl rfl (sem_callL [(Value.pointer p8), (Value.int .i64 (32))] (TF.goes_107) rfl rfl (Spec.mono hS fun v h56 hv => ?_))
   obtain ⟨s57, rfl, hS⟩ := hv
   refine Run.go rfl rfl rfl (sem_buildSL [(0, (Value.bool true)), (1, (Value.string s57))] [(Value.bool true), (Value.string s57)] TF.zero_111 TF.places_111 rfl rfl ?_)
   refine Run.go rfl rfl rfl (sem_fieldAddr ⟨k32, 0, none⟩ 1 rfl TF.fld_199_1 ?_)
   obtain ⟨h58, hst, hS⟩ := hS
   refine Run.go rfl rfl rfl (sem_storeN ⟨k32, 1, none⟩ [(Value.bool true), (Value.string s57)] h58 rfl rfl TF.sz_111 hst ?_)
   refine Run.region_end ?_
   exact Run.of_fin (hS.imp fun h' hS => j35 _ _ ⟨⟨rfl, rfl, rfl, rfl, rfl, trivial⟩, hS⟩)
  ·have hS := hF hb55; clear hT hF
   refine Run.go rfl rfl rfl (sem_binI .i64 (i54) (1) (.bool false) rfl rfl (binI_eql_f hb55) ?_)
   refine Run.region_end ?_
   refine Run.condF rfl ?_
   refine Run.skip ?_
   exact Run.of_fin (hS.imp fun h' hS => j35 _ _ ⟨⟨rfl, rfl, rfl, rfl, rfl, trivial⟩, hS⟩)
 ·have hS := hF hb29; clear hT hF
  refine Run.go rfl rfl rfl (sem_binI .i64 (i28) (0) (.bool false) rfl rfl (binI_gtr_f hb29) ?_)
  refine Run.region_end ?_
  refine Run.condF rfl ?_
  refine Run.exit rfl ?_
  exact Run.of_fin (hS.imp fun h' hS => j11 _ _ ⟨a18, n19, c20, ⟨rfl, rfl, rfl, trivial⟩, hS⟩)
set_option maxHeartbeats 4000000 in
theorem C_countermandref18_Read.of {B : RO} {s1 : ByteArray} {h : Heap} {Q : Int → Option Addr → Nat → Nat → Bool → Heap → Prop} (hS : S_countermandref18_Read B s1 h Q) : C_countermandref18_Read B s1 h Q := by
 unfold S_countermandref18_Read at hS
 unfold C_countermandref18_Read
 refine Spec.of_run Try.func62 (N := 86) (rs := [ResultVar.tmp 2, ResultVar.tmp 3, ResultVar.tmp 4]) rfl rfl rfl (Nat.le_of_ble_eq_true rfl) ?_
 refine Run.seq ?_
 refine Run.ops0 (idx := [0, 1, 2]) rfl ?_
 refine Run.go rfl rfl rfl (sem_assign ((Value.int .i64 (0))) rfl ?_)
 refine Run.go rfl rfl rfl (sem_assign ((Value.slice none 0 0)) rfl ?_)
 refine Run.go rfl rfl rfl (sem_assign ((Value.bool false)) rfl ?_)
 refine Run.region_end ?_
 refine Run.seq ?_
 refine Run.ops0 (idx := [0, 1, 2, 3, 4, 5, 6, 7, 8]) rfl ?_
 refine Run.go rfl rfl rfl (sem_move ((Value.string s1)) rfl ?_)
 refine Run.go rfl rfl rfl (sem_callL [(Value.string s1), (Value.int .u64 (1099511627776))] (TF.goes_109) rfl rfl (Spec.mono hS fun v h7 hv => ?_))
 obtain ⟨i8, s9, b10, rfl, hS⟩ := hv
 refine Run.go rfl rfl rfl (sem_move ((Value.tuple #[(Value.int .i64 (i8)), (Value.string s9), (Value.bool b10)])) rfl ?_)
 refine Run.go rfl rfl rfl (sem_extract #[(Value.int .i64 (i8)), (Value.string s9), (Value.bool b10)] ((Value.int .i64 (i8))) rfl rfl ?_)
 refine Run.go rfl rfl rfl (sem_extract #[(Value.int .i64 (i8)), (Value.string s9), (Value.bool b10)] ((Value.string s9)) rfl rfl ?_)
 obtain ⟨hT, hF⟩ := hS
 cases b10
 ·have hS := hF rfl; clear hT hF
  refine Run.go rfl rfl rfl (sem_extract #[(Value.int .i64 (i8)), (Value.string s9), (Value.bool false)] (.bool false) rfl rfl ?_)
  refine Run.go rfl rfl rfl (sem_assign ((Value.int .i64 (i8))) rfl ?_)
  refine Run.go rfl rfl rfl (sem_assign ((Value.string s9)) rfl ?_)
  refine Run.go rfl rfl rfl (sem_assign ((Value.bool false)) rfl ?_)
  refine Run.region_end ?_
  refine Run.seq ?_
  refine Run.seq ?_
  refine Run.ops0 (idx := [0, 1]) rfl ?_
  refine Run.go rfl rfl rfl (sem_move ((Value.bool false)) rfl ?_)
  refine Run.go rfl rfl rfl (sem_not false rfl ?_)
  refine Run.region_end ?_
  refine Run.condT rfl ?_
  refine Run.seq ?_
  refine Run.ops0 (idx := [0, 1, 2]) rfl ?_
  refine Run.go rfl rfl rfl (sem_assign ((Value.int .i64 (0))) rfl ?_)
  refine Run.go rfl rfl rfl (sem_assign ((Value.slice none 0 0)) rfl ?_)
  refine Run.go rfl rfl rfl (sem_assign ((Value.bool false)) rfl ?_)
  refine Run.region_end ?_
  refine Run.ret ⟨.inr rfl, ?_⟩
  exact hS.imp fun h' hq => ⟨(0), none, 0, 0, (false), rfl, hq⟩
 ·have hS := hT rfl; clear hT hF
  refine Run.go rfl rfl rfl (sem_extract #[(Value.int .i64 (i8)), (Value.string s9), (Value.bool true)] (.bool true) rfl rfl ?_)
  refine Run.go rfl rfl rfl (sem_assign ((Value.int .i64 (i8))) rfl ?_)
  refine Run.go rfl rfl rfl (sem_assign ((Value.string s9)) rfl ?_)
  refine Run.go rfl rfl rfl (sem_assign ((Value.bool true)) rfl ?_)
  refine Run.region_end ?_
  refine Run.seq ?_
  refine Run.seq ?_
  refine Run.ops0 (idx := [0, 1]) rfl ?_
  refine Run.go rfl rfl rfl (sem_move ((Value.bool true)) rfl ?_)
  refine Run.go rfl rfl rfl (sem_not true rfl ?_)
  refine Run.region_end ?_
  refine Run.condF rfl ?_
  refine Run.skip ?_
  refine Run.seq ?_
  refine Run.ops0 (idx := [0]) rfl ?_
  refine Run.go rfl rfl rfl (sem_assign ((Value.slice none 0 0)) rfl ?_)
  refine Run.region_end ?_
  refine Run.seq ?_
  refine Run.block ?_
  obtain ⟨J19, m17, h0, hS⟩ := hS
  refine Run.of_fin (h0.imp fun h' h0 => ?_)
  refine Run.loop (σ := ByteArray × (Option Addr) × Nat × Nat × Nat) (fun x e h => J19 x.1 x.2.1 x.2.2.1 x.2.2.2.1 x.2.2.2.2 h ∧ Agree [(0, (Value.string x.1)), (5, (Value.int .i64 (i8))), (7, (Value.slice x.2.1 x.2.2.1 x.2.2.2.1))] e) (fun x => x.2.2.2.2) (s9, none, 0, 0, m17) ⟨h0, ⟨rfl, rfl, rfl, trivial⟩⟩ ?_; clear h0
  rintro ⟨s11, a12, n13, c14, m16⟩ e h15 ⟨hJ, hag⟩ ih18
  have hS := hS s11 a12 n13 c14 m16 h15 hJ; clear hJ
  refine Run.env hag ?_; clear hag
  refine Run.seq ?_
  refine Run.seq ?_
  refine Run.ops0 (idx := [0, 1, 2]) rfl ?_
  refine Run.go rfl rfl rfl (sem_move ((Value.string s11)) rfl ?_)
  refine Run.go rfl rfl rfl (sem_lenStr s11 rfl TF.isStr_9 ?_)
  obtain ⟨hT, hF⟩ := hS
  by_cases hb20 : ((ByteArray.size s11 : Nat) : Int) > (0)
  ·have hS := hT hb20; clear hT hF
   refine Run.go rfl rfl rfl (sem_binI .i64 ((ByteArray.size s11 : Nat)) (0) (.bool true) rfl rfl (binI_gtr_t hb20) ?_)
   refine Run.region_end ?_
   refine Run.condT rfl ?_
   refine Run.skip ?_
   refine Run.block ?_
   refine Run.seq ?_
   refine Run.ops0 (idx := [0, 1, 2]) rfl ?_
   refine Run.go rfl rfl rfl (sem_buildSL [] [(Value.int .i64 (0)), (Value.bool false), (Value.string ByteArray.empty)] TF.zero_122 TF.places_122 rfl rfl ?_)
   refine Run.go rfl rfl rfl (sem_allocN [(Value.int .i64 (0)), (Value.bool false), (Value.string ByteArray.empty)] TF.zero_122 (fun k21 hb1 hb2 h22 hb3 => ?_))
   have hS := hS k21 hb1 hb2 h22 hb3
   obtain ⟨h23, hst, hS⟩ := hS
   refine Run.go rfl rfl rfl (sem_storeN ⟨k21, 0, none⟩ [(Value.int .i64 (0)), (Value.bool false), (Value.string ByteArray.empty)] h23 rfl rfl TF.sz_122 hst ?_)
   refine Run.region_end ?_
   refine Run.seq ?_
   refine Run.ops0 (idx := [0]) rfl ?_
   refine Run.go rfl rfl rfl (sem_assign ((Value.int .i64 (0))) rfl ?_)
   refine Run.region_end ?_
   refine Run.seq ?_
   refine Run.ops0 (idx := [0, 1, 2, 3, 4, 5, 6, 7, 8, 9]) rfl ?_
   refine Run.go rfl rfl rfl (sem_move ((Value.string s11)) rfl ?_)
   refine Run.go rfl rfl rfl (sem_callL [(Value.string s11), (Value.int .u64 (5))] (TF.goes_109) rfl rfl (Spec.mono hS fun v h24 hv => ?_))
   obtain ⟨i25, s26, b27, rfl, hS⟩ := hv
   refine Run.go rfl rfl rfl (sem_move ((Value.tuple #[(Value.int .i64 (i25)), (Value.string s26), (Value.bool b27)])) rfl ?_)
   refine Run.go rfl rfl rfl (sem_extract #[(Value.int .i64 (i25)), (Value.string s26), (Value.bool b27)] ((Value.int .i64 (i25))) rfl rfl ?_)
   refine Run.go rfl rfl rfl (sem_extract #[(Value.int .i64 (i25)), (Value.string s26), (Value.bool b27)] ((Value.string s26)) rfl rfl ?_)
   obtain ⟨hT, hF⟩ := hS
   cases b27
   ·have hS := hF rfl; clear hT hF
    refine Run.go rfl rfl rfl (sem_extract #[(Value.int .i64 (i25)), (Value.string s26), (Value.bool false)] (.bool false) rfl rfl ?_)
    refine Run.go rfl rfl rfl (sem_fieldAddr ⟨k21, 0, none⟩ 0 rfl TF.fld_122_0 ?_)
    obtain ⟨h28, hst, hS⟩ := hS
    refine Run.go rfl rfl rfl (sem_store1 ⟨k21, 0, none⟩ ((Value.int .i64 (i25))) h28 rfl rfl rfl TF.sz_3 hst ?_)
    refine Run.go rfl rfl rfl (sem_assign ((Value.string s26)) rfl ?_)
    refine Run.go rfl rfl rfl (sem_assign ((Value.bool false)) rfl ?_)
    refine Run.region_end ?_
    refine Run.seqJ (fun e h33 => ∃ s30 : ByteArray, ∃ b31 : Bool, ∃ i32 : Int, Agree [(0, (Value.string s30)), (5, (Value.int .i64 (i8))), (6, (Value.bool b31)), (7, (Value.slice a12 n13 c14)), (8, (Value.pointer (some ⟨k21, 0, none⟩))), (9, (Value.int .i64 (i32)))] e ∧ S_countermandref18_Read_J1 B i8 a12 n13 c14 m16 J19 k21 s30 b31 i32 h33 Q) ?_ fun j29 => ?_
    ·rintro e h33 ⟨s30, b31, i32, hag, hS⟩
     refine Run.env hag ?_; clear hag
     refine Run.seqJ (fun e h35 => Agree [(0, (Value.string s30)), (5, (Value.int .i64 (i8))), (7, (Value.slice a12 n13 c14)), (8, (Value.pointer (some ⟨k21, 0, none⟩))), (9, (Value.int .i64 (i32)))] e ∧ S_countermandref18_Read_J2 B i8 a12 n13 c14 m16 J19 k21 s30 i32 h35 Q) ?_ fun j34 => ?_
     ·rintro e h35 ⟨hag, hS⟩
      refine Run.env hag ?_; clear hag
      refine Run.seq ?_
      refine Run.seq ?_
      refine Run.ops0 (idx := [0, 1]) rfl ?_
      refine Run.go rfl rfl rfl (sem_move ((Value.int .i64 (i32))) rfl ?_)
      obtain ⟨hT, hF⟩ := hS
      by_cases hb36 : (i32 : Int) = 1
      ·have hS := hT hb36; clear hT hF
       refine Run.go rfl rfl rfl (sem_binI .i64 (i32) (1) (.bool true) rfl rfl (binI_eql_t hb36) ?_)
       refine Run.region_end ?_
       refine Run.condT rfl ?_
       refine Run.seq ?_
       refine Run.ops0 (idx := [0]) rfl ?_
       refine Run.go rfl rfl rfl (sem_assign ((Value.int .i64 (0))) rfl ?_)
       refine Run.region_end ?_
       refine Run.seq ?_
       refine Run.ops0 (idx := [0, 1, 2, 3, 4, 5, 6, 7, 8]) rfl ?_
       refine Run.go rfl rfl rfl (sem_move ((Value.string s30)) rfl ?_)
       refine Run.go rfl rfl rfl (sem_callL [(Value.string s30), (Value.int .u64 (32))] (TF.goes_109) rfl rfl (Spec.mono hS fun v h37 hv => ?_))
       obtain ⟨i38, s39, b40, rfl, hS⟩ := hv
       refine Run.go rfl rfl rfl (sem_move ((Value.tuple #[(Value.int .i64 (i38)), (Value.string s39), (Value.bool b40)])) rfl ?_)
       refine Run.go rfl rfl rfl (sem_extract #[(Value.int .i64 (i38)), (Value.string s39), (Value.bool b40)] ((Value.int .i64 (i38))) rfl rfl ?_)
       refine Run.go rfl rfl rfl (sem_extract #[(Value.int .i64 (i38)), (Value.string s39), (Value.bool b40)] ((Value.string s39)) rfl rfl ?_)
       obtain ⟨hT, hF⟩ := hS
       cases b40
       ·have hS := hF rfl; clear hT hF
        refine Run.go rfl rfl rfl (sem_extract #[(Value.int .i64 (i38)), (Value.string s39), (Value.bool false)] (.bool false) rfl rfl ?_)
        refine Run.go rfl rfl rfl (sem_assign ((Value.int .i64 (i38))) rfl ?_)
        refine Run.go rfl rfl rfl (sem_assign ((Value.string s39)) rfl ?_)
        refine Run.go rfl rfl rfl (sem_assign ((Value.bool false)) rfl ?_)
        refine Run.region_end ?_
        refine Run.seqJ (fun e h42 => Agree [(0, (Value.string s39)), (5, (Value.int .i64 (i8))), (7, (Value.slice a12 n13 c14)), (8, (Value.pointer (some ⟨k21, 0, none⟩))), (10, (Value.int .i64 (i38)))] e ∧ S_countermandref18_Read_J3 B i8 a12 n13 c14 m16 J19 k21 i38 s39 h42 Q) ?_ fun j41 => ?_
        ·rintro e h42 ⟨hag, hS⟩
         refine Run.env hag ?_; clear hag
         refine Run.seq ?_
         refine Run.ops0 (idx := [0, 1, 2, 3, 4, 5]) rfl ?_
         refine Run.go rfl rfl rfl (sem_move ((Value.string s39)) rfl ?_)
         refine Run.go rfl rfl rfl (sem_move ((Value.int .i64 (i38))) rfl ?_)
         obtain ⟨hi0, hi1, hi2, hS⟩ := hS
         refine Run.go rfl rfl rfl (sem_sliceStrI s39 (0) (i38) rfl TF.isStr_9 rfl ⟨_, rfl⟩ hi0 hi1 hi2 ?_)
         refine Run.go rfl rfl rfl (sem_buildSL [(0, (Value.bool true)), (1, (Value.string (ByteArray.extract s39 (Int.toNat (0)) (Int.toNat (i38)))))] [(Value.bool true), (Value.string (ByteArray.extract s39 (Int.toNat (0)) (Int.toNat (i38))))] TF.zero_114 TF.places_114 rfl rfl ?_)
         refine Run.go rfl rfl rfl (sem_fieldAddr ⟨k21, 0, none⟩ 1 rfl TF.fld_122_1 ?_)
         obtain ⟨h43, hst, hS⟩ := hS
         refine Run.go rfl rfl rfl (sem_storeN ⟨k21, 1, none⟩ [(Value.bool true), (Value.string (ByteArray.extract s39 (Int.toNat (0)) (Int.toNat (i38))))] h43 rfl rfl TF.sz_114 hst ?_)
         refine Run.region_end ?_
         refine Run.ops0 (idx := [0, 1, 2, 3]) rfl ?_
         refine Run.go rfl rfl rfl (sem_move ((Value.string s39)) rfl ?_)
         refine Run.go rfl rfl rfl (sem_move ((Value.int .i64 (i38))) rfl ?_)
         obtain ⟨hi0, hi1, hi2, hS⟩ := hS
         refine Run.go rfl rfl rfl (sem_sliceStrI s39 (i38) ((ByteArray.size s39 : Nat)) rfl TF.isStr_9 ⟨_, rfl⟩ rfl hi0 hi1 hi2 ?_)
         refine Run.go rfl rfl rfl (sem_assign ((Value.string (ByteArray.extract s39 (Int.toNat (i38)) (Int.toNat ((ByteArray.size s39 : Nat)))))) rfl ?_)
         refine Run.region_end ?_
         refine Run.ops0 (idx := [0, 1, 2, 3, 4]) rfl ?_
         refine Run.go rfl rfl rfl (sem_move ((Value.slice a12 n13 c14)) rfl ?_)
         obtain ⟨i44, b45, s46, hl, hS⟩ := hS
         refine Run.go rfl rfl rfl (sem_loadN ⟨k21, 0, none⟩ [(Value.int .i64 (i44)), (Value.bool b45), (Value.string s46)] rfl TF.agg_122 TF.sz_122 hl ?_)
         refine Run.go rfl rfl rfl (sem_buildSliceL [(0, (Value.agg #[(Value.int .i64 (i44)), (Value.bool b45), (Value.string s46)]))] [(Value.int .i64 (i44)), (Value.bool b45), (Value.string s46)] TF.slc_99 TF.zero_122 rfl (by decide) (by decide) rfl rfl (fun k47 hb1 hb2 h48 hb3 => ?_))
         have hS := hS k47 hb1 hb2 h48 hb3
         refine Run.go rfl rfl rfl (sem_appendL [(Value.slice a12 n13 c14), (Value.slice (some ⟨k47, 0, none⟩) 1 1)] rfl (semH_mono (fun v h49 hv => ?_) hS))
         obtain ⟨a50, n51, c52, rfl, hS⟩ := hv
         refine Run.go rfl rfl rfl (sem_assign ((Value.slice a50 n51 c52)) rfl ?_)
         refine Run.region_end ?_
         refine Run.inBlock ?_
         exact Run.of_fin (hS.imp fun h' ⟨m', hm, hS⟩ => ih18 ((ByteArray.extract s39 (Int.toNat (i38)) (Int.toNat ((ByteArray.size s39 : Nat)))), a50, n51, c52, m') _ _ ⟨hS, ⟨rfl, rfl, rfl, trivial⟩⟩ hm)
        refine Run.seq ?_
        refine Run.ops0 (idx := [0, 1, 2, 3, 4, 5, 6, 7]) rfl ?_
        refine Run.go rfl rfl rfl (sem_move ((Value.bool false)) rfl ?_)
        refine Run.go rfl rfl rfl (sem_not false rfl ?_)
        refine Run.go rfl rfl rfl (sem_move ((Value.bool true)) rfl ?_)
        refine Run.no rfl rfl rfl ?_
        refine Run.no rfl rfl rfl ?_
        refine Run.no rfl rfl rfl ?_
        refine Run.no rfl rfl rfl ?_
        refine Run.go rfl rfl rfl (sem_pick true ((Value.bool true)) rfl rfl ?_)
        refine Run.region_end ?_
        refine Run.condT rfl ?_
        refine Run.seq ?_
        refine Run.ops0 (idx := [0, 1, 2]) rfl ?_
        refine Run.go rfl rfl rfl (sem_assign ((Value.int .i64 (0))) rfl ?_)
        refine Run.go rfl rfl rfl (sem_assign ((Value.slice none 0 0)) rfl ?_)
        refine Run.go rfl rfl rfl (sem_assign ((Value.bool false)) rfl ?_)
        refine Run.region_end ?_
        refine Run.ret ⟨.inr rfl, ?_⟩
        exact hS.imp fun h' hq => ⟨(0), none, 0, 0, (false), rfl, hq⟩
       ·have hS := hT rfl; clear hT hF
        refine Run.go rfl rfl rfl (sem_extract #[(Value.int .i64 (i38)), (Value.string s39), (Value.bool true)] (.bool true) rfl rfl ?_)
        refine Run.go rfl rfl rfl (sem_assign ((Value.int .i64 (i38))) rfl ?_)
        refine Run.go rfl rfl rfl (sem_assign ((Value.string s39)) rfl ?_)
        refine Run.go rfl rfl rfl (sem_assign ((Value.bool true)) rfl ?_)
        refine Run.region_end ?_
        refine Run.seqJ (fun e h54 => Agree [(0, (Value.string s39)), (5, (Value.int .i64 (i8))), (7, (Value.slice a12 n13 c14)), (8, (Value.pointer (some ⟨k21, 0, none⟩))), (10, (Value.int .i64 (i38)))] e ∧ S_countermandref18_Read_J4 B i8 a12 n13 c14 m16 J19 k21 i38 s39 h54 Q) ?_ fun j53 => ?_
        ·rintro e h54 ⟨hag, hS⟩
         refine Run.env hag ?_; clear hag
         refine Run.seq ?_
         refine Run.ops0 (idx := [0, 1, 2, 3, 4, 5]) rfl ?_
         refine Run.go rfl rfl rfl (sem_move ((Value.string s39)) rfl ?_)
         refine Run.go rfl rfl rfl (sem_move ((Value.int .i64 (i38))) rfl ?_)
         obtain ⟨hi0, hi1, hi2, hS⟩ := hS
         refine Run.go rfl rfl rfl (sem_sliceStrI s39 (0) (i38) rfl TF.isStr_9 rfl ⟨_, rfl⟩ hi0 hi1 hi2 ?_)
         refine Run.go rfl rfl rfl (sem_buildSL [(0, (Value.bool true)), (1, (Value.string (ByteArray.extract s39 (Int.toNat (0)) (Int.toNat (i38)))))] [(Value.bool true), (Value.string (ByteArray.extract s39 (Int.toNat (0)) (Int.toNat (i38))))] TF.zero_114 TF.places_114 rfl rfl ?_)
         refine Run.go rfl rfl rfl (sem_fieldAddr ⟨k21, 0, none⟩ 1 rfl TF.fld_122_1 ?_)
         obtain ⟨h55, hst, hS⟩ := hS
         refine Run.go rfl rfl rfl (sem_storeN ⟨k21, 1, none⟩ [(Value.bool true), (Value.string (ByteArray.extract s39 (Int.toNat (0)) (Int.toNat (i38))))] h55 rfl rfl TF.sz_114 hst ?_)
         refine Run.region_end ?_
         refine Run.ops0 (idx := [0, 1, 2, 3]) rfl ?_
         refine Run.go rfl rfl rfl (sem_move ((Value.string s39)) rfl ?_)
         refine Run.go rfl rfl rfl (sem_move ((Value.int .i64 (i38))) rfl ?_)
         obtain ⟨hi0, hi1, hi2, hS⟩ := hS
         refine Run.go rfl rfl rfl (sem_sliceStrI s39 (i38) ((ByteArray.size s39 : Nat)) rfl TF.isStr_9 ⟨_, rfl⟩ rfl hi0 hi1 hi2 ?_)
         refine Run.go rfl rfl rfl (sem_assign ((Value.string (ByteArray.extract s39 (Int.toNat (i38)) (Int.toNat ((ByteArray.size s39 : Nat)))))) rfl ?_)
         refine Run.region_end ?_
         refine Run.ops0 (idx := [0, 1, 2, 3, 4]) rfl ?_
         refine Run.go rfl rfl rfl (sem_move ((Value.slice a12 n13 c14)) rfl ?_)
         obtain ⟨i56, b57, s58, hl, hS⟩ := hS
         refine Run.go rfl rfl rfl (sem_loadN ⟨k21, 0, none⟩ [(Value.int .i64 (i56)), (Value.bool b57), (Value.string s58)] rfl TF.agg_122 TF.sz_122 hl ?_)
         refine Run.go rfl rfl rfl (sem_buildSliceL [(0, (Value.agg #[(Value.int .i64 (i56)), (Value.bool b57), (Value.string s58)]))] [(Value.int .i64 (i56)), (Value.bool b57), (Value.string s58)] TF.slc_99 TF.zero_122 rfl (by decide) (by decide) rfl rfl (fun k59 hb1 hb2 h60 hb3 => ?_))
         have hS := hS k59 hb1 hb2 h60 hb3
         refine Run.go rfl rfl rfl (sem_appendL [(Value.slice a12 n13 c14), (Value.slice (some ⟨k59, 0, none⟩) 1 1)] rfl (semH_mono (fun v h61 hv => ?_) hS))
         obtain ⟨a62, n63, c64, rfl, hS⟩ := hv
         refine Run.go rfl rfl rfl (sem_assign ((Value.slice a62 n63 c64)) rfl ?_)
         refine Run.region_end ?_
         refine Run.inBlock ?_
         exact Run.of_fin (hS.imp fun h' ⟨m', hm, hS⟩ => ih18 ((ByteArray.extract s39 (Int.toNat (i38)) (Int.toNat ((ByteArray.size s39 : Nat)))), a62, n63, c64, m') _ _ ⟨hS, ⟨rfl, rfl, rfl, trivial⟩⟩ hm)
        refine Run.seq ?_
        refine Run.ops0 (idx := [0, 1, 2, 3, 4, 5, 6, 7]) rfl ?_
        refine Run.go rfl rfl rfl (sem_move ((Value.bool true)) rfl ?_)
        refine Run.go rfl rfl rfl (sem_not true rfl ?_)
        refine Run.go rfl rfl rfl (sem_move ((Value.bool false)) rfl ?_)
        refine Run.go rfl rfl rfl (sem_move ((Value.int .i64 (i38))) rfl ?_)
        refine Run.go rfl rfl rfl (sem_move ((Value.string s39)) rfl ?_)
        refine Run.go rfl rfl rfl (sem_lenStr s39 rfl TF.isStr_9 ?_)
        obtain ⟨hT, hF⟩ := hS
        by_cases hb65 : (i38 : Int) > ((ByteArray.size s39 : Nat))
        ·have hS := hT hb65; clear hT hF
         refine Run.go rfl rfl rfl (sem_binI .i64 (i38) ((ByteArray.size s39 : Nat)) (.bool true) rfl rfl (binI_gtr_t hb65) ?_)
         refine Run.go rfl rfl rfl (sem_pick false ((Value.bool true)) rfl rfl ?_)
         refine Run.region_end ?_
         refine Run.condT rfl ?_
         refine Run.seq ?_
         refine Run.ops0 (idx := [0, 1, 2]) rfl ?_
         refine Run.go rfl rfl rfl (sem_assign ((Value.int .i64 (0))) rfl ?_)
         refine Run.go rfl rfl rfl (sem_assign ((Value.slice none 0 0)) rfl ?_)
         refine Run.go rfl rfl rfl (sem_assign ((Value.bool false)) rfl ?_)
         refine Run.region_end ?_
         refine Run.ret ⟨.inr rfl, ?_⟩
         exact hS.imp fun h' hq => ⟨(0), none, 0, 0, (false), rfl, hq⟩
        ·have hS := hF hb65; clear hT hF
         refine Run.go rfl rfl rfl (sem_binI .i64 (i38) ((ByteArray.size s39 : Nat)) (.bool false) rfl rfl (binI_gtr_f hb65) ?_)
         refine Run.go rfl rfl rfl (sem_pick false ((Value.bool false)) rfl rfl ?_)
         refine Run.region_end ?_
         refine Run.condF rfl ?_
         refine Run.skip ?_
         exact Run.of_fin (hS.imp fun h' hS => j53 _ _ ⟨⟨rfl, rfl, rfl, rfl, rfl, trivial⟩, hS⟩)
      ·have hS := hF hb36; clear hT hF
       refine Run.go rfl rfl rfl (sem_binI .i64 (i32) (1) (.bool false) rfl rfl (binI_eql_f hb36) ?_)
       refine Run.region_end ?_
       refine Run.condF rfl ?_
       refine Run.skip ?_
       refine Run.ops0 (idx := [0, 1, 2, 3, 4]) rfl ?_
       refine Run.go rfl rfl rfl (sem_move ((Value.slice a12 n13 c14)) rfl ?_)
       obtain ⟨i66, b67, s68, hl, hS⟩ := hS
       refine Run.go rfl rfl rfl (sem_loadN ⟨k21, 0, none⟩ [(Value.int .i64 (i66)), (Value.bool b67), (Value.string s68)] rfl TF.agg_122 TF.sz_122 hl ?_)
       refine Run.go rfl rfl rfl (sem_buildSliceL [(0, (Value.agg #[(Value.int .i64 (i66)), (Value.bool b67), (Value.string s68)]))] [(Value.int .i64 (i66)), (Value.bool b67), (Value.string s68)] TF.slc_99 TF.zero_122 rfl (by decide) (by decide) rfl rfl (fun k69 hb1 hb2 h70 hb3 => ?_))
       have hS := hS k69 hb1 hb2 h70 hb3
       refine Run.go rfl rfl rfl (sem_appendL [(Value.slice a12 n13 c14), (Value.slice (some ⟨k69, 0, none⟩) 1 1)] rfl (semH_mono (fun v h71 hv => ?_) hS))
       obtain ⟨a72, n73, c74, rfl, hS⟩ := hv
       refine Run.go rfl rfl rfl (sem_assign ((Value.slice a72 n73 c74)) rfl ?_)
       refine Run.region_end ?_
       refine Run.inBlock ?_
       exact Run.of_fin (hS.imp fun h' ⟨m', hm, hS⟩ => ih18 (s30, a72, n73, c74, m') _ _ ⟨hS, ⟨rfl, rfl, rfl, trivial⟩⟩ hm)
     refine Run.seq ?_
     refine Run.drawM (fun h' => h' = h33) [] ⟨[0, 1, 2, 4, 12, 20, 36, 64, 64, 320, 576, 1216, 2112, 4160, 64, 16448, 41024, 65604, 131076], [524287, 524286, 524285, 524283, 524275, 524267, 524251, 524223, 524223, 523967, 523711, 523071, 522175, 520127, 524223, 507839, 483263, 458683, 393211], [0, 0, 0, 0, 0, 0, 0, 0, 0, 0, 0, 0, 0, 0, 0, 0, 0, 0, 0], 0⟩ (.q 0 (.q 1 (.q 2 (.q 3 (.q 4 (.q 5 (.q 6 (.q 7 (.q 8 (.q 9 (.q 10 (.q 11 (.q 12 (.q 13 (.q 14 (.q 15 (.q 16 (.q 17 (.q 18 .nil))))))))))))))))))) TF.mixed (by kernel_rfl) rfl ?_
     obtain ⟨hT, hF⟩ := hS
     cases b31
     ·have hS := hF rfl; clear hT hF
      refine RunT.quiet rfl rfl rfl (quiet_eq (sem_move (.bool false) rfl ⟨rfl, rfl⟩)) ?_
      refine RunT.quiet rfl rfl rfl (quiet_eq (sem_not false rfl ⟨rfl, rfl⟩)) ?_
      refine RunT.quiet rfl rfl rfl (quiet_eq (sem_move ((Value.bool true)) rfl ⟨rfl, rfl⟩)) ?_
      refine RunT.skip rfl rfl rfl ?_
      refine RunT.skip rfl rfl rfl ?_
      refine RunT.skip rfl rfl rfl ?_
      refine RunT.skip rfl rfl rfl ?_
      refine RunT.skip rfl rfl rfl ?_
      refine RunT.skip rfl rfl rfl ?_
      refine RunT.skip rfl rfl rfl ?_
      refine RunT.skip rfl rfl rfl ?_
      refine RunT.skip rfl rfl rfl ?_
      refine RunT.skip rfl rfl rfl ?_
      refine RunT.skip rfl rfl rfl ?_
      refine RunT.skip rfl rfl rfl ?_
      refine RunT.skip rfl rfl rfl ?_
      refine RunT.skip rfl rfl rfl ?_
      refine RunT.skip rfl rfl rfl ?_
      refine RunT.quiet rfl rfl rfl (quiet_eq (sem_pick true ((Value.bool true)) rfl rfl ⟨rfl, rfl⟩)) ?_
      refine Run.condT rfl ?_
      refine Run.seq ?_
      refine Run.ops0 (idx := [0, 1, 2]) rfl ?_
      refine Run.go rfl rfl rfl (sem_assign ((Value.int .i64 (0))) rfl ?_)
      refine Run.go rfl rfl rfl (sem_assign ((Value.slice none 0 0)) rfl ?_)
      refine Run.go rfl rfl rfl (sem_assign ((Value.bool false)) rfl ?_)
      refine Run.region_end ?_
      refine Run.ret ⟨.inr rfl, ?_⟩
      exact hS.imp fun h' hq => ⟨(0), none, 0, 0, (false), rfl, hq⟩
     ·have hS := hT rfl; clear hT hF
      refine RunT.quiet rfl rfl rfl (quiet_eq (sem_move (.bool true) rfl ⟨rfl, rfl⟩)) ?_
      refine RunT.quiet rfl rfl rfl (quiet_eq (sem_not true rfl ⟨rfl, rfl⟩)) ?_
      refine RunT.quiet rfl rfl rfl (quiet_eq (sem_move ((Value.bool false)) rfl ⟨rfl, rfl⟩)) ?_
      refine RunT.quiet rfl rfl rfl (quiet_eq (sem_move ((Value.slice a12 n13 c14)) rfl ⟨rfl, rfl⟩)) ?_
      refine RunT.quiet rfl rfl rfl (quiet_eq (sem_lenSl a12 n13 c14 rfl TF.sl_99 ⟨rfl, rfl⟩)) ?_
      obtain ⟨hT, hF⟩ := hS
      by_cases hb75 : ((n13 : Nat) : Int) > (0)
      ·have hS := hT hb75; clear hT hF
       refine RunT.quiet rfl rfl rfl (quiet_eq (sem_binI .i64 ((n13 : Nat)) (0) (.bool true) rfl rfl (binI_gtr_t hb75) ⟨rfl, rfl⟩)) ?_
       refine RunT.quiet rfl rfl rfl (quiet_eq (sem_move ((Value.bool true)) rfl ⟨rfl, rfl⟩)) ?_
       refine RunT.quiet rfl rfl rfl (quiet_eq (sem_move ((Value.slice a12 n13 c14)) rfl ⟨rfl, rfl⟩)) ?_
       refine RunT.quiet rfl rfl rfl (quiet_eq (sem_move ((Value.slice a12 n13 c14)) rfl ⟨rfl, rfl⟩)) ?_
       refine RunT.quiet rfl rfl rfl (quiet_eq (sem_lenSl a12 n13 c14 rfl TF.sl_99 ⟨rfl, rfl⟩)) ?_
       refine RunT.quiet rfl rfl rfl (quiet_eq (sem_binI .i64 ((n13 : Nat)) (1) ((Value.int .i64 (IntKind.wrap .i64 (((n13 : Nat)) - (1))))) rfl rfl rfl ⟨rfl, rfl⟩)) ?_
       obtain ⟨A76, e77, hi0, hi1, hS⟩ := hS
       refine RunT.quiet rfl rfl rfl (quiet_eq (sem_indexAddrS A76 n13 c14 .i64 (IntKind.wrap .i64 (((n13 : Nat)) - (1))) (congrArg (fun a => Value.slice a n13 c14) e77) rfl TF.slc_99 hi0 hi1 ⟨rfl, rfl⟩)) ?_
       refine RunT.quiet rfl rfl rfl (quiet_eq (sem_fieldAddr (Addr.add A76 (Int.toNat (IntKind.wrap .i64 (((n13 : Nat)) - (1))) * 3)) 0 rfl TF.fld_122_0 ⟨rfl, rfl⟩)) ?_
       obtain ⟨i78, hl, hS⟩ := hS
       refine RunT.quiet rfl rfl rfl (quiet_eq (sem_load1 (Addr.add A76 (Int.toNat (IntKind.wrap .i64 (((n13 : Nat)) - (1))) * 3)) ((Value.int .i64 (i78))) rfl TF.agg_3 hl ⟨rfl, rfl⟩)) ?_
       refine RunT.quiet rfl rfl rfl (quiet_eq (sem_fieldAddr ⟨k21, 0, none⟩ 0 rfl TF.fld_122_0 ⟨rfl, rfl⟩)) ?_
       obtain ⟨i79, hl, hS⟩ := hS
       refine RunT.quiet rfl rfl rfl (quiet_eq (sem_load1 ⟨k21, 0, none⟩ ((Value.int .i64 (i79))) rfl TF.agg_3 hl ⟨rfl, rfl⟩)) ?_
       obtain ⟨hT, hF⟩ := hS
       by_cases hb80 : (i78 : Int) ≥ (i79)
       ·have hS := hT hb80; clear hT hF
        refine RunT.quiet rfl rfl rfl (quiet_eq (sem_binI .i64 (i78) (i79) (.bool true) rfl rfl (binI_geq_t hb80) ⟨rfl, rfl⟩)) ?_
        refine RunT.quiet rfl rfl rfl (quiet_eq (sem_pick true ((Value.bool true)) rfl rfl ⟨rfl, rfl⟩)) ?_
        refine RunT.quiet rfl rfl rfl (quiet_eq (sem_pick false ((Value.bool true)) rfl rfl ⟨rfl, rfl⟩)) ?_
        refine Run.condT rfl ?_
        refine Run.seq ?_
        refine Run.ops0 (idx := [0, 1, 2]) rfl ?_
        refine Run.go rfl rfl rfl (sem_assign ((Value.int .i64 (0))) rfl ?_)
        refine Run.go rfl rfl rfl (sem_assign ((Value.slice none 0 0)) rfl ?_)
        refine Run.go rfl rfl rfl (sem_assign ((Value.bool false)) rfl ?_)
        refine Run.region_end ?_
        refine Run.ret ⟨.inr rfl, ?_⟩
        exact hS.imp fun h' hq => ⟨(0), none, 0, 0, (false), rfl, hq⟩
       ·have hS := hF hb80; clear hT hF
        refine RunT.quiet rfl rfl rfl (quiet_eq (sem_binI .i64 (i78) (i79) (.bool false) rfl rfl (binI_geq_f hb80) ⟨rfl, rfl⟩)) ?_
        refine RunT.quiet rfl rfl rfl (quiet_eq (sem_pick true ((Value.bool false)) rfl rfl ⟨rfl, rfl⟩)) ?_
        refine RunT.quiet rfl rfl rfl (quiet_eq (sem_pick false ((Value.bool false)) rfl rfl ⟨rfl, rfl⟩)) ?_
        refine Run.condF rfl ?_
        refine Run.skip ?_
        exact Run.of_fin (hS.imp fun h' hS => j34 _ _ ⟨⟨rfl, rfl, rfl, rfl, rfl, trivial⟩, hS⟩)
      ·have hS := hF hb75; clear hT hF
       refine RunT.quiet rfl rfl rfl (quiet_eq (sem_binI .i64 ((n13 : Nat)) (0) (.bool false) rfl rfl (binI_gtr_f hb75) ⟨rfl, rfl⟩)) ?_
       refine RunT.quiet rfl rfl rfl (quiet_eq (sem_move ((Value.bool false)) rfl ⟨rfl, rfl⟩)) ?_
       refine RunT.skip rfl rfl rfl ?_
       refine RunT.skip rfl rfl rfl ?_
       refine RunT.skip rfl rfl rfl ?_
       refine RunT.skip rfl rfl rfl ?_
       refine RunT.skip rfl rfl rfl ?_
       refine RunT.skip rfl rfl rfl ?_
       refine RunT.skip rfl rfl rfl ?_
       refine RunT.skip rfl rfl rfl ?_
       refine RunT.skip rfl rfl rfl ?_
       refine RunT.skip rfl rfl rfl ?_
       refine RunT.quiet rfl rfl rfl (quiet_eq (sem_pick false ((Value.bool false)) rfl rfl ⟨rfl, rfl⟩)) ?_
       refine RunT.quiet rfl rfl rfl (quiet_eq (sem_pick false ((Value.bool false)) rfl rfl ⟨rfl, rfl⟩)) ?_
       refine Run.condF rfl ?_
       refine Run.skip ?_
       exact Run.of_fin (hS.imp fun h' hS => j34 _ _ ⟨⟨rfl, rfl, rfl, rfl, rfl, trivial⟩, hS⟩)
    refine Run.seq ?_
    refine Run.ops0 (idx := [0]) rfl ?_
    refine Run.go rfl rfl rfl (sem_move ((Value.bool false)) rfl ?_)
    refine Run.region_end ?_
    refine Run.condF rfl ?_
    refine Run.skip ?_
    exact Run.of_fin (hS.imp fun h' hS => j29 _ _ ⟨s26, (false), (0), ⟨rfl, rfl, rfl, rfl, rfl, rfl, trivial⟩, hS⟩)
   ·have hS := hT rfl; clear hT hF
    refine Run.go rfl rfl rfl (sem_extract #[(Value.int .i64 (i25)), (Value.string s26), (Value.bool true)] (.bool true) rfl rfl ?_)
    refine Run.go rfl rfl rfl (sem_fieldAddr ⟨k21, 0, none⟩ 0 rfl TF.fld_122_0 ?_)
    obtain ⟨h81, hst, hS⟩ := hS
    refine Run.go rfl rfl rfl (sem_store1 ⟨k21, 0, none⟩ ((Value.int .i64 (i25))) h81 rfl rfl rfl TF.sz_3 hst ?_)
    refine Run.go rfl rfl rfl (sem_assign ((Value.string s26)) rfl ?_)
    refine Run.go rfl rfl rfl (sem_assign ((Value.bool true)) rfl ?_)
    refine Run.region_end ?_
    refine Run.seqJ (fun e h86 => ∃ s83 : ByteArray, ∃ b84 : Bool, ∃ i85 : Int, Agree [(0, (Value.string s83)), (5, (Value.int .i64 (i8))), (6, (Value.bool b84)), (7, (Value.slice a12 n13 c14)), (8, (Value.pointer (some ⟨k21, 0, none⟩))), (9, (Value.int .i64 (i85)))] e ∧ S_countermandref18_Read_J5 B i8 a12 n13 c14 m16 J19 k21 s83 b84 i85 h86 Q) ?_ fun j82 => ?_
    ·rintro e h86 ⟨s83, b84, i85, hag, hS⟩
     refine Run.env hag ?_; clear hag
     refine Run.seqJ (fun e h88 => Agree [(0, (Value.string s83)), (5, (Value.int .i64 (i8))), (7, (Value.slice a12 n13 c14)), (8, (Value.pointer (some ⟨k21, 0, none⟩))), (9, (Value.int .i64 (i85)))] e ∧ S_countermandref18_Read_J6 B i8 a12 n13 c14 m16 J19 k21 s83 i85 h88 Q) ?_ fun j87 => ?_
     ·rintro e h88 ⟨hag, hS⟩
      refine Run.env hag ?_; clear hag
      refine Run.seq ?_
      refine Run.seq ?_
      refine Run.ops0 (idx := [0, 1]) rfl ?_
      refine Run.go rfl rfl rfl (sem_move ((Value.int .i64 (i85))) rfl ?_)
      obtain ⟨hT, hF⟩ := hS
      by_cases hb89 : (i85 : Int) = 1
      ·have hS := hT hb89; clear hT hF
       refine Run.go rfl rfl rfl (sem_binI .i64 (i85) (1) (.bool true) rfl rfl (binI_eql_t hb89) ?_)
       refine Run.region_end ?_
       refine Run.condT rfl ?_
       refine Run.seq ?_
       refine Run.ops0 (idx := [0]) rfl ?_
       refine Run.go rfl rfl rfl (sem_assign ((Value.int .i64 (0))) rfl ?_)
       refine Run.region_end ?_
       refine Run.seq ?_
       refine Run.ops0 (idx := [0, 1, 2, 3, 4, 5, 6, 7, 8]) rfl ?_
       refine Run.go rfl rfl rfl (sem_move ((Value.string s83)) rfl ?_)
       refine Run.go rfl rfl rfl (sem_callL [(Value.string s83), (Value.int .u64 (32))] (TF.goes_109) rfl rfl (Spec.mono hS fun v h90 hv => ?_))
       obtain ⟨i91, s92, b93, rfl, hS⟩ := hv
       refine Run.go rfl rfl rfl (sem_move ((Value.tuple #[(Value.int .i64 (i91)), (Value.string s92), (Value.bool b93)])) rfl ?_)
       refine Run.go rfl rfl rfl (sem_extract #[(Value.int .i64 (i91)), (Value.string s92), (Value.bool b93)] ((Value.int .i64 (i91))) rfl rfl ?_)
       refine Run.go rfl rfl rfl (sem_extract #[(Value.int .i64 (i91)), (Value.string s92), (Value.bool b93)] ((Value.string s92)) rfl rfl ?_)
       obtain ⟨hT, hF⟩ := hS
       cases b93
       ·have hS := hF rfl; clear hT hF
        refine Run.go rfl rfl rfl (sem_extract #[(Value.int .i64 (i91)), (Value.string s92), (Value.bool false)] (.bool false) rfl rfl ?_)
        refine Run.go rfl rfl rfl (sem_assign ((Value.int .i64 (i91))) rfl ?_)
        refine Run.go rfl rfl rfl (sem_assign ((Value.string s92)) rfl ?_)
        refine Run.go rfl rfl rfl (sem_assign ((Value.bool false)) rfl ?_)
        refine Run.region_end ?_
        refine Run.seqJ (fun e h95 => Agree [(0, (Value.string s92)), (5, (Value.int .i64 (i8))), (7, (Value.slice a12 n13 c14)), (8, (Value.pointer (some ⟨k21, 0, none⟩))), (10, (Value.int .i64 (i91)))] e ∧ S_countermandref18_Read_J7 B i8 a12 n13 c14 m16 J19 k21 i91 s92 h95 Q) ?_ fun j94 => ?_
        ·rintro e h95 ⟨hag, hS⟩
         refine Run.env hag ?_; clear hag
         refine Run.seq ?_
         refine Run.ops0 (idx := [0, 1, 2, 3, 4, 5]) rfl ?_
         refine Run.go rfl rfl rfl (sem_move ((Value.string s92)) rfl ?_)
         refine Run.go rfl rfl rfl (sem_move ((Value.int .i64 (i91))) rfl ?_)
         obtain ⟨hi0, hi1, hi2, hS⟩ := hS
         refine Run.go rfl rfl rfl (sem_sliceStrI s92 (0) (i91) rfl TF.isStr_9 rfl ⟨_, rfl⟩ hi0 hi1 hi2 ?_)
         refine Run.go rfl rfl rfl (sem_buildSL [(0, (Value.bool true)), (1, (Value.string (ByteArray.extract s92 (Int.toNat (0)) (Int.toNat (i91)))))] [(Value.bool true), (Value.string (ByteArray.extract s92 (Int.toNat (0)) (Int.toNat (i91))))] TF.zero_114 TF.places_114 rfl rfl ?_)
         refine Run.go rfl rfl rfl (sem_fieldAddr ⟨k21, 0, none⟩ 1 rfl TF.fld_122_1 ?_)
         obtain ⟨h96, hst, hS⟩ := hS
         refine Run.go rfl rfl rfl (sem_storeN ⟨k21, 1, none⟩ [(Value.bool true), (Value.string (ByteArray.extract s92 (Int.toNat (0)) (Int.toNat (i91))))] h96 rfl rfl TF.sz_114 hst ?_)
         refine Run.region_end ?_
         refine Run.ops0 (idx := [0, 1, 2, 3]) rfl ?_
         refine Run.go rfl rfl rfl (sem_move ((Value.string s92)) rfl ?_)
         refine Run.go rfl rfl rfl (sem_move ((Value.int .i64 (i91))) rfl ?_)
         obtain ⟨hi0, hi1, hi2, hS⟩ := hS
         refine Run.go rfl rfl rfl (sem_sliceStrI s92 (i91) ((ByteArray.size s92 : Nat)) rfl TF.isStr_9 ⟨_, rfl⟩ rfl hi0 hi1 hi2 ?_)
         refine Run.go rfl rfl rfl (sem_assign ((Value.string (ByteArray.extract s92 (Int.toNat (i91)) (Int.toNat ((ByteArray.size s92 : Nat)))))) rfl ?_)
         refine Run.region_end ?_
         refine Run.ops0 (idx := [0, 1, 2, 3, 4]) rfl ?_
         refine Run.go rfl rfl rfl (sem_move ((Value.slice a12 n13 c14)) rfl ?_)
         obtain ⟨i97, b98, s99, hl, hS⟩ := hS
         refine Run.go rfl rfl rfl (sem_loadN ⟨k21, 0, none⟩ [(Value.int .i64 (i97)), (Value.bool b98), (Value.string s99)] rfl TF.agg_122 TF.sz_122 hl ?_)
         refine Run.go rfl rfl rfl (sem_buildSliceL [(0, (Value.agg #[(Value.int .i64 (i97)), (Value.bool b98), (Value.string s99)]))] [(Value.int .i64 (i97)), (Value.bool b98), (Value.string s99)] TF.slc_99 TF.zero_122 rfl (by decide) (by decide) rfl rfl (fun k100 hb1 hb2 h101 hb3 => ?_))
         have hS := hS k100 hb1 hb2 h101 hb3
         refine Run.go rfl rfl rfl (sem_appendL [(Value.slice a12 n13 c14), (Value.slice (some ⟨k100, 0, none⟩) 1 1)] rfl (semH_mono (fun v h102 hv => ?_) hS))
         obtain ⟨a103, n104, c105, rfl, hS⟩ := hv
         refine Run.go rfl rfl rfl (sem_assign ((Value.slice a103 n104 c105)) rfl ?_)
         refine Run.region_end ?_
         refine Run.inBlock ?_
         exact Run.of_fin (hS.imp fun h' ⟨m', hm, hS⟩ => ih18 ((ByteArray.extract s92 (Int.toNat (i91)) (Int.toNat ((ByteArray.size s92 : Nat)))), a103, n104, c105, m') _ _ ⟨hS, ⟨rfl, rfl, rfl, trivial⟩⟩ hm)
        refine Run.seq ?_
        refine Run.ops0 (idx := [0, 1, 2, 3, 4, 5, 6, 7]) rfl ?_
        refine Run.go rfl rfl rfl (sem_move ((Value.bool false)) rfl ?_)
        refine Run.go rfl rfl rfl (sem_not false rfl ?_)
        refine Run.go rfl rfl rfl (sem_move ((Value.bool true)) rfl ?_)
        refine Run.no rfl rfl rfl ?_
        refine Run.no rfl rfl rfl ?_
        refine Run.no rfl rfl rfl ?_
        refine Run.no rfl rfl rfl ?_
        refine Run.go rfl rfl rfl (sem_pick true ((Value.bool true)) rfl rfl ?_)
        refine Run.region_end ?_
        refine Run.condT rfl ?_
        refine Run.seq ?_
        refine Run.ops0 (idx := [0, 1, 2]) rfl ?_
        refine Run.go rfl rfl rfl (sem_assign ((Value.int .i64 (0))) rfl ?_)
        refine Run.go rfl rfl rfl (sem_assign ((Value.slice none 0 0)) rfl ?_)
        refine Run.go rfl rfl rfl (sem_assign ((Value.bool false)) rfl ?_)
        refine Run.region_end ?_
        refine Run.ret ⟨.inr rfl, ?_⟩
        exact hS.imp fun h' hq => ⟨(0), none, 0, 0, (false), rfl, hq⟩
       ·have hS := hT rfl; clear hT hF
        refine Run.go rfl rfl rfl (sem_extract #[(Value.int .i64 (i91)), (Value.string s92), (Value.bool true)] (.bool true) rfl rfl ?_)
        refine Run.go rfl rfl rfl (sem_assign ((Value.int .i64 (i91))) rfl ?_)
        refine Run.go rfl rfl rfl (sem_assign ((Value.string s92)) rfl ?_)
        refine Run.go rfl rfl rfl (sem_assign ((Value.bool true)) rfl ?_)
        refine Run.region_end ?_
        refine Run.seqJ (fun e h107 => Agree [(0, (Value.string s92)), (5, (Value.int .i64 (i8))), (7, (Value.slice a12 n13 c14)), (8, (Value.pointer (some ⟨k21, 0, none⟩))), (10, (Value.int .i64 (i91)))] e ∧ S_countermandref18_Read_J8 B i8 a12 n13 c14 m16 J19 k21 i91 s92 h107 Q) ?_ fun j106 => ?_
        ·rintro e h107 ⟨hag, hS⟩
         refine Run.env hag ?_; clear hag
         refine Run.seq ?_
         refine Run.ops0 (idx := [0, 1, 2, 3, 4, 5]) rfl ?_
         refine Run.go rfl rfl rfl (sem_move ((Value.string s92)) rfl ?_)
         refine Run.go rfl rfl rfl (sem_move ((Value.int .i64 (i91))) rfl ?_)
         obtain ⟨hi0, hi1, hi2, hS⟩ := hS
         refine Run.go rfl rfl rfl (sem_sliceStrI s92 (0) (i91) rfl TF.isStr_9 rfl ⟨_, rfl⟩ hi0 hi1 hi2 ?_)
         refine Run.go rfl rfl rfl (sem_buildSL [(0, (Value.bool true)), (1, (Value.string (ByteArray.extract s92 (Int.toNat (0)) (Int.toNat (i91)))))] [(Value.bool true), (Value.string (ByteArray.extract s92 (Int.toNat (0)) (Int.toNat (i91))))] TF.zero_114 TF.places_114 rfl rfl ?_)
         refine Run.go rfl rfl rfl (sem_fieldAddr ⟨k21, 0, none⟩ 1 rfl TF.fld_122_1 ?_)
         obtain ⟨h108, hst, hS⟩ := hS
         refine Run.go rfl rfl rfl (sem_storeN ⟨k21, 1, none⟩ [(Value.bool true), (Value.string (ByteArray.extract s92 (Int.toNat (0)) (Int.toNat (i91))))] h108 rfl rfl TF.sz_114 hst ?_)
         refine Run.region_end ?_
         refine Run.ops0 (idx := [0, 1, 2, 3]) rfl ?_
         refine Run.go rfl rfl rfl (sem_move ((Value.string s92)) rfl ?_)
         refine Run.go rfl rfl rfl (sem_move ((Value.int .i64 (i91))) rfl ?_)
         obtain ⟨hi0, hi1, hi2, hS⟩ := hS
         refine Run.go rfl rfl rfl (sem_sliceStrI s92 (i91) ((ByteArray.size s92 : Nat)) rfl TF.isStr_9 ⟨_, rfl⟩ rfl hi0 hi1 hi2 ?_)
         refine Run.go rfl rfl rfl (sem_assign ((Value.string (ByteArray.extract s92 (Int.toNat (i91)) (Int.toNat ((ByteArray.size s92 : Nat)))))) rfl ?_)
         refine Run.region_end ?_
         refine Run.ops0 (idx := [0, 1, 2, 3, 4]) rfl ?_
         refine Run.go rfl rfl rfl (sem_move ((Value.slice a12 n13 c14)) rfl ?_)
         obtain ⟨i109, b110, s111, hl, hS⟩ := hS
         refine Run.go rfl rfl rfl (sem_loadN ⟨k21, 0, none⟩ [(Value.int .i64 (i109)), (Value.bool b110), (Value.string s111)] rfl TF.agg_122 TF.sz_122 hl ?_)
         refine Run.go rfl rfl rfl (sem_buildSliceL [(0, (Value.agg #[(Value.int .i64 (i109)), (Value.bool b110), (Value.string s111)]))] [(Value.int .i64 (i109)), (Value.bool b110), (Value.string s111)] TF.slc_99 TF.zero_122 rfl (by decide) (by decide) rfl rfl (fun k112 hb1 hb2 h113 hb3 => ?_))
         have hS := hS k112 hb1 hb2 h113 hb3
         refine Run.go rfl rfl rfl (sem_appendL [(Value.slice a12 n13 c14), (Value.slice (some ⟨k112, 0, none⟩) 1 1)] rfl (semH_mono (fun v h114 hv => ?_) hS))
         obtain ⟨a115, n116, c117, rfl, hS⟩ := hv
         refine Run.go rfl rfl rfl (sem_assign ((Value.slice a115 n116 c117)) rfl ?_)
         refine Run.region_end ?_
         refine Run.inBlock ?_
         exact Run.of_fin (hS.imp fun h' ⟨m', hm, hS⟩ => ih18 ((ByteArray.extract s92 (Int.toNat (i91)) (Int.toNat ((ByteArray.size s92 : Nat)))), a115, n116, c117, m') _ _ ⟨hS, ⟨rfl, rfl, rfl, trivial⟩⟩ hm)
        refine Run.seq ?_
        refine Run.ops0 (idx := [0, 1, 2, 3, 4, 5, 6, 7]) rfl ?_
        refine Run.go rfl rfl rfl (sem_move ((Value.bool true)) rfl ?_)
        refine Run.go rfl rfl rfl (sem_not true rfl ?_)
        refine Run.go rfl rfl rfl (sem_move ((Value.bool false)) rfl ?_)
        refine Run.go rfl rfl rfl (sem_move ((Value.int .i64 (i91))) rfl ?_)
        refine Run.go rfl rfl rfl (sem_move ((Value.string s92)) rfl ?_)
        refine Run.go rfl rfl rfl (sem_lenStr s92 rfl TF.isStr_9 ?_)
        obtain ⟨hT, hF⟩ := hS
        by_cases hb118 : (i91 : Int) > ((ByteArray.size s92 : Nat))
        ·have hS := hT hb118; clear hT hF
         refine Run.go rfl rfl rfl (sem_binI .i64 (i91) ((ByteArray.size s92 : Nat)) (.bool true) rfl rfl (binI_gtr_t hb118) ?_)
         refine Run.go rfl rfl rfl (sem_pick false ((Value.bool true)) rfl rfl ?_)
         refine Run.region_end ?_
         refine Run.condT rfl ?_
         refine Run.seq ?_
         refine Run.ops0 (idx := [0, 1, 2]) rfl ?_
         refine Run.go rfl rfl rfl (sem_assign ((Value.int .i64 (0))) rfl ?_)
         refine Run.go rfl rfl rfl (sem_assign ((Value.slice none 0 0)) rfl ?_)
         refine Run.go rfl rfl rfl (sem_assign ((Value.bool false)) rfl ?_)
         refine Run.region_end ?_
         refine Run.ret ⟨.inr rfl, ?_⟩
         exact hS.imp fun h' hq => ⟨(0), none, 0, 0, (false), rfl, hq⟩
        ·have hS := hF hb118; clear hT hF
         refine Run.go rfl rfl rfl (sem_binI .i64 (i91) ((ByteArray.size s92 : Nat)) (.bool false) rfl rfl (binI_gtr_f hb118) ?_)
         refine Run.go rfl rfl rfl (sem_pick false ((Value.bool false)) rfl rfl ?_)
         refine Run.region_end ?_
         refine Run.condF rfl ?_
         refine Run.skip ?_
         exact Run.of_fin (hS.imp fun h' hS => j106 _ _ ⟨⟨rfl, rfl, rfl, rfl, rfl, trivial⟩, hS⟩)
      ·have hS := hF hb89; clear hT hF
       refine Run.go rfl rfl rfl (sem_binI .i64 (i85) (1) (.bool false) rfl rfl (binI_eql_f hb89) ?_)
       refine Run.region_end ?_
       refine Run.condF rfl ?_
       refine Run.skip ?_
       refine Run.ops0 (idx := [0, 1, 2, 3, 4]) rfl ?_
       refine Run.go rfl rfl rfl (sem_move ((Value.slice a12 n13 c14)) rfl ?_)
       obtain ⟨i119, b120, s121, hl, hS⟩ := hS
       refine Run.go rfl rfl rfl (sem_loadN ⟨k21, 0, none⟩ [(Value.int .i64 (i119)), (Value.bool b120), (Value.string s121)] rfl TF.agg_122 TF.sz_122 hl ?_)
       refine Run.go rfl rfl rfl (sem_buildSliceL [(0, (Value.agg #[(Value.int .i64 (i119)), (Value.bool b120), (Value.string s121)]))] [(Value.int .i64 (i119)), (Value.bool b120), (Value.string s121)] TF.slc_99 TF.zero_122 rfl (by decide) (by decide) rfl rfl (fun k122 hb1 hb2 h123 hb3 => ?_))
       have hS := hS k122 hb1 hb2 h123 hb3
       refine Run.go rfl rfl rfl (sem_appendL [(Value.slice a12 n13 c14), (Value.slice (some ⟨k122, 0, none⟩) 1 1)] rfl (semH_mono (fun v h124 hv => ?_) hS))
       obtain ⟨a125, n126, c127, rfl, hS⟩ := hv
       refine Run.go rfl rfl rfl (sem_assign ((Value.slice a125 n126 c127)) rfl ?_)
       refine Run.region_end ?_
       refine Run.inBlock ?_
       exact Run.of_fin (hS.imp fun h' ⟨m', hm, hS⟩ => ih18 (s83, a125, n126, c127, m') _ _ ⟨hS, ⟨rfl, rfl, rfl, trivial⟩⟩ hm)
     refine Run.seq ?_
     refine Run.drawM (fun h' => h' = h86) [] ⟨[0, 1, 2, 4, 12, 20, 36, 64, 64, 320, 576, 1216, 2112, 4160, 64, 16448, 41024, 65604, 131076], [524287, 524286, 524285, 524283, 524275, 524267, 524251, 524223, 524223, 523967, 523711, 523071, 522175, 520127, 524223, 507839, 483263, 458683, 393211], [0, 0, 0, 0, 0, 0, 0, 0, 0, 0, 0, 0, 0, 0, 0, 0, 0, 0, 0], 0⟩ (.q 0 (.q 1 (.q 2 (.q 3 (.q 4 (.q 5 (.q 6 (.q 7 (.q 8 (.q 9 (.q 10 (.q 11 (.q 12 (.q 13 (.q 14 (.q 15 (.q 16 (.q 17 (.q 18 .nil))))))))))))))))))) TF.mixed (by kernel_rfl) rfl ?_
     obtain ⟨hT, hF⟩ := hS
     cases b84
     ·have hS := hF rfl; clear hT hF
      refine RunT.quiet rfl rfl rfl (quiet_eq (sem_move (.bool false) rfl ⟨rfl, rfl⟩)) ?_
      refine RunT.quiet rfl rfl rfl (quiet_eq (sem_not false rfl ⟨rfl, rfl⟩)) ?_
      refine RunT.quiet rfl rfl rfl (quiet_eq (sem_move ((Value.bool true)) rfl ⟨rfl, rfl⟩)) ?_
      refine RunT.skip rfl rfl rfl ?_
      refine RunT.skip rfl rfl rfl ?_
      refine RunT.skip rfl rfl rfl ?_
      refine RunT.skip rfl rfl rfl ?_
      refine RunT.skip rfl rfl rfl ?_
      refine RunT.skip rfl rfl rfl ?_
      refine RunT.skip rfl rfl rfl ?_
      refine RunT.skip rfl rfl rfl ?_
      refine RunT.skip rfl rfl rfl ?_
      refine RunT.skip rfl rfl rfl ?_
      refine RunT.skip rfl rfl rfl ?_
      refine RunT.skip rfl rfl rfl ?_
      refine RunT.skip rfl rfl rfl ?_
      refine RunT.skip rfl rfl rfl ?_
      refine RunT.skip rfl rfl rfl ?_
      refine RunT.quiet rfl rfl rfl (quiet_eq (sem_pick true ((Value.bool true)) rfl rfl ⟨rfl, rfl⟩)) ?_
      refine Run.condT rfl ?_
      refine Run.seq ?_
      refine Run.ops0 (idx := [0, 1, 2]) rfl ?_
      refine Run.go rfl rfl rfl (sem_assign ((Value.int .i64 (0))) rfl ?_)
      refine Run.go rfl rfl rfl (sem_assign ((Value.slice none 0 0)) rfl ?_)
      refine Run.go rfl rfl rfl (sem_assign ((Value.bool false)) rfl ?_)
      refine Run.region_end ?_
      refine Run.ret ⟨.inr rfl, ?_⟩
      exact hS.imp fun h' hq => ⟨(0), none, 0, 0, (false), rfl, hq⟩
     ·have hS := hT rfl; clear hT hF
      refine RunT.quiet rfl rfl rfl (quiet_eq (sem_move (.bool true) rfl ⟨rfl, rfl⟩)) ?_
      refine RunT.quiet rfl rfl rfl (quiet_eq (sem_not true rfl ⟨rfl, rfl⟩)) ?_
      refine RunT.quiet rfl rfl rfl (quiet_eq (sem_move ((Value.bool false)) rfl ⟨rfl, rfl⟩)) ?_
      refine RunT.quiet rfl rfl rfl (quiet_eq (sem_move ((Value.slice a12 n13 c14)) rfl ⟨rfl, rfl⟩)) ?_
      refine RunT.quiet rfl rfl rfl (quiet_eq (sem_lenSl a12 n13 c14 rfl TF.sl_99 ⟨rfl, rfl⟩)) ?_
      obtain ⟨hT, hF⟩ := hS
      by_cases hb128 : ((n13 : Nat) : Int) > (0)
      ·have hS := hT hb128; clear hT hF
       refine RunT.quiet rfl rfl rfl (quiet_eq (sem_binI .i64 ((n13 : Nat)) (0) (.bool true) rfl rfl (binI_gtr_t hb128) ⟨rfl, rfl⟩)) ?_
       refine RunT.quiet rfl rfl rfl (quiet_eq (sem_move ((Value.bool true)) rfl ⟨rfl, rfl⟩)) ?_
       refine RunT.quiet rfl rfl rfl (quiet_eq (sem_move ((Value.slice a12 n13 c14)) rfl ⟨rfl, rfl⟩)) ?_
       refine RunT.quiet rfl rfl rfl (quiet_eq (sem_move ((Value.slice a12 n13 c14)) rfl ⟨rfl, rfl⟩)) ?_
       refine RunT.quiet rfl rfl rfl (quiet_eq (sem_lenSl a12 n13 c14 rfl TF.sl_99 ⟨rfl, rfl⟩)) ?_
       refine RunT.quiet rfl rfl rfl (quiet_eq (sem_binI .i64 ((n13 : Nat)) (1) ((Value.int .i64 (IntKind.wrap .i64 (((n13 : Nat)) - (1))))) rfl rfl rfl ⟨rfl, rfl⟩)) ?_
       obtain ⟨A129, e130, hi0, hi1, hS⟩ := hS
       refine RunT.quiet rfl rfl rfl (quiet_eq (sem_indexAddrS A129 n13 c14 .i64 (IntKind.wrap .i64 (((n13 : Nat)) - (1))) (congrArg (fun a => Value.slice a n13 c14) e130) rfl TF.slc_99 hi0 hi1 ⟨rfl, rfl⟩)) ?_
       refine RunT.quiet rfl rfl rfl (quiet_eq (sem_fieldAddr (Addr.add A129 (Int.toNat (IntKind.wrap .i64 (((n13 : Nat)) - (1))) * 3)) 0 rfl TF.fld_122_0 ⟨rfl, rfl⟩)) ?_
       obtain ⟨i131, hl, hS⟩ := hS
       refine RunT.quiet rfl rfl rfl (quiet_eq (sem_load1 (Addr.add A129 (Int.toNat (IntKind.wrap .i64 (((n13 : Nat)) - (1))) * 3)) ((Value.int .i64 (i131))) rfl TF.agg_3 hl ⟨rfl, rfl⟩)) ?_
       refine RunT.quiet rfl rfl rfl (quiet_eq (sem_fieldAddr ⟨k21, 0, none⟩ 0 rfl TF.fld_122_0 ⟨rfl, rfl⟩)) ?_
       obtain ⟨i132, hl, hS⟩ := hS
       refine RunT.quiet rfl rfl rfl (quiet_eq (sem_load1 ⟨k21, 0, none⟩ ((Value.int .i64 (i132))) rfl TF.agg_3 hl ⟨rfl, rfl⟩)) ?_
       obtain ⟨hT, hF⟩ := hS
       by_cases hb133 : (i131 : Int) ≥ (i132)
       ·have hS := hT hb133; clear hT hF
        refine RunT.quiet rfl rfl rfl (quiet_eq (sem_binI .i64 (i131) (i132) (.bool true) rfl rfl (binI_geq_t hb133) ⟨rfl, rfl⟩)) ?_
        refine RunT.quiet rfl rfl rfl (quiet_eq (sem_pick true ((Value.bool true)) rfl rfl ⟨rfl, rfl⟩)) ?_
        refine RunT.quiet rfl rfl rfl (quiet_eq (sem_pick false ((Value.bool true)) rfl rfl ⟨rfl, rfl⟩)) ?_
        refine Run.condT rfl ?_
        refine Run.seq ?_
        refine Run.ops0 (idx := [0, 1, 2]) rfl ?_
        refine Run.go rfl rfl rfl (sem_assign ((Value.int .i64 (0))) rfl ?_)
        refine Run.go rfl rfl rfl (sem_assign ((Value.slice none 0 0)) rfl ?_)
        refine Run.go rfl rfl rfl (sem_assign ((Value.bool false)) rfl ?_)
        refine Run.region_end ?_
        refine Run.ret ⟨.inr rfl, ?_⟩
        exact hS.imp fun h' hq => ⟨(0), none, 0, 0, (false), rfl, hq⟩
       ·have hS := hF hb133; clear hT hF
        refine RunT.quiet rfl rfl rfl (quiet_eq (sem_binI .i64 (i131) (i132) (.bool false) rfl rfl (binI_geq_f hb133) ⟨rfl, rfl⟩)) ?_
        refine RunT.quiet rfl rfl rfl (quiet_eq (sem_pick true ((Value.bool false)) rfl rfl ⟨rfl, rfl⟩)) ?_
        refine RunT.quiet rfl rfl rfl (quiet_eq (sem_pick false ((Value.bool false)) rfl rfl ⟨rfl, rfl⟩)) ?_
        refine Run.condF rfl ?_
        refine Run.skip ?_
        exact Run.of_fin (hS.imp fun h' hS => j87 _ _ ⟨⟨rfl, rfl, rfl, rfl, rfl, trivial⟩, hS⟩)
      ·have hS := hF hb128; clear hT hF
       refine RunT.quiet rfl rfl rfl (quiet_eq (sem_binI .i64 ((n13 : Nat)) (0) (.bool false) rfl rfl (binI_gtr_f hb128) ⟨rfl, rfl⟩)) ?_
       refine RunT.quiet rfl rfl rfl (quiet_eq (sem_move ((Value.bool false)) rfl ⟨rfl, rfl⟩)) ?_
       refine RunT.skip rfl rfl rfl ?_
       refine RunT.skip rfl rfl rfl ?_
       refine RunT.skip rfl rfl rfl ?_
       refine RunT.skip rfl rfl rfl ?_
       refine RunT.skip rfl rfl rfl ?_
       refine RunT.skip rfl rfl rfl ?_
       refine RunT.skip rfl rfl rfl ?_
       refine RunT.skip rfl rfl rfl ?_
       refine RunT.skip rfl rfl rfl ?_
       refine RunT.skip rfl rfl rfl ?_
       refine RunT.quiet rfl rfl rfl (quiet_eq (sem_pick false ((Value.bool false)) rfl rfl ⟨rfl, rfl⟩)) ?_
       refine RunT.quiet rfl rfl rfl (quiet_eq (sem_pick false ((Value.bool false)) rfl rfl ⟨rfl, rfl⟩)) ?_
       refine Run.condF rfl ?_
       refine Run.skip ?_
       exact Run.of_fin (hS.imp fun h' hS => j87 _ _ ⟨⟨rfl, rfl, rfl, rfl, rfl, trivial⟩, hS⟩)
    refine Run.seq ?_
    refine Run.ops0 (idx := [0]) rfl ?_
    refine Run.go rfl rfl rfl (sem_move ((Value.bool true)) rfl ?_)
    refine Run.region_end ?_
    refine Run.condT rfl ?_
    refine Run.ops0 (idx := [0, 1, 2, 3, 4, 5, 6, 7, 8]) rfl ?_
    refine Run.go rfl rfl rfl (sem_move ((Value.string s26)) rfl ?_)
    refine Run.go rfl rfl rfl (sem_callL [(Value.string s26), (Value.int .u64 (1))] (TF.goes_109) rfl rfl (Spec.mono hS fun v h134 hv => ?_))
    obtain ⟨i135, s136, b137, rfl, hS⟩ := hv
    refine Run.go rfl rfl rfl (sem_move ((Value.tuple #[(Value.int .i64 (i135)), (Value.string s136), (Value.bool b137)])) rfl ?_)
    refine Run.go rfl rfl rfl (sem_extract #[(Value.int .i64 (i135)), (Value.string s136), (Value.bool b137)] ((Value.int .i64 (i135))) rfl rfl ?_)
    refine Run.go rfl rfl rfl (sem_extract #[(Value.int .i64 (i135)), (Value.string s136), (Value.bool b137)] ((Value.string s136)) rfl rfl ?_)
    obtain ⟨hT, hF⟩ := hS
    cases b137
    ·have hS := hF rfl; clear hT hF
     refine Run.go rfl rfl rfl (sem_extract #[(Value.int .i64 (i135)), (Value.string s136), (Value.bool false)] (.bool false) rfl rfl ?_)
     refine Run.go rfl rfl rfl (sem_assign ((Value.int .i64 (i135))) rfl ?_)
     refine Run.go rfl rfl rfl (sem_assign ((Value.string s136)) rfl ?_)
     refine Run.go rfl rfl rfl (sem_assign ((Value.bool false)) rfl ?_)
     refine Run.region_end ?_
     exact Run.of_fin (hS.imp fun h' hS => j82 _ _ ⟨s136, (false), (i135), ⟨rfl, rfl, rfl, rfl, rfl, rfl, trivial⟩, hS⟩)
    ·have hS := hT rfl; clear hT hF
     refine Run.go rfl rfl rfl (sem_extract #[(Value.int .i64 (i135)), (Value.string s136), (Value.bool true)] (.bool true) rfl rfl ?_)
     refine Run.go rfl rfl rfl (sem_assign ((Value.int .i64 (i135))) rfl ?_)
     refine Run.go rfl rfl rfl (sem_assign ((Value.string s136)) rfl ?_)
     refine Run.go rfl rfl rfl (sem_assign ((Value.bool true)) rfl ?_)
     refine Run.region_end ?_
     exact Run.of_fin (hS.imp fun h' hS => j82 _ _ ⟨s136, (true), (i135), ⟨rfl, rfl, rfl, rfl, rfl, rfl, trivial⟩, hS⟩)
  ·have hS := hF hb20; clear hT hF
   refine Run.go rfl rfl rfl (sem_binI .i64 ((ByteArray.size s11 : Nat)) (0) (.bool false) rfl rfl (binI_gtr_f hb20) ?_)
   refine Run.region_end ?_
   refine Run.condF rfl ?_
   refine Run.exit rfl ?_
   refine Run.seq ?_
   refine Run.ops0 (idx := [0, 1, 2, 3, 4]) rfl ?_
   refine Run.go rfl rfl rfl (sem_move ((Value.int .i64 (i8))) rfl ?_)
   refine Run.go rfl rfl rfl (sem_move ((Value.slice a12 n13 c14)) rfl ?_)
   refine Run.go rfl rfl rfl (sem_assign ((Value.int .i64 (i8))) rfl ?_)
   refine Run.go rfl rfl rfl (sem_assign ((Value.slice a12 n13 c14)) rfl ?_)
   refine Run.go rfl rfl rfl (sem_assign ((Value.bool true)) rfl ?_)
   refine Run.region_end ?_
   refine Run.ret ⟨.inr rfl, ?_⟩
   exact hS.imp fun h' hq => ⟨(i8), a12, n13, c14, (true), rfl, hq⟩
set_option maxHeartbeats 4000000 in
theorem C_countermandlaw18_same.of {B : RO} {a1 : Option Addr} {n2 : Nat} {c3 : Nat} {a4 : Option Addr} {n5 : Nat} {c6 : Nat} {h : Heap} {Q : Bool → Heap → Prop} (hS : S_countermandlaw18_same B a1 n2 c3 a4 n5 c6 h Q) : C_countermandlaw18_same B a1 n2 c3 a4 n5 c6 h Q := by
 unfold S_countermandlaw18_same at hS
 unfold C_countermandlaw18_same
 refine Spec.of_run Try.func63 (N := 38) (rs := [ResultVar.tmp 4]) rfl rfl rfl (Nat.le_of_ble_eq_true rfl) ?_
 refine Run.seq ?_
 refine Run.ops0 (idx := [0]) rfl ?_
 refine Run.go rfl rfl rfl (sem_assign ((Value.bool false)) rfl ?_)
 refine Run.region_end ?_
 refine Run.seq ?_
 refine Run.seq ?_
 refine Run.ops0 (idx := [0, 1, 2, 3, 4]) rfl ?_
 refine Run.go rfl rfl rfl (sem_move ((Value.slice a1 n2 c3)) rfl ?_)
 refine Run.go rfl rfl rfl (sem_lenSl a1 n2 c3 rfl TF.sl_96 ?_)
 refine Run.go rfl rfl rfl (sem_move ((Value.slice a4 n5 c6)) rfl ?_)
 refine Run.go rfl rfl rfl (sem_lenSl a4 n5 c6 rfl TF.sl_99 ?_)
 obtain ⟨hT, hF⟩ := hS
 by_cases hb8 : ((n2 : Nat) : Int) = (n5 : Nat)
 ·have hS := hT hb8; clear hT hF
  refine Run.go rfl rfl rfl (sem_binI .i64 ((n2 : Nat)) ((n5 : Nat)) (.bool false) rfl rfl (binI_neq_t hb8) ?_)
  refine Run.region_end ?_
  refine Run.condF rfl ?_
  refine Run.skip ?_
  refine Run.seq ?_
  refine Run.seq ?_
  refine Run.ops0 (idx := [0, 1, 2]) rfl ?_
  refine Run.go rfl rfl rfl (sem_move ((Value.slice a1 n2 c3)) rfl ?_)
  refine Run.go rfl rfl rfl (sem_lenSl a1 n2 c3 rfl TF.sl_96 ?_)
  refine Run.go rfl rfl rfl (sem_move ((Value.int .i64 (0))) rfl ?_)
  refine Run.region_end ?_
  refine Run.block ?_
  obtain ⟨J14, m12, h0, hS⟩ := hS
  refine Run.of_fin (h0.imp fun h' h0 => ?_)
  refine Run.loop (σ := Int × Nat) (fun x e h => J14 x.1 x.2 h ∧ Agree [(1, (Value.slice a4 n5 c6)), (12, (Value.slice a1 n2 c3)), (13, (Value.int .i64 ((n2 : Nat)))), (14, (Value.int .i64 (x.1)))] e) (fun x => x.2) ((0), m12) ⟨h0, ⟨rfl, rfl, rfl, rfl, trivial⟩⟩ ?_; clear h0
  rintro ⟨i9, m11⟩ e h10 ⟨hJ, hag⟩ ih13
  have hS := hS i9 m11 h10 hJ; clear hJ
  refine Run.env hag ?_; clear hag
  refine Run.seq ?_
  refine Run.ops0 (idx := [0]) rfl ?_
  obtain ⟨hT, hF⟩ := hS
  by_cases hb15 : (i9 : Int) < ((n2 : Nat))
  ·have hS := hT hb15; clear hT hF
   refine Run.go rfl rfl rfl (sem_binI .i64 (i9) ((n2 : Nat)) (.bool true) rfl rfl (binI_lss_t hb15) ?_)
   refine Run.region_end ?_
   refine Run.seq ?_
   refine Run.condT rfl ?_
   refine Run.skip ?_
   refine Run.seq ?_
   refine Run.block ?_
   refine Run.seq ?_
   refine Run.ops0 (idx := [0, 1, 2, 3, 4, 5]) rfl ?_
   refine Run.go rfl rfl rfl (sem_move ((Value.int .i64 (i9))) rfl ?_)
   obtain ⟨A16, e17, hi0, hi1, hS⟩ := hS
   refine Run.go rfl rfl rfl (sem_indexAddrS A16 n2 c3 .i64 (i9) (congrArg (fun a => Value.slice a n2 c3) e17) rfl TF.slc_96 hi0 hi1 ?_)
   obtain ⟨i18, b19, s20, hl, hS⟩ := hS
   refine Run.go rfl rfl rfl (sem_loadN (Addr.add A16 (Int.toNat (i9) * 3)) [(Value.int .i64 (i18)), (Value.bool b19), (Value.string s20)] rfl TF.agg_199 TF.sz_199 hl ?_)
   refine Run.go rfl rfl rfl (sem_allocN [(Value.int .i64 (0)), (Value.bool false), (Value.string ByteArray.empty)] TF.zero_199 (fun k21 hb1 hb2 h22 hb3 => ?_))
   have hS := hS k21 hb1 hb2 h22 hb3
   refine Run.go rfl rfl rfl (sem_assign ((Value.int .i64 (i9))) rfl ?_)
   obtain ⟨h23, hst, hS⟩ := hS
   refine Run.go rfl rfl rfl (sem_storeN ⟨k21, 0, none⟩ [(Value.int .i64 (i18)), (Value.bool b19), (Value.string s20)] h23 rfl rfl TF.sz_199 hst ?_)
   refine Run.region_end ?_
   refine Run.seq ?_
   refine Run.drawM (fun h' => h' = h23) [] ⟨[0, 1, 0, 0, 12, 16, 32, 66, 128, 256, 768, 256, 256, 6400, 8448, 16640, 34048, 65792], [262143, 262142, 262143, 262143, 262131, 262127, 262111, 262077, 262015, 261887, 261375, 261887, 261887, 255743, 253695, 245503, 228095, 196351], [0, 0, 0, 0, 0, 0, 0, 0, 0, 0, 0, 0, 0, 0, 0, 0, 0, 0], 0⟩ (.q 0 (.q 1 (.q 2 (.q 3 (.q 4 (.q 5 (.q 6 (.q 7 (.q 8 (.q 9 (.q 10 (.q 11 (.q 12 (.q 13 (.q 14 (.q 15 (.q 16 (.q 17 .nil)))))))))))))))))) TF.mixed (by kernel_rfl) rfl ?_
   refine RunT.quiet rfl rfl rfl (quiet_eq (sem_fieldAddr ⟨k21, 0, none⟩ 0 rfl TF.fld_199_0 ⟨rfl, rfl⟩)) ?_
   obtain ⟨i24, hl, hS⟩ := hS
   refine RunT.quiet rfl rfl rfl (quiet_eq (sem_load1 ⟨k21, 0, none⟩ ((Value.int .i64 (i24))) rfl TF.agg_3 hl ⟨rfl, rfl⟩)) ?_
   refine RunT.quiet rfl rfl rfl (quiet_eq (sem_move ((Value.slice a4 n5 c6)) rfl ⟨rfl, rfl⟩)) ?_
   refine RunT.quiet rfl rfl rfl (quiet_eq (sem_move ((Value.int .i64 (i9))) rfl ⟨rfl, rfl⟩)) ?_
   obtain ⟨A25, e26, hi0, hi1, hS⟩ := hS
   refine RunT.quiet rfl rfl rfl (quiet_eq (sem_indexAddrS A25 n5 c6 .i64 (i9) (congrArg (fun a => Value.slice a n5 c6) e26) rfl TF.slc_99 hi0 hi1 ⟨rfl, rfl⟩)) ?_
   refine RunT.quiet rfl rfl rfl (quiet_eq (sem_fieldAddr (Addr.add A25 (Int.toNat (i9) * 3)) 0 rfl TF.fld_122_0 ⟨rfl, rfl⟩)) ?_
   obtain ⟨i27, hl, hS⟩ := hS
   refine RunT.quiet rfl rfl rfl (quiet_eq (sem_load1 (Addr.add A25 (Int.toNat (i9) * 3)) ((Value.int .i64 (i27))) rfl TF.agg_3 hl ⟨rfl, rfl⟩)) ?_
   obtain ⟨hT, hF⟩ := hS
   by_cases hb28 : (i24 : Int) = i27
   ·have hS := hT hb28; clear hT hF
    refine RunT.quiet rfl rfl rfl (quiet_eq (sem_binI .i64 (i24) (i27) (.bool false) rfl rfl (binI_neq_t hb28) ⟨rfl, rfl⟩)) ?_
    refine RunT.quiet rfl rfl rfl (quiet_eq (sem_move ((Value.bool false)) rfl ⟨rfl, rfl⟩)) ?_
    refine RunT.quiet rfl rfl rfl (quiet_eq (sem_fieldAddr ⟨k21, 0, none⟩ 1 rfl TF.fld_199_1 ⟨rfl, rfl⟩)) ?_
    obtain ⟨b29, s30, hl, hS⟩ := hS
    refine RunT.quiet rfl rfl rfl (quiet_eq (sem_loadN ⟨k21, 1, none⟩ [(Value.bool b29), (Value.string s30)] rfl TF.agg_111 TF.sz_111 hl ⟨rfl, rfl⟩)) ?_
    refine RunT.quiet rfl rfl rfl (quiet_eq (sem_move ((Value.slice a4 n5 c6)) rfl ⟨rfl, rfl⟩)) ?_
    refine RunT.quiet rfl rfl rfl (quiet_eq (sem_move ((Value.int .i64 (i9))) rfl ⟨rfl, rfl⟩)) ?_
    obtain ⟨A31, e32, hi0, hi1, hS⟩ := hS
    refine RunT.quiet rfl rfl rfl (quiet_eq (sem_indexAddrS A31 n5 c6 .i64 (i9) (congrArg (fun a => Value.slice a n5 c6) e32) rfl TF.slc_99 hi0 hi1 ⟨rfl, rfl⟩)) ?_
    refine RunT.quiet rfl rfl rfl (quiet_eq (sem_fieldAddr (Addr.add A31 (Int.toNat (i9) * 3)) 1 rfl TF.fld_122_1 ⟨rfl, rfl⟩)) ?_
    obtain ⟨b33, s34, hl, hS⟩ := hS
    refine RunT.quiet rfl rfl rfl (quiet_eq (sem_loadN (Addr.add (Addr.add A31 (Int.toNat (i9) * 3)) 1) [(Value.bool b33), (Value.string s34)] rfl TF.agg_114 TF.sz_114 hl ⟨rfl, rfl⟩)) ?_
    obtain ⟨hT, hF⟩ := hS
    by_cases hb35 : eqL [(Value.bool b29), (Value.string s30)] [(Value.bool b33), (Value.string s34)] = true
    ·have hS := hT hb35; clear hT hF
     refine RunT.quiet rfl rfl rfl (quiet_eq (sem_aggEq [(Value.bool b29), (Value.string s30)] [(Value.bool b33), (Value.string s34)] _ (false) (.inr rfl) rfl rfl TF.agg_114 TF.flat_114 TF.eqg_114 ⟨⟨_, rfl⟩, ⟨_, rfl⟩, trivial⟩ ⟨⟨_, rfl⟩, ⟨_, rfl⟩, trivial⟩ (eqLT_neq hb35) ⟨rfl, rfl⟩)) ?_
     refine RunT.quiet rfl rfl rfl (quiet_eq (sem_pick false ((Value.bool false)) rfl rfl ⟨rfl, rfl⟩)) ?_
     refine Run.condF rfl ?_
     refine Run.skip ?_
     refine Run.inBlock ?_
     refine Run.ops0 (idx := [0, 1]) rfl ?_
     refine Run.go rfl rfl rfl (sem_binI .i64 (i9) (1) ((Value.int .i64 (IntKind.wrap .i64 ((i9) + (1))))) rfl rfl rfl ?_)
     refine Run.go rfl rfl rfl (sem_move ((Value.int .i64 (IntKind.wrap .i64 ((i9) + (1))))) rfl ?_)
     refine Run.region_end ?_
     exact Run.of_fin (hS.imp fun h' ⟨m', hm, hS⟩ => ih13 ((IntKind.wrap .i64 ((i9) + (1))), m') _ _ ⟨hS, ⟨rfl, rfl, rfl, rfl, trivial⟩⟩ hm)
    ·have hS := hF hb35; clear hT hF
     refine RunT.quiet rfl rfl rfl (quiet_eq (sem_aggEq [(Value.bool b29), (Value.string s30)] [(Value.bool b33), (Value.string s34)] _ (true) (.inr rfl) rfl rfl TF.agg_114 TF.flat_114 TF.eqg_114 ⟨⟨_, rfl⟩, ⟨_, rfl⟩, trivial⟩ ⟨⟨_, rfl⟩, ⟨_, rfl⟩, trivial⟩ (eqLF_neq hb35) ⟨rfl, rfl⟩)) ?_
     refine RunT.quiet rfl rfl rfl (quiet_eq (sem_pick false ((Value.bool true)) rfl rfl ⟨rfl, rfl⟩)) ?_
     refine Run.condT rfl ?_
     refine Run.seq ?_
     refine Run.ops0 (idx := [0]) rfl ?_
     refine Run.go rfl rfl rfl (sem_assign ((Value.bool false)) rfl ?_)
     refine Run.region_end ?_
     refine Run.ret ⟨.inr rfl, ?_⟩
     exact hS.imp fun h' hq => ⟨(false), rfl, hq⟩
   ·have hS := hF hb28; clear hT hF
    refine RunT.quiet rfl rfl rfl (quiet_eq (sem_binI .i64 (i24) (i27) (.bool true) rfl rfl (binI_neq_f hb28) ⟨rfl, rfl⟩)) ?_
    refine RunT.quiet rfl rfl rfl (quiet_eq (sem_move ((Value.bool true)) rfl ⟨rfl, rfl⟩)) ?_
    refine RunT.skip rfl rfl rfl ?_
    refine RunT.skip rfl rfl rfl ?_
    refine RunT.skip rfl rfl rfl ?_
    refine RunT.skip rfl rfl rfl ?_
    refine RunT.skip rfl rfl rfl ?_
    refine RunT.skip rfl rfl rfl ?_
    refine RunT.skip rfl rfl rfl ?_
    refine RunT.skip rfl rfl rfl ?_
    refine RunT.quiet rfl rfl rfl (quiet_eq (sem_pick true ((Value.bool true)) rfl rfl ⟨rfl, rfl⟩)) ?_
    refine Run.condT rfl ?_
    refine Run.seq ?_
    refine Run.ops0 (idx := [0]) rfl ?_
    refine Run.go rfl rfl rfl (sem_assign ((Value.bool false)) rfl ?_)
    refine Run.region_end ?_
    refine Run.ret ⟨.inr rfl, ?_⟩
    exact hS.imp fun h' hq => ⟨(false), rfl, hq⟩
  ·have hS := hF hb15; clear hT hF
   refine Run.go rfl rfl rfl (sem_binI .i64 (i9) ((n2 : Nat)) (.bool false) rfl rfl (binI_lss_f hb15) ?_)
   refine Run.region_end ?_
   refine Run.seq ?_
   refine Run.condF rfl ?_
   refine Run.exit rfl ?_
   refine Run.seq ?_
   refine Run.ops0 (idx := [0]) rfl ?_
   refine Run.go rfl rfl rfl (sem_assign ((Value.bool true)) rfl ?_)
   refine Run.region_end ?_
   refine Run.ret ⟨.inr rfl, ?_⟩
   exact hS.imp fun h' hq => ⟨(true), rfl, hq⟩
 ·have hS := hF hb8; clear hT hF
  refine Run.go rfl rfl rfl (sem_binI .i64 ((n2 : Nat)) ((n5 : Nat)) (.bool true) rfl rfl (binI_neq_f hb8) ?_)
  refine Run.region_end ?_
  refine Run.condT rfl ?_
  refine Run.seq ?_
  refine Run.ops0 (idx := [0]) rfl ?_
  refine Run.go rfl rfl rfl (sem_assign ((Value.bool false)) rfl ?_)
  refine Run.region_end ?_
  refine Run.ret ⟨.inr rfl, ?_⟩
  exact hS.imp fun h' hq => ⟨(false), rfl, hq⟩
set_option maxHeartbeats 4000000 in
theorem C_countermandref18_Bytes.of {B : RO} {i1 : Int} {a2 : Option Addr} {n3 : Nat} {c4 : Nat} {h : Heap} {Q : ByteArray → Heap → Prop} (hS : S_countermandref18_Bytes B i1 a2 n3 c4 h Q) : C_countermandref18_Bytes B i1 a2 n3 c4 h Q := by
 unfold S_countermandref18_Bytes at hS
 unfold C_countermandref18_Bytes
 refine Spec.of_run Try.func64 (N := 35) (rs := [ResultVar.tmp 4]) rfl rfl rfl (Nat.le_of_ble_eq_true rfl) ?_
 refine Run.seq ?_
 refine Run.ops0 (idx := [0]) rfl ?_
 refine Run.go rfl rfl rfl (sem_assign ((Value.string (ByteArray.mk #[]))) rfl ?_)
 refine Run.region_end ?_
 refine Run.seq ?_
 refine Run.ops0 (idx := [0, 1, 2]) rfl ?_
 refine Run.go rfl rfl rfl (sem_move ((Value.int .i64 (i1))) rfl ?_)
 refine Run.go rfl rfl rfl (sem_callL [(Value.int .i64 (i1))] (TF.goes_110) rfl rfl (Spec.mono hS fun v h6 hv => ?_))
 obtain ⟨s7, rfl, hS⟩ := hv
 refine Run.go rfl rfl rfl (sem_assign ((Value.string s7)) rfl ?_)
 refine Run.region_end ?_
 refine Run.seq ?_
 refine Run.seq ?_
 refine Run.ops0 (idx := [0, 1, 2]) rfl ?_
 refine Run.go rfl rfl rfl (sem_move ((Value.slice a2 n3 c4)) rfl ?_)
 refine Run.go rfl rfl rfl (sem_lenSl a2 n3 c4 rfl TF.sl_99 ?_)
 refine Run.go rfl rfl rfl (sem_move ((Value.int .i64 (0))) rfl ?_)
 refine Run.region_end ?_
 refine Run.block ?_
 obtain ⟨J14, m12, h0, hS⟩ := hS
 refine Run.of_fin (h0.imp fun h' h0 => ?_)
 refine Run.loop (σ := ByteArray × Int × Nat) (fun x e h => J14 x.1 x.2.1 x.2.2 h ∧ Agree [(5, (Value.string x.1)), (10, (Value.slice a2 n3 c4)), (11, (Value.int .i64 ((n3 : Nat)))), (12, (Value.int .i64 (x.2.1)))] e) (fun x => x.2.2) (s7, (0), m12) ⟨h0, ⟨rfl, rfl, rfl, rfl, trivial⟩⟩ ?_; clear h0
 rintro ⟨s8, i9, m11⟩ e h10 ⟨hJ, hag⟩ ih13
 have hS := hS s8 i9 m11 h10 hJ; clear hJ
 refine Run.env hag ?_; clear hag
 refine Run.seq ?_
 refine Run.ops0 (idx := [0]) rfl ?_
 obtain ⟨hT, hF⟩ := hS
 by_cases hb15 : (i9 : Int) < ((n3 : Nat))
 ·have hS := hT hb15; clear hT hF
  refine Run.go rfl rfl rfl (sem_binI .i64 (i9) ((n3 : Nat)) (.bool true) rfl rfl (binI_lss_t hb15) ?_)
  refine Run.region_end ?_
  refine Run.seq ?_
  refine Run.condT rfl ?_
  refine Run.skip ?_
  refine Run.seq ?_
  refine Run.block ?_
  refine Run.seq ?_
  refine Run.ops0 (idx := [0, 1, 2, 3]) rfl ?_
  obtain ⟨A16, e17, hi0, hi1, hS⟩ := hS
  refine Run.go rfl rfl rfl (sem_indexAddrS A16 n3 c4 .i64 (i9) (congrArg (fun a => Value.slice a n3 c4) e17) rfl TF.slc_99 hi0 hi1 ?_)
  obtain ⟨i18, b19, s20, hl, hS⟩ := hS
  refine Run.go rfl rfl rfl (sem_loadN (Addr.add A16 (Int.toNat (i9) * 3)) [(Value.int .i64 (i18)), (Value.bool b19), (Value.string s20)] rfl TF.agg_122 TF.sz_122 hl ?_)
  refine Run.go rfl rfl rfl (sem_allocN [(Value.int .i64 (0)), (Value.bool false), (Value.string ByteArray.empty)] TF.zero_122 (fun k21 hb1 hb2 h22 hb3 => ?_))
  have hS := hS k21 hb1 hb2 h22 hb3
  obtain ⟨h23, hst, hS⟩ := hS
  refine Run.go rfl rfl rfl (sem_storeN ⟨k21, 0, none⟩ [(Value.int .i64 (i18)), (Value.bool b19), (Value.string s20)] h23 rfl rfl TF.sz_122 hst ?_)
  refine Run.region_end ?_
  refine Run.seq ?_
  refine Run.ops0 (idx := [0, 1, 2, 3, 4, 5]) rfl ?_
  refine Run.go rfl rfl rfl (sem_move ((Value.string s8)) rfl ?_)
  refine Run.go rfl rfl rfl (sem_fieldAddr ⟨k21, 0, none⟩ 0 rfl TF.fld_122_0 ?_)
  obtain ⟨i24, hl, hS⟩ := hS
  refine Run.go rfl rfl rfl (sem_load1 ⟨k21, 0, none⟩ ((Value.int .i64 (i24))) rfl TF.agg_3 hl ?_)
  refine Run.go rfl rfl rfl (sem_callL [(Value.int .i64 (i24))] (TF.goes_110) rfl rfl (Spec.mono hS fun v h25 hv => ?_))
  obtain ⟨s26, rfl, hS⟩ := hv
  obtain ⟨hi0, hS⟩ := hS
  refine Run.go rfl rfl rfl (sem_strAdd s8 s26 rfl rfl hi0 ?_)
  refine Run.go rfl rfl rfl (sem_assign ((Value.string (s8 ++ s26))) rfl ?_)
  refine Run.region_end ?_
  refine Run.seq ?_
  refine Run.ops0 (idx := [0, 1, 2]) rfl ?_
  refine Run.go rfl rfl rfl (sem_fieldAddr ⟨k21, 0, none⟩ 1 rfl TF.fld_122_1 ?_)
  refine Run.go rfl rfl rfl (sem_fieldAddr ⟨k21, 1, none⟩ 0 rfl TF.fld_114_0 ?_)
  obtain ⟨b27, hl, hS⟩ := hS
  obtain ⟨hT, hF⟩ := hS
  cases b27
  ·have hS := hF rfl; clear hT hF
   refine Run.go rfl rfl rfl (sem_load1 ⟨k21, 1, none⟩ (.bool false) rfl TF.agg_4 hl ?_)
   refine Run.region_end ?_
   refine Run.condF rfl ?_
   refine Run.ops0 (idx := [0, 1, 2]) rfl ?_
   refine Run.go rfl rfl rfl (sem_move ((Value.string (s8 ++ s26))) rfl ?_)
   obtain ⟨hi0, hS⟩ := hS
   refine Run.go rfl rfl rfl (sem_strAdd (s8 ++ s26) (ByteArray.mk #[0]) rfl rfl hi0 ?_)
   refine Run.go rfl rfl rfl (sem_assign ((Value.string ((s8 ++ s26) ++ (ByteArray.mk #[0])))) rfl ?_)
   refine Run.region_end ?_
   refine Run.inBlock ?_
   refine Run.ops0 (idx := [0, 1]) rfl ?_
   refine Run.go rfl rfl rfl (sem_binI .i64 (i9) (1) ((Value.int .i64 (IntKind.wrap .i64 ((i9) + (1))))) rfl rfl rfl ?_)
   refine Run.go rfl rfl rfl (sem_move ((Value.int .i64 (IntKind.wrap .i64 ((i9) + (1))))) rfl ?_)
   refine Run.region_end ?_
   exact Run.of_fin (hS.imp fun h' ⟨m', hm, hS⟩ => ih13 (((s8 ++ s26) ++ (ByteArray.mk #[0])), (IntKind.wrap .i64 ((i9) + (1))), m') _ _ ⟨hS, ⟨rfl, rfl, rfl, rfl, trivial⟩⟩ hm)
  ·have hS := hT rfl; clear hT hF
   refine Run.go rfl rfl rfl (sem_load1 ⟨k21, 1, none⟩ (.bool true) rfl TF.agg_4 hl ?_)
   refine Run.region_end ?_
   refine Run.condT rfl ?_
   refine Run.ops0 (idx := [0, 1, 2, 3, 4, 5, 6, 7]) rfl ?_
   refine Run.go rfl rfl rfl (sem_move ((Value.string (s8 ++ s26))) rfl ?_)
   obtain ⟨hi0, hS⟩ := hS
   refine Run.go rfl rfl rfl (sem_strAdd (s8 ++ s26) (ByteArray.mk #[1]) rfl rfl hi0 ?_)
   refine Run.go rfl rfl rfl (sem_fieldAddr ⟨k21, 0, none⟩ 1 rfl TF.fld_122_1 ?_)
   refine Run.go rfl rfl rfl (sem_fieldAddr ⟨k21, 1, none⟩ 1 rfl TF.fld_114_1 ?_)
   obtain ⟨s28, hl, hS⟩ := hS
   refine Run.go rfl rfl rfl (sem_load1 ⟨k21, 2, none⟩ ((Value.string s28)) rfl TF.agg_9 hl ?_)
   refine Run.go rfl rfl rfl (sem_callL [(Value.string s28)] (TF.goes_111) rfl rfl (Spec.mono hS fun v h29 hv => ?_))
   obtain ⟨s30, rfl, hS⟩ := hv
   obtain ⟨hi0, hS⟩ := hS
   refine Run.go rfl rfl rfl (sem_strAdd ((s8 ++ s26) ++ (ByteArray.mk #[1])) s30 rfl rfl hi0 ?_)
   refine Run.go rfl rfl rfl (sem_assign ((Value.string (((s8 ++ s26) ++ (ByteArray.mk #[1])) ++ s30))) rfl ?_)
   refine Run.region_end ?_
   refine Run.inBlock ?_
   refine Run.ops0 (idx := [0, 1]) rfl ?_
   refine Run.go rfl rfl rfl (sem_binI .i64 (i9) (1) ((Value.int .i64 (IntKind.wrap .i64 ((i9) + (1))))) rfl rfl rfl ?_)
   refine Run.go rfl rfl rfl (sem_move ((Value.int .i64 (IntKind.wrap .i64 ((i9) + (1))))) rfl ?_)
   refine Run.region_end ?_
   exact Run.of_fin (hS.imp fun h' ⟨m', hm, hS⟩ => ih13 ((((s8 ++ s26) ++ (ByteArray.mk #[1])) ++ s30), (IntKind.wrap .i64 ((i9) + (1))), m') _ _ ⟨hS, ⟨rfl, rfl, rfl, rfl, trivial⟩⟩ hm)
 ·have hS := hF hb15; clear hT hF
  refine Run.go rfl rfl rfl (sem_binI .i64 (i9) ((n3 : Nat)) (.bool false) rfl rfl (binI_lss_f hb15) ?_)
  refine Run.region_end ?_
  refine Run.seq ?_
  refine Run.condF rfl ?_
  refine Run.exit rfl ?_
  refine Run.seq ?_
  refine Run.ops0 (idx := [0, 1]) rfl ?_
  refine Run.go rfl rfl rfl (sem_move ((Value.string s8)) rfl ?_)
  refine Run.go rfl rfl rfl (sem_assign ((Value.string s8)) rfl ?_)
  refine Run.region_end ?_
  refine Run.ret ⟨.inr rfl, ?_⟩
  exact hS.imp fun h' hq => ⟨s8, rfl, hq⟩
set_option maxHeartbeats 4000000 in
theorem C_countermandlaw18_drawn.of {B : RO} {a1 : Option Addr} {n2 : Nat} {c3 : Nat} {h : Heap} {Q : Option Addr → Option Addr → Nat → Nat → Bool → Heap → Prop} (hS : S_countermandlaw18_drawn B a1 n2 c3 h Q) : C_countermandlaw18_drawn B a1 n2 c3 h Q := by
 unfold S_countermandlaw18_drawn at hS
 unfold C_countermandlaw18_drawn
 refine Spec.of_run Try.func65 (N := 57) (rs := [ResultVar.tmp 2, ResultVar.tmp 3, ResultVar.tmp 4]) rfl rfl rfl (Nat.le_of_ble_eq_true rfl) ?_
 refine Run.seq ?_
 refine Run.ops0 (idx := [0, 1, 2]) rfl ?_
 refine Run.go rfl rfl rfl (sem_assign ((Value.pointer none)) rfl ?_)
 refine Run.go rfl rfl rfl (sem_assign ((Value.slice none 0 0)) rfl ?_)
 refine Run.go rfl rfl rfl (sem_assign ((Value.bool false)) rfl ?_)
 refine Run.region_end ?_
 refine Run.seq ?_
 refine Run.ops0 (idx := [0, 1, 2]) rfl ?_
 refine Run.go rfl rfl rfl (sem_buildSL [] [(Value.slice none 0 0)] TF.zero_193 TF.places_193 rfl rfl ?_)
 refine Run.go rfl rfl rfl (sem_boxNN [(Value.slice none 0 0)] rfl (fun k9 hb1 hb2 h10 hb3 => ?_))
 have hS := hS k9 hb1 hb2 h10 hb3
 refine Run.go rfl rfl rfl (sem_assign ((Value.pointer (some ⟨k9, 0, none⟩))) rfl ?_)
 refine Run.region_end ?_
 refine Run.seq ?_
 refine Run.seq ?_
 refine Run.ops0 (idx := [0, 1, 2]) rfl ?_
 refine Run.go rfl rfl rfl (sem_move ((Value.slice a1 n2 c3)) rfl ?_)
 refine Run.go rfl rfl rfl (sem_lenSl a1 n2 c3 rfl TF.sl_96 ?_)
 obtain ⟨hT, hF⟩ := hS
 by_cases hb11 : ((n2 : Nat) : Int) > (40)
 ·have hS := hT hb11; clear hT hF
  refine Run.go rfl rfl rfl (sem_binI .i64 ((n2 : Nat)) (40) (.bool true) rfl rfl (binI_gtr_t hb11) ?_)
  refine Run.region_end ?_
  refine Run.condT rfl ?_
  refine Run.seq ?_
  refine Run.ops0 (idx := [0, 1, 2, 3]) rfl ?_
  refine Run.go rfl rfl rfl (sem_move ((Value.pointer (some ⟨k9, 0, none⟩))) rfl ?_)
  refine Run.go rfl rfl rfl (sem_assign ((Value.pointer (some ⟨k9, 0, none⟩))) rfl ?_)
  refine Run.go rfl rfl rfl (sem_assign ((Value.slice none 0 0)) rfl ?_)
  refine Run.go rfl rfl rfl (sem_assign ((Value.bool false)) rfl ?_)
  refine Run.region_end ?_
  refine Run.ret ⟨.inr rfl, ?_⟩
  exact hS.imp fun h' hq => ⟨(some ⟨k9, 0, none⟩), none, 0, 0, (false), rfl, hq⟩
 ·have hS := hF hb11; clear hT hF
  refine Run.go rfl rfl rfl (sem_binI .i64 ((n2 : Nat)) (40) (.bool false) rfl rfl (binI_gtr_f hb11) ?_)
  refine Run.region_end ?_
  refine Run.condF rfl ?_
  refine Run.skip ?_
  refine Run.seqJ (fun e h13 => Agree [(5, (Value.pointer (some ⟨k9, 0, none⟩)))] e ∧ S_countermandlaw18_drawn_J1 B k9 h13 Q) ?_ fun j12 => ?_
  ·rintro e h13 ⟨hag, hS⟩
   refine Run.env hag ?_; clear hag
   refine Run.seq ?_
   refine Run.ops0 (idx := [0]) rfl ?_
   refine Run.go rfl rfl rfl (sem_allocN [(Value.slice none 0 0)] TF.zero_99 (fun k14 hb1 hb2 h15 hb3 => ?_))
   have hS := hS k14 hb1 hb2 h15 hb3
   refine Run.region_end ?_
   refine Run.seq ?_
   refine Run.seq ?_
   refine Run.ops0 (idx := [0, 1]) rfl ?_
   refine Run.go rfl rfl rfl (sem_move ((Value.pointer (some ⟨k9, 0, none⟩))) rfl ?_)
   refine Run.go rfl rfl rfl (sem_callL [(Value.pointer (some ⟨k9, 0, none⟩))] (TF.goes_113) rfl rfl (Spec.mono hS fun v17 h16 hv => ?_))
   obtain ⟨_, rfl, hS⟩ := hv
   refine Run.region_end ?_
   refine Run.block ?_
   obtain ⟨xs25, G21, J24, hit, hins, hG, h0, hS, hR⟩ := hS
   refine Run.of_fin (h0.imp fun h' h0 => ?_)
   refine Run.range (v17) (xs25.map (fun x : Int × Bool × ByteArray => [(Value.int .i64 (x.1)), (Value.agg #[(Value.bool x.2.1), (Value.string x.2.2)])])) G21 J24 rfl hit hins hG h0 rfl (fun a ha => by obtain ⟨x, _, rfl⟩ := List.mem_map.1 ha; rfl) ?_ ?_
   ·rintro q23 args h22 ha hJ
    obtain ⟨⟨i18, b19, s20⟩, hx, rfl⟩ := Option.map_eq_some_iff.1 ((List.getElem?_map ..).symm.trans ha)
    have hS := hS q23 h22 i18 b19 s20 hx hJ; clear hJ hx ha
    refine Run.seq ?_
    refine Run.ops0 (idx := [0]) rfl ?_
    refine Run.go rfl rfl rfl (sem_assign ((Value.int .i64 (i18))) rfl ?_)
    refine Run.region_end ?_
    refine Run.ops0 (idx := [0, 1]) rfl ?_
    refine Run.go rfl rfl rfl (sem_allocN [(Value.bool false), (Value.string ByteArray.empty)] TF.zero_111 (fun k26 hb1 hb2 h27 hb3 => ?_))
    have hS := hS k26 hb1 hb2 h27 hb3
    obtain ⟨h28, hst, hS⟩ := hS
    refine Run.go rfl rfl rfl (sem_storeN ⟨k26, 0, none⟩ [(Value.bool b19), (Value.string s20)] h28 rfl rfl TF.sz_111 hst ?_)
    refine Run.region_end ?_
    refine Run.begin ⟨rfl, ?_⟩
    refine Run.block ?_
    refine Run.ops0 (idx := [0, 1, 2, 3, 4, 5, 6]) rfl ?_
    refine Run.ldSl hS fun a29 n30 c31 h32 hl hS => ?_
    refine Run.go rfl rfl rfl (sem_load1 ⟨k14, 0, none⟩ ((Value.slice a29 n30 c31)) rfl TF.agg_99 hl ?_)
    refine Run.go rfl rfl rfl (sem_move ((Value.int .i64 (i18))) rfl ?_)
    obtain ⟨b33, s34, hl, hS⟩ := hS
    refine Run.go rfl rfl rfl (sem_loadN ⟨k26, 0, none⟩ [(Value.bool b33), (Value.string s34)] rfl TF.agg_111 TF.sz_111 hl ?_)
    refine Run.go rfl rfl rfl (sem_buildSL [(0, (Value.int .i64 (i18))), (1, (Value.agg #[(Value.bool b33), (Value.string s34)]))] [(Value.int .i64 (i18)), (Value.bool b33), (Value.string s34)] TF.zero_122 TF.places_122 rfl rfl ?_)
    refine Run.go rfl rfl rfl (sem_buildSliceL [(0, (Value.agg #[(Value.int .i64 (i18)), (Value.bool b33), (Value.string s34)]))] [(Value.int .i64 (i18)), (Value.bool b33), (Value.string s34)] TF.slc_99 TF.zero_122 rfl (by decide) (by decide) rfl rfl (fun k35 hb1 hb2 h36 hb3 => ?_))
    have hS := hS k35 hb1 hb2 h36 hb3
    refine Run.go rfl rfl rfl (sem_appendL [(Value.slice a29 n30 c31), (Value.slice (some ⟨k35, 0, none⟩) 1 1)] rfl (semH_mono (fun v h37 hv => ?_) hS))
    obtain ⟨a38, n39, c40, rfl, hS⟩ := hv
    obtain ⟨h41, hst, hS⟩ := hS
    refine Run.go rfl rfl rfl (sem_store1 ⟨k14, 0, none⟩ ((Value.slice a38 n39 c40)) h41 rfl rfl rfl TF.sz_99 hst ?_)
    refine Run.region_end ?_
    refine Run.inBlock ?_
    refine Run.of_fin (hS.imp fun h' hS => ?_)
    exact Run.fall (.inl ⟨rfl, hS⟩)
   ·intro h22 hJ
    have hS := hR h22 (by simpa using hJ); clear hJ hR
    refine Run.inBlock ?_
    refine Run.seq ?_
    refine Run.drawM (fun h' => h' = h22) [] ⟨[0, 0, 1, 7, 15], [31, 31, 30, 29, 31], [0, 0, 0, 0, 0], 0⟩ (.q 0 (.q 1 (.q 2 (.q 3 (.q 4 .nil))))) TF.mixed (by kernel_rfl) rfl ?_
    refine RunT.quiet rfl rfl rfl (quiet_eq (sem_move ((Value.pointer (some ⟨k9, 0, none⟩))) rfl ⟨rfl, rfl⟩)) ?_
    obtain ⟨a42, n43, c44, hl, hS⟩ := hS
    refine RunT.quiet rfl rfl rfl (quiet_eq (sem_load1 ⟨k14, 0, none⟩ ((Value.slice a42 n43 c44)) rfl TF.agg_99 hl ⟨rfl, rfl⟩)) ?_
    refine RunT.quiet rfl rfl rfl (quiet_eq (sem_assign ((Value.pointer (some ⟨k9, 0, none⟩))) rfl ⟨rfl, rfl⟩)) ?_
    refine RunT.quiet rfl rfl rfl (quiet_eq (sem_assign ((Value.slice a42 n43 c44)) rfl ⟨rfl, rfl⟩)) ?_
    refine RunT.quiet rfl rfl rfl (quiet_eq (sem_assign ((Value.bool true)) rfl ⟨rfl, rfl⟩)) ?_
    refine Run.ret ⟨.inr rfl, ?_⟩
    exact hS.imp fun h' hq => ⟨(some ⟨k9, 0, none⟩), a42, n43, c44, (true), rfl, hq⟩
  refine Run.seq ?_
  refine Run.ops0 (idx := [0, 1, 2]) rfl ?_
  refine Run.go rfl rfl rfl (sem_move ((Value.slice a1 n2 c3)) rfl ?_)
  refine Run.go rfl rfl rfl (sem_lenSl a1 n2 c3 rfl TF.sl_96 ?_)
  refine Run.go rfl rfl rfl (sem_move ((Value.int .i64 (0))) rfl ?_)
  refine Run.region_end ?_
  refine Run.block ?_
  obtain ⟨J50, m48, h0, hS⟩ := hS
  refine Run.of_fin (h0.imp fun h' h0 => ?_)
  refine Run.loop (σ := Int × Nat) (fun x e h => J50 x.1 x.2 h ∧ Agree [(5, (Value.pointer (some ⟨k9, 0, none⟩))), (17, (Value.slice a1 n2 c3)), (18, (Value.int .i64 ((n2 : Nat)))), (19, (Value.int .i64 (x.1)))] e) (fun x => x.2) ((0), m48) ⟨h0, ⟨rfl, rfl, rfl, rfl, trivial⟩⟩ ?_; clear h0
  rintro ⟨i45, m47⟩ e h46 ⟨hJ, hag⟩ ih49
  have hS := hS i45 m47 h46 hJ; clear hJ
  refine Run.env hag ?_; clear hag
  refine Run.seq ?_
  refine Run.ops0 (idx := [0]) rfl ?_
  obtain ⟨hT, hF⟩ := hS
  by_cases hb51 : (i45 : Int) < ((n2 : Nat))
  ·have hS := hT hb51; clear hT hF
   refine Run.go rfl rfl rfl (sem_binI .i64 (i45) ((n2 : Nat)) (.bool true) rfl rfl (binI_lss_t hb51) ?_)
   refine Run.region_end ?_
   refine Run.seq ?_
   refine Run.condT rfl ?_
   refine Run.skip ?_
   refine Run.seq ?_
   refine Run.block ?_
   refine Run.seq ?_
   refine Run.ops0 (idx := [0, 1, 2, 3]) rfl ?_
   obtain ⟨A52, e53, hi0, hi1, hS⟩ := hS
   refine Run.go rfl rfl rfl (sem_indexAddrS A52 n2 c3 .i64 (i45) (congrArg (fun a => Value.slice a n2 c3) e53) rfl TF.slc_96 hi0 hi1 ?_)
   obtain ⟨i54, b55, s56, hl, hS⟩ := hS
   refine Run.go rfl rfl rfl (sem_loadN (Addr.add A52 (Int.toNat (i45) * 3)) [(Value.int .i64 (i54)), (Value.bool b55), (Value.string s56)] rfl TF.agg_199 TF.sz_199 hl ?_)
   refine Run.go rfl rfl rfl (sem_allocN [(Value.int .i64 (0)), (Value.bool false), (Value.string ByteArray.empty)] TF.zero_199 (fun k57 hb1 hb2 h58 hb3 => ?_))
   have hS := hS k57 hb1 hb2 h58 hb3
   obtain ⟨h59, hst, hS⟩ := hS
   refine Run.go rfl rfl rfl (sem_storeN ⟨k57, 0, none⟩ [(Value.int .i64 (i54)), (Value.bool b55), (Value.string s56)] h59 rfl rfl TF.sz_199 hst ?_)
   refine Run.region_end ?_
   refine Run.seqJ (fun e h61 => Agree [(5, (Value.pointer (some ⟨k9, 0, none⟩))), (7, (Value.pointer (some ⟨k57, 0, none⟩))), (17, (Value.slice a1 n2 c3)), (18, (Value.int .i64 ((n2 : Nat)))), (19, (Value.int .i64 (i45)))] e ∧ S_countermandlaw18_drawn_J2 B a1 n2 c3 k9 i45 m47 J50 k57 h61 Q) ?_ fun j60 => ?_
   ·rintro e h61 ⟨hag, hS⟩
    refine Run.env hag ?_; clear hag
    refine Run.ops0 (idx := [0, 1, 2, 3, 4, 5]) rfl ?_
    refine Run.go rfl rfl rfl (sem_move ((Value.pointer (some ⟨k9, 0, none⟩))) rfl ?_)
    refine Run.go rfl rfl rfl (sem_fieldAddr ⟨k57, 0, none⟩ 0 rfl TF.fld_199_0 ?_)
    obtain ⟨i62, hl, hS⟩ := hS
    refine Run.go rfl rfl rfl (sem_load1 ⟨k57, 0, none⟩ ((Value.int .i64 (i62))) rfl TF.agg_3 hl ?_)
    refine Run.go rfl rfl rfl (sem_fieldAddr ⟨k57, 0, none⟩ 1 rfl TF.fld_199_1 ?_)
    obtain ⟨b63, s64, hl, hS⟩ := hS
    refine Run.go rfl rfl rfl (sem_loadN ⟨k57, 1, none⟩ [(Value.bool b63), (Value.string s64)] rfl TF.agg_111 TF.sz_111 hl ?_)
    refine Run.go rfl rfl rfl (sem_callL [(Value.pointer (some ⟨k9, 0, none⟩)), (Value.int .i64 (i62)), (Value.agg #[(Value.bool b63), (Value.string s64)])] (TF.goes_103) rfl rfl (Spec.mono hS fun v h65 hv => ?_))
    obtain ⟨b66, rfl, hS⟩ := hv
    refine Run.region_end ?_
    refine Run.inBlock ?_
    refine Run.ops0 (idx := [0, 1]) rfl ?_
    refine Run.go rfl rfl rfl (sem_binI .i64 (i45) (1) ((Value.int .i64 (IntKind.wrap .i64 ((i45) + (1))))) rfl rfl rfl ?_)
    refine Run.go rfl rfl rfl (sem_move ((Value.int .i64 (IntKind.wrap .i64 ((i45) + (1))))) rfl ?_)
    refine Run.region_end ?_
    exact Run.of_fin (hS.imp fun h' ⟨m', hm, hS⟩ => ih49 ((IntKind.wrap .i64 ((i45) + (1))), m') _ _ ⟨hS, ⟨rfl, rfl, rfl, rfl, trivial⟩⟩ hm)
   refine Run.seq ?_
   refine Run.ops0 (idx := [0, 1, 2, 3, 4, 5, 6, 7, 8, 9, 10, 11, 12, 13]) rfl ?_
   refine Run.go rfl rfl rfl (sem_fieldAddr ⟨k57, 0, none⟩ 0 rfl TF.fld_199_0 ?_)
   obtain ⟨i67, hl, hS⟩ := hS
   refine Run.go rfl rfl rfl (sem_load1 ⟨k57, 0, none⟩ ((Value.int .i64 (i67))) rfl TF.agg_3 hl ?_)
   obtain ⟨hT, hF⟩ := hS
   by_cases hb68 : (i67 : Int) < (0)
   ·have hS := hT hb68; clear hT hF
    refine Run.go rfl rfl rfl (sem_binI .i64 (i67) (0) (.bool true) rfl rfl (binI_lss_t hb68) ?_)
    refine Run.go rfl rfl rfl (sem_move ((Value.bool true)) rfl ?_)
    refine Run.no rfl rfl rfl ?_
    refine Run.no rfl rfl rfl ?_
    refine Run.no rfl rfl rfl ?_
    refine Run.go rfl rfl rfl (sem_pick true ((Value.bool true)) rfl rfl ?_)
    refine Run.go rfl rfl rfl (sem_move ((Value.bool true)) rfl ?_)
    refine Run.no rfl rfl rfl ?_
    refine Run.no rfl rfl rfl ?_
    refine Run.no rfl rfl rfl ?_
    refine Run.no rfl rfl rfl ?_
    refine Run.go rfl rfl rfl (sem_pick true ((Value.bool true)) rfl rfl ?_)
    refine Run.region_end ?_
    refine Run.condT rfl ?_
    refine Run.seq ?_
    refine Run.ops0 (idx := [0, 1, 2, 3]) rfl ?_
    refine Run.go rfl rfl rfl (sem_move ((Value.pointer (some ⟨k9, 0, none⟩))) rfl ?_)
    refine Run.go rfl rfl rfl (sem_assign ((Value.pointer (some ⟨k9, 0, none⟩))) rfl ?_)
    refine Run.go rfl rfl rfl (sem_assign ((Value.slice none 0 0)) rfl ?_)
    refine Run.go rfl rfl rfl (sem_assign ((Value.bool false)) rfl ?_)
    refine Run.region_end ?_
    refine Run.ret ⟨.inr rfl, ?_⟩
    exact hS.imp fun h' hq => ⟨(some ⟨k9, 0, none⟩), none, 0, 0, (false), rfl, hq⟩
   ·have hS := hF hb68; clear hT hF
    refine Run.go rfl rfl rfl (sem_binI .i64 (i67) (0) (.bool false) rfl rfl (binI_lss_f hb68) ?_)
    refine Run.go rfl rfl rfl (sem_move ((Value.bool false)) rfl ?_)
    refine Run.go rfl rfl rfl (sem_fieldAddr ⟨k57, 0, none⟩ 0 rfl TF.fld_199_0 ?_)
    obtain ⟨i69, hl, hS⟩ := hS
    refine Run.go rfl rfl rfl (sem_load1 ⟨k57, 0, none⟩ ((Value.int .i64 (i69))) rfl TF.agg_3 hl ?_)
    obtain ⟨hT, hF⟩ := hS
    by_cases hb70 : (i69 : Int) > (5)
    ·have hS := hT hb70; clear hT hF
     refine Run.go rfl rfl rfl (sem_binI .i64 (i69) (5) (.bool true) rfl rfl (binI_gtr_t hb70) ?_)
     refine Run.go rfl rfl rfl (sem_pick false ((Value.bool true)) rfl rfl ?_)
     refine Run.go rfl rfl rfl (sem_move ((Value.bool true)) rfl ?_)
     refine Run.no rfl rfl rfl ?_
     refine Run.no rfl rfl rfl ?_
     refine Run.no rfl rfl rfl ?_
     refine Run.no rfl rfl rfl ?_
     refine Run.go rfl rfl rfl (sem_pick true ((Value.bool true)) rfl rfl ?_)
     refine Run.region_end ?_
     refine Run.condT rfl ?_
     refine Run.seq ?_
     refine Run.ops0 (idx := [0, 1, 2, 3]) rfl ?_
     refine Run.go rfl rfl rfl (sem_move ((Value.pointer (some ⟨k9, 0, none⟩))) rfl ?_)
     refine Run.go rfl rfl rfl (sem_assign ((Value.pointer (some ⟨k9, 0, none⟩))) rfl ?_)
     refine Run.go rfl rfl rfl (sem_assign ((Value.slice none 0 0)) rfl ?_)
     refine Run.go rfl rfl rfl (sem_assign ((Value.bool false)) rfl ?_)
     refine Run.region_end ?_
     refine Run.ret ⟨.inr rfl, ?_⟩
     exact hS.imp fun h' hq => ⟨(some ⟨k9, 0, none⟩), none, 0, 0, (false), rfl, hq⟩
    ·have hS := hF hb70; clear hT hF
     refine Run.go rfl rfl rfl (sem_binI .i64 (i69) (5) (.bool false) rfl rfl (binI_gtr_f hb70) ?_)
     refine Run.go rfl rfl rfl (sem_pick false ((Value.bool false)) rfl rfl ?_)
     refine Run.go rfl rfl rfl (sem_move ((Value.bool false)) rfl ?_)
     refine Run.go rfl rfl rfl (sem_fieldAddr ⟨k57, 0, none⟩ 1 rfl TF.fld_199_1 ?_)
     obtain ⟨b71, s72, hl, hS⟩ := hS
     refine Run.go rfl rfl rfl (sem_loadN ⟨k57, 1, none⟩ [(Value.bool b71), (Value.string s72)] rfl TF.agg_111 TF.sz_111 hl ?_)
     refine Run.go rfl rfl rfl (sem_callL [(Value.agg #[(Value.bool b71), (Value.string s72)])] (TF.goes_112) rfl rfl (Spec.mono hS fun v h73 hv => ?_))
     obtain ⟨b74, rfl, hS⟩ := hv
     obtain ⟨hT, hF⟩ := hS
     cases b74
     ·have hS := hF rfl; clear hT hF
      refine Run.go rfl rfl rfl (sem_not false rfl ?_)
      refine Run.go rfl rfl rfl (sem_pick false ((Value.bool true)) rfl rfl ?_)
      refine Run.region_end ?_
      refine Run.condT rfl ?_
      refine Run.seq ?_
      refine Run.ops0 (idx := [0, 1, 2, 3]) rfl ?_
      refine Run.go rfl rfl rfl (sem_move ((Value.pointer (some ⟨k9, 0, none⟩))) rfl ?_)
      refine Run.go rfl rfl rfl (sem_assign ((Value.pointer (some ⟨k9, 0, none⟩))) rfl ?_)
      refine Run.go rfl rfl rfl (sem_assign ((Value.slice none 0 0)) rfl ?_)
      refine Run.go rfl rfl rfl (sem_assign ((Value.bool false)) rfl ?_)
      refine Run.region_end ?_
      refine Run.ret ⟨.inr rfl, ?_⟩
      exact hS.imp fun h' hq => ⟨(some ⟨k9, 0, none⟩), none, 0, 0, (false), rfl, hq⟩
     ·have hS := hT rfl; clear hT hF
      refine Run.go rfl rfl rfl (sem_not true rfl ?_)
      refine Run.go rfl rfl rfl (sem_pick false ((Value.bool false)) rfl rfl ?_)
      refine Run.region_end ?_
      refine Run.condF rfl ?_
      refine Run.skip ?_
      exact Run.of_fin (hS.imp fun h' hS => j60 _ _ ⟨⟨rfl, rfl, rfl, rfl, rfl, trivial⟩, hS⟩)
  ·have hS := hF hb51; clear hT hF
   refine Run.go rfl rfl rfl (sem_binI .i64 (i45) ((n2 : Nat)) (.bool false) rfl rfl (binI_lss_f hb51) ?_)
   refine Run.region_end ?_
   refine Run.seq ?_
   refine Run.condF rfl ?_
   refine Run.exit rfl ?_
   exact Run.of_fin (hS.imp fun h' hS => j12 _ _ ⟨⟨rfl, trivial⟩, hS⟩)
end Go.Proofs.Ythloobpjkeodgaa.H
