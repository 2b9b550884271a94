/- The functions do what they ask for. No condition. -/
import Derived.Test.YthloobpjkeodgaaXrS
namespace Go.Proofs.Ythloobpjkeodgaa.H
open Go
set_option linter.unusedVariables false
set_option maxRecDepth 100000

set_option maxHeartbeats 4000000 in
theorem C_countermandlaw18_RedoReads.of {B : RO} {s1 : ByteArray} {h : Heap} {Q : Bool → Heap → Prop} (hS : S_countermandlaw18_RedoReads B s1 h Q) : C_countermandlaw18_RedoReads B s1 h Q := by
 unfold S_countermandlaw18_RedoReads at hS
 unfold C_countermandlaw18_RedoReads
 refine Spec.of_run Try.func9 (N := 57) (rs := [ResultVar.tmp 2]) rfl rfl rfl (Nat.le_of_ble_eq_true rfl) ?_
 refine Run.seq ?_
 refine Run.ops0 (idx := [0]) rfl ?_
 refine Run.go rfl rfl rfl (sem_assign ((Value.bool false)) rfl ?_)
 refine Run.region_end ?_
 refine Run.seq ?_
 refine Run.seq ?_
 refine Run.ops0 (idx := [0, 1]) rfl ?_
 refine Run.go rfl rfl rfl (sem_callL [] (TF.goes_60) rfl rfl (Spec.mono hS fun v h3 hv => ?_))
 obtain ⟨b4, rfl, hS⟩ := hv
 obtain ⟨hT, hF⟩ := hS
 cases b4
 ·have hS := hF rfl; clear hT hF
  refine Run.go rfl rfl rfl (sem_not false rfl ?_)
  refine Run.region_end ?_
  refine Run.condT rfl ?_
  refine Run.seq ?_
  refine Run.ops0 (idx := [0]) rfl ?_
  refine Run.go rfl rfl rfl (sem_assign ((Value.bool false)) rfl ?_)
  refine Run.region_end ?_
  refine Run.ret ⟨.inr rfl, ?_⟩
  exact hS.imp fun h' hq => ⟨(false), rfl, hq⟩
 ·have hS := hT rfl; clear hT hF
  refine Run.go rfl rfl rfl (sem_not true rfl ?_)
  refine Run.region_end ?_
  refine Run.condF rfl ?_
  refine Run.skip ?_
  refine Run.seq ?_
  refine Run.seq ?_
  refine Run.ops0 (idx := [0, 1, 2]) rfl ?_
  refine Run.go rfl rfl rfl (sem_move ((Value.string s1)) rfl ?_)
  refine Run.go rfl rfl rfl (sem_lenStr s1 rfl TF.isStr_9 ?_)
  obtain ⟨hT, hF⟩ := hS
  by_cases hb5 : ((ByteArray.size s1 : Nat) : Int) > (300)
  ·have hS := hT hb5; clear hT hF
   refine Run.go rfl rfl rfl (sem_binI .i64 ((ByteArray.size s1 : Nat)) (300) (.bool true) rfl rfl (binI_gtr_t hb5) ?_)
   refine Run.region_end ?_
   refine Run.condT rfl ?_
   refine Run.seq ?_
   refine Run.ops0 (idx := [0]) rfl ?_
   refine Run.go rfl rfl rfl (sem_assign ((Value.bool true)) rfl ?_)
   refine Run.region_end ?_
   refine Run.ret ⟨.inr rfl, ?_⟩
   exact hS.imp fun h' hq => ⟨(true), rfl, hq⟩
  ·have hS := hF hb5; clear hT hF
   refine Run.go rfl rfl rfl (sem_binI .i64 ((ByteArray.size s1 : Nat)) (300) (.bool false) rfl rfl (binI_gtr_f hb5) ?_)
   refine Run.region_end ?_
   refine Run.condF rfl ?_
   refine Run.skip ?_
   refine Run.seq ?_
   refine Run.ops0 (idx := [0, 1, 2, 3, 4, 5, 6, 7, 8]) rfl ?_
   refine Run.go rfl rfl rfl (sem_move ((Value.string s1)) rfl ?_)
   refine Run.go rfl rfl rfl (sem_callL [(Value.string s1)] (TF.goes_61) rfl rfl (Spec.mono hS fun v h6 hv => ?_))
   obtain ⟨i7, a8, n9, c10, b11, rfl, hS⟩ := hv
   refine Run.go rfl rfl rfl (sem_move ((Value.tuple #[(Value.int .i64 (i7)), (Value.slice a8 n9 c10), (Value.bool b11)])) rfl ?_)
   refine Run.go rfl rfl rfl (sem_extract #[(Value.int .i64 (i7)), (Value.slice a8 n9 c10), (Value.bool b11)] ((Value.int .i64 (i7))) rfl rfl ?_)
   refine Run.go rfl rfl rfl (sem_extract #[(Value.int .i64 (i7)), (Value.slice a8 n9 c10), (Value.bool b11)] ((Value.slice a8 n9 c10)) rfl rfl ?_)
   obtain ⟨hT, hF⟩ := hS
   cases b11
   ·have hS := hF rfl; clear hT hF
    refine Run.go rfl rfl rfl (sem_extract #[(Value.int .i64 (i7)), (Value.slice a8 n9 c10), (Value.bool false)] (.bool false) rfl rfl ?_)
    refine Run.go rfl rfl rfl (sem_assign ((Value.int .i64 (i7))) rfl ?_)
    refine Run.go rfl rfl rfl (sem_assign ((Value.slice a8 n9 c10)) rfl ?_)
    refine Run.go rfl rfl rfl (sem_assign ((Value.bool false)) rfl ?_)
    refine Run.region_end ?_
    refine Run.seq ?_
    refine Run.ops0 (idx := [0, 1, 2, 3, 4, 5, 6, 7, 8]) rfl ?_
    refine Run.go rfl rfl rfl (sem_move ((Value.string s1)) rfl ?_)
    refine Run.go rfl rfl rfl (sem_callL [(Value.string s1)] (TF.goes_62) rfl rfl (Spec.mono hS fun v h12 hv => ?_))
    obtain ⟨i13, a14, n15, c16, b17, rfl, hS⟩ := hv
    refine Run.go rfl rfl rfl (sem_move ((Value.tuple #[(Value.int .i64 (i13)), (Value.slice a14 n15 c16), (Value.bool b17)])) rfl ?_)
    refine Run.go rfl rfl rfl (sem_extract #[(Value.int .i64 (i13)), (Value.slice a14 n15 c16), (Value.bool b17)] ((Value.int .i64 (i13))) rfl rfl ?_)
    refine Run.go rfl rfl rfl (sem_extract #[(Value.int .i64 (i13)), (Value.slice a14 n15 c16), (Value.bool b17)] ((Value.slice a14 n15 c16)) rfl rfl ?_)
    obtain ⟨hT, hF⟩ := hS
    cases b17
    ·have hS := hF rfl; clear hT hF
     refine Run.go rfl rfl rfl (sem_extract #[(Value.int .i64 (i13)), (Value.slice a14 n15 c16), (Value.bool false)] (.bool false) rfl rfl ?_)
     refine Run.go rfl rfl rfl (sem_assign ((Value.int .i64 (i13))) rfl ?_)
     refine Run.go rfl rfl rfl (sem_assign ((Value.slice a14 n15 c16)) rfl ?_)
     refine Run.go rfl rfl rfl (sem_assign ((Value.bool false)) rfl ?_)
     refine Run.region_end ?_
     refine Run.seq ?_
     refine Run.seq ?_
     refine Run.ops0 (idx := [0, 1]) rfl ?_
     refine Run.go rfl rfl rfl (sem_move ((Value.bool false)) rfl ?_)
     refine Run.go rfl rfl rfl (sem_not false rfl ?_)
     refine Run.region_end ?_
     refine Run.condT rfl ?_
     refine Run.seq ?_
     refine Run.ops0 (idx := [0, 1, 2, 3, 4, 5, 6, 7, 8, 9, 10, 11]) rfl ?_
     refine Run.go rfl rfl rfl (sem_move ((Value.bool false)) rfl ?_)
     refine Run.go rfl rfl rfl (sem_not false rfl ?_)
     refine Run.go rfl rfl rfl (sem_move ((Value.bool true)) rfl ?_)
     refine Run.go rfl rfl rfl (sem_move ((Value.int .i64 (i7))) rfl ?_)
     obtain ⟨hT, hF⟩ := hS
     by_cases hb18 : (i7 : Int) = 0
     ·have hS := hT hb18; clear hT hF
      refine Run.go rfl rfl rfl (sem_binI .i64 (i7) (0) (.bool true) rfl rfl (binI_eql_t hb18) ?_)
      refine Run.go rfl rfl rfl (sem_pick true ((Value.bool true)) rfl rfl ?_)
      refine Run.go rfl rfl rfl (sem_move ((Value.bool true)) rfl ?_)
      refine Run.go rfl rfl rfl (sem_move ((Value.slice a8 n9 c10)) rfl ?_)
      refine Run.go rfl rfl rfl (sem_lenSl a8 n9 c10 rfl TF.sl_96 ?_)
      refine Run.go rfl rfl rfl (sem_binI .i64 ((n9 : Nat)) (0) ((Value.bool (((n9 : Nat) : Int) == (0)))) rfl rfl rfl ?_)
      refine Run.go rfl rfl rfl (sem_pick true ((Value.bool (((n9 : Nat) : Int) == (0)))) rfl rfl ?_)
      refine Run.go rfl rfl rfl (sem_assign ((Value.bool (((n9 : Nat) : Int) == (0)))) rfl ?_)
      refine Run.region_end ?_
      refine Run.ret ⟨.inr rfl, ?_⟩
      exact hS.imp fun h' hq => ⟨((((n9 : Nat) : Int) == (0))), rfl, hq⟩
     ·have hS := hF hb18; clear hT hF
      refine Run.go rfl rfl rfl (sem_binI .i64 (i7) (0) (.bool false) rfl rfl (binI_eql_f hb18) ?_)
      refine Run.go rfl rfl rfl (sem_pick true ((Value.bool false)) rfl rfl ?_)
      refine Run.go rfl rfl rfl (sem_move ((Value.bool false)) rfl ?_)
      refine Run.no rfl rfl rfl ?_
      refine Run.no rfl rfl rfl ?_
      refine Run.no rfl rfl rfl ?_
      refine Run.go rfl rfl rfl (sem_pick false ((Value.bool false)) rfl rfl ?_)
      refine Run.go rfl rfl rfl (sem_assign ((Value.bool false)) rfl ?_)
      refine Run.region_end ?_
      refine Run.ret ⟨.inr rfl, ?_⟩
      exact hS.imp fun h' hq => ⟨(false), rfl, hq⟩
    ·have hS := hT rfl; clear hT hF
     refine Run.go rfl rfl rfl (sem_extract #[(Value.int .i64 (i13)), (Value.slice a14 n15 c16), (Value.bool true)] (.bool true) rfl rfl ?_)
     refine Run.go rfl rfl rfl (sem_assign ((Value.int .i64 (i13))) rfl ?_)
     refine Run.go rfl rfl rfl (sem_assign ((Value.slice a14 n15 c16)) rfl ?_)
     refine Run.go rfl rfl rfl (sem_assign ((Value.bool true)) rfl ?_)
     refine Run.region_end ?_
     refine Run.seq ?_
     refine Run.seq ?_
     refine Run.ops0 (idx := [0, 1]) rfl ?_
     refine Run.go rfl rfl rfl (sem_move ((Value.bool true)) rfl ?_)
     refine Run.go rfl rfl rfl (sem_not true rfl ?_)
     refine Run.region_end ?_
     refine Run.condF rfl ?_
     refine Run.skip ?_
     refine Run.seq ?_
     refine Run.ops0 (idx := [0, 1, 2, 3, 4, 5, 6, 7, 8, 9, 10, 11, 12, 13, 14, 15, 16, 17, 18]) rfl ?_
     refine Run.go rfl rfl rfl (sem_move ((Value.bool false)) rfl ?_)
     refine Run.go rfl rfl rfl (sem_move ((Value.bool false)) rfl ?_)
     refine Run.no rfl rfl rfl ?_
     refine Run.no rfl rfl rfl ?_
     refine Run.no rfl rfl rfl ?_
     refine Run.go rfl rfl rfl (sem_pick false ((Value.bool false)) rfl rfl ?_)
     refine Run.go rfl rfl rfl (sem_move ((Value.bool false)) rfl ?_)
     refine Run.no rfl rfl rfl ?_
     refine Run.no rfl rfl rfl ?_
     refine Run.no rfl rfl rfl ?_
     refine Run.go rfl rfl rfl (sem_pick false ((Value.bool false)) rfl rfl ?_)
     refine Run.go rfl rfl rfl (sem_move ((Value.bool false)) rfl ?_)
     refine Run.no rfl rfl rfl ?_
     refine Run.no rfl rfl rfl ?_
     refine Run.no rfl rfl rfl ?_
     refine Run.no rfl rfl rfl ?_
     refine Run.no rfl rfl rfl ?_
     refine Run.go rfl rfl rfl (sem_pick false ((Value.bool false)) rfl rfl ?_)
     refine Run.go rfl rfl rfl (sem_assign ((Value.bool false)) rfl ?_)
     refine Run.region_end ?_
     refine Run.ret ⟨.inr rfl, ?_⟩
     exact hS.imp fun h' hq => ⟨(false), rfl, hq⟩
   ·have hS := hT rfl; clear hT hF
    refine Run.go rfl rfl rfl (sem_extract #[(Value.int .i64 (i7)), (Value.slice a8 n9 c10), (Value.bool true)] (.bool true) rfl rfl ?_)
    refine Run.go rfl rfl rfl (sem_assign ((Value.int .i64 (i7))) rfl ?_)
    refine Run.go rfl rfl rfl (sem_assign ((Value.slice a8 n9 c10)) rfl ?_)
    refine Run.go rfl rfl rfl (sem_assign ((Value.bool true)) rfl ?_)
    refine Run.region_end ?_
    refine Run.seq ?_
    refine Run.ops0 (idx := [0, 1, 2, 3, 4, 5, 6, 7, 8]) rfl ?_
    refine Run.go rfl rfl rfl (sem_move ((Value.string s1)) rfl ?_)
    refine Run.go rfl rfl rfl (sem_callL [(Value.string s1)] (TF.goes_62) rfl rfl (Spec.mono hS fun v h19 hv => ?_))
    obtain ⟨i20, a21, n22, c23, b24, rfl, hS⟩ := hv
    refine Run.go rfl rfl rfl (sem_move ((Value.tuple #[(Value.int .i64 (i20)), (Value.slice a21 n22 c23), (Value.bool b24)])) rfl ?_)
    refine Run.go rfl rfl rfl (sem_extract #[(Value.int .i64 (i20)), (Value.slice a21 n22 c23), (Value.bool b24)] ((Value.int .i64 (i20))) rfl rfl ?_)
    refine Run.go rfl rfl rfl (sem_extract #[(Value.int .i64 (i20)), (Value.slice a21 n22 c23), (Value.bool b24)] ((Value.slice a21 n22 c23)) rfl rfl ?_)
    obtain ⟨hT, hF⟩ := hS
    cases b24
    ·have hS := hF rfl; clear hT hF
     refine Run.go rfl rfl rfl (sem_extract #[(Value.int .i64 (i20)), (Value.slice a21 n22 c23), (Value.bool false)] (.bool false) rfl rfl ?_)
     refine Run.go rfl rfl rfl (sem_assign ((Value.int .i64 (i20))) rfl ?_)
     refine Run.go rfl rfl rfl (sem_assign ((Value.slice a21 n22 c23)) rfl ?_)
     refine Run.go rfl rfl rfl (sem_assign ((Value.bool false)) rfl ?_)
     refine Run.region_end ?_
     refine Run.seq ?_
     refine Run.seq ?_
     refine Run.ops0 (idx := [0, 1]) rfl ?_
     refine Run.go rfl rfl rfl (sem_move ((Value.bool false)) rfl ?_)
     refine Run.go rfl rfl rfl (sem_not false rfl ?_)
     refine Run.region_end ?_
     refine Run.condT rfl ?_
     refine Run.seq ?_
     refine Run.ops0 (idx := [0, 1, 2, 3, 4, 5, 6, 7, 8, 9, 10, 11]) rfl ?_
     refine Run.go rfl rfl rfl (sem_move ((Value.bool true)) rfl ?_)
     refine Run.go rfl rfl rfl (sem_not true rfl ?_)
     refine Run.go rfl rfl rfl (sem_move ((Value.bool false)) rfl ?_)
     refine Run.no rfl rfl rfl ?_
     refine Run.no rfl rfl rfl ?_
     refine Run.go rfl rfl rfl (sem_pick false ((Value.bool false)) rfl rfl ?_)
     refine Run.go rfl rfl rfl (sem_move ((Value.bool false)) rfl ?_)
     refine Run.no rfl rfl rfl ?_
     refine Run.no rfl rfl rfl ?_
     refine Run.no rfl rfl rfl ?_
     refine Run.go rfl rfl rfl (sem_pick false ((Value.bool false)) rfl rfl ?_)
     refine Run.go rfl rfl rfl (sem_assign ((Value.bool false)) rfl ?_)
     refine Run.region_end ?_
     refine Run.ret ⟨.inr rfl, ?_⟩
     exact hS.imp fun h' hq => ⟨(false), rfl, hq⟩
    ·have hS := hT rfl; clear hT hF
     refine Run.go rfl rfl rfl (sem_extract #[(Value.int .i64 (i20)), (Value.slice a21 n22 c23), (Value.bool true)] (.bool true) rfl rfl ?_)
     refine Run.go rfl rfl rfl (sem_assign ((Value.int .i64 (i20))) rfl ?_)
     refine Run.go rfl rfl rfl (sem_assign ((Value.slice a21 n22 c23)) rfl ?_)
     refine Run.go rfl rfl rfl (sem_assign ((Value.bool true)) rfl ?_)
     refine Run.region_end ?_
     refine Run.seq ?_
     refine Run.seq ?_
     refine Run.ops0 (idx := [0, 1]) rfl ?_
     refine Run.go rfl rfl rfl (sem_move ((Value.bool true)) rfl ?_)
     refine Run.go rfl rfl rfl (sem_not true rfl ?_)
     refine Run.region_end ?_
     refine Run.condF rfl ?_
     refine Run.skip ?_
     refine Run.seq ?_
     refine Run.ops0 (idx := [0, 1, 2, 3, 4, 5, 6, 7, 8, 9, 10, 11, 12, 13, 14, 15, 16, 17, 18]) rfl ?_
     refine Run.go rfl rfl rfl (sem_move ((Value.bool true)) rfl ?_)
     refine Run.go rfl rfl rfl (sem_move ((Value.bool true)) rfl ?_)
     refine Run.go rfl rfl rfl (sem_move ((Value.int .i64 (i7))) rfl ?_)
     refine Run.go rfl rfl rfl (sem_move ((Value.int .i64 (i20))) rfl ?_)
     obtain ⟨hT, hF⟩ := hS
     by_cases hb25 : (i7 : Int) = i20
     ·have hS := hT hb25; clear hT hF
      refine Run.go rfl rfl rfl (sem_binI .i64 (i7) (i20) (.bool true) rfl rfl (binI_eql_t hb25) ?_)
      refine Run.go rfl rfl rfl (sem_pick true ((Value.bool true)) rfl rfl ?_)
      refine Run.go rfl rfl rfl (sem_move ((Value.bool true)) rfl ?_)
      refine Run.go rfl rfl rfl (sem_move ((Value.slice a8 n9 c10)) rfl ?_)
      refine Run.go rfl rfl rfl (sem_move ((Value.slice a21 n22 c23)) rfl ?_)
      refine Run.go rfl rfl rfl (sem_callL [(Value.slice a8 n9 c10), (Value.slice a21 n22 c23)] (TF.goes_63) rfl rfl (Spec.mono hS fun v h26 hv => ?_))
      obtain ⟨b27, rfl, hS⟩ := hv
      obtain ⟨hT, hF⟩ := hS
      cases b27
      ·have hS := hF rfl; clear hT hF
       refine Run.go rfl rfl rfl (sem_pick true ((Value.bool false)) rfl rfl ?_)
       refine Run.go rfl rfl rfl (sem_move ((Value.bool false)) rfl ?_)
       refine Run.no rfl rfl rfl ?_
       refine Run.no rfl rfl rfl ?_
       refine Run.no rfl rfl rfl ?_
       refine Run.no rfl rfl rfl ?_
       refine Run.no rfl rfl rfl ?_
       refine Run.go rfl rfl rfl (sem_pick false ((Value.bool false)) rfl rfl ?_)
       refine Run.go rfl rfl rfl (sem_assign ((Value.bool false)) rfl ?_)
       refine Run.region_end ?_
       refine Run.ret ⟨.inr rfl, ?_⟩
       exact hS.imp fun h' hq => ⟨(false), rfl, hq⟩
      ·have hS := hT rfl; clear hT hF
       refine Run.go rfl rfl rfl (sem_pick true ((Value.bool true)) rfl rfl ?_)
       refine Run.go rfl rfl rfl (sem_move ((Value.bool true)) rfl ?_)
       refine Run.go rfl rfl rfl (sem_move ((Value.int .i64 (i20))) rfl ?_)
       refine Run.go rfl rfl rfl (sem_move ((Value.slice a21 n22 c23)) rfl ?_)
       refine Run.go rfl rfl rfl (sem_callL [(Value.int .i64 (i20)), (Value.slice a21 n22 c23)] (TF.goes_64) rfl rfl (Spec.mono hS fun v h28 hv => ?_))
       obtain ⟨s29, rfl, hS⟩ := hv
       refine Run.go rfl rfl rfl (sem_move ((Value.string s1)) rfl ?_)
       refine Run.go rfl rfl rfl (sem_strEq s29 s1 rfl rfl ?_)
       refine Run.go rfl rfl rfl (sem_pick true ((Value.bool (decide (s29 = s1)))) rfl rfl ?_)
       refine Run.go rfl rfl rfl (sem_assign ((Value.bool (decide (s29 = s1)))) rfl ?_)
       refine Run.region_end ?_
       refine Run.ret ⟨.inr rfl, ?_⟩
       exact hS.imp fun h' hq => ⟨((decide (s29 = s1))), rfl, hq⟩
     ·have hS := hF hb25; clear hT hF
      refine Run.go rfl rfl rfl (sem_binI .i64 (i7) (i20) (.bool false) rfl rfl (binI_eql_f hb25) ?_)
      refine Run.go rfl rfl rfl (sem_pick true ((Value.bool false)) rfl rfl ?_)
      refine Run.go rfl rfl rfl (sem_move ((Value.bool false)) rfl ?_)
      refine Run.no rfl rfl rfl ?_
      refine Run.no rfl rfl rfl ?_
      refine Run.no rfl rfl rfl ?_
      refine Run.go rfl rfl rfl (sem_pick false ((Value.bool false)) rfl rfl ?_)
      refine Run.go rfl rfl rfl (sem_move ((Value.bool false)) rfl ?_)
      refine Run.no rfl rfl rfl ?_
      refine Run.no rfl rfl rfl ?_
      refine Run.no rfl rfl rfl ?_
      refine Run.no rfl rfl rfl ?_
      refine Run.no rfl rfl rfl ?_
      refine Run.go rfl rfl rfl (sem_pick false ((Value.bool false)) rfl rfl ?_)
      refine Run.go rfl rfl rfl (sem_assign ((Value.bool false)) rfl ?_)
      refine Run.region_end ?_
      refine Run.ret ⟨.inr rfl, ?_⟩
      exact hS.imp fun h' hq => ⟨(false), rfl, hq⟩
set_option maxHeartbeats 4000000 in
theorem C_countermandlaw18_RedoBytes.of {B : RO} {i1 : Int} {a2 : Option Addr} {n3 : Nat} {c4 : Nat} {h : Heap} {Q : Bool → Heap → Prop} (hS : S_countermandlaw18_RedoBytes B i1 a2 n3 c4 h Q) : C_countermandlaw18_RedoBytes B i1 a2 n3 c4 h Q := by
 unfold S_countermandlaw18_RedoBytes at hS
 unfold C_countermandlaw18_RedoBytes
 refine Spec.of_run Try.func10 (N := 57) (rs := [ResultVar.tmp 4]) rfl rfl rfl (Nat.le_of_ble_eq_true rfl) ?_
 refine Run.seq ?_
 refine Run.ops0 (idx := [0]) rfl ?_
 refine Run.go rfl rfl rfl (sem_assign ((Value.bool false)) rfl ?_)
 refine Run.region_end ?_
 refine Run.seq ?_
 refine Run.seq ?_
 refine Run.ops0 (idx := [0, 1]) rfl ?_
 refine Run.go rfl rfl rfl (sem_callL [] (TF.goes_60) rfl rfl (Spec.mono hS fun v h6 hv => ?_))
 obtain ⟨b7, rfl, hS⟩ := hv
 obtain ⟨hT, hF⟩ := hS
 cases b7
 ·have hS := hF rfl; clear hT hF
  refine Run.go rfl rfl rfl (sem_not false rfl ?_)
  refine Run.region_end ?_
  refine Run.condT rfl ?_
  refine Run.seq ?_
  refine Run.ops0 (idx := [0]) rfl ?_
  refine Run.go rfl rfl rfl (sem_assign ((Value.bool false)) rfl ?_)
  refine Run.region_end ?_
  refine Run.ret ⟨.inr rfl, ?_⟩
  exact hS.imp fun h' hq => ⟨(false), rfl, hq⟩
 ·have hS := hT rfl; clear hT hF
  refine Run.go rfl rfl rfl (sem_not true rfl ?_)
  refine Run.region_end ?_
  refine Run.condF rfl ?_
  refine Run.skip ?_
  refine Run.seq ?_
  refine Run.ops0 (idx := [0, 1, 2, 3, 4, 5, 6, 7, 8]) rfl ?_
  refine Run.go rfl rfl rfl (sem_move ((Value.slice a2 n3 c4)) rfl ?_)
  refine Run.go rfl rfl rfl (sem_callL [(Value.slice a2 n3 c4)] (TF.goes_65) rfl rfl (Spec.mono hS fun v h8 hv => ?_))
  obtain ⟨p9, a10, n11, c12, b13, rfl, hS⟩ := hv
  refine Run.go rfl rfl rfl (sem_move ((Value.tuple #[(Value.pointer p9), (Value.slice a10 n11 c12), (Value.bool b13)])) rfl ?_)
  refine Run.go rfl rfl rfl (sem_extract #[(Value.pointer p9), (Value.slice a10 n11 c12), (Value.bool b13)] ((Value.pointer p9)) rfl rfl ?_)
  refine Run.go rfl rfl rfl (sem_extract #[(Value.pointer p9), (Value.slice a10 n11 c12), (Value.bool b13)] ((Value.slice a10 n11 c12)) rfl rfl ?_)
  obtain ⟨hT, hF⟩ := hS
  cases b13
  ·have hS := hF rfl; clear hT hF
   refine Run.go rfl rfl rfl (sem_extract #[(Value.pointer p9), (Value.slice a10 n11 c12), (Value.bool false)] (.bool false) rfl rfl ?_)
   refine Run.go rfl rfl rfl (sem_assign ((Value.pointer p9)) rfl ?_)
   refine Run.go rfl rfl rfl (sem_assign ((Value.slice a10 n11 c12)) rfl ?_)
   refine Run.go rfl rfl rfl (sem_assign ((Value.bool false)) rfl ?_)
   refine Run.region_end ?_
   refine Run.seqJ (fun e h15 => Agree [(0, (Value.int .i64 (i1))), (5, (Value.pointer p9)), (6, (Value.slice a10 n11 c12))] e ∧ S_countermandlaw18_RedoBytes_J1 B i1 p9 a10 n11 c12 h15 Q) ?_ fun j14 => ?_
   ·rintro e h15 ⟨hag, hS⟩
    refine Run.env hag ?_; clear hag
    refine Run.seq ?_
    refine Run.ops0 (idx := [0, 1, 2, 3]) rfl ?_
    refine Run.go rfl rfl rfl (sem_move ((Value.int .i64 (i1))) rfl ?_)
    refine Run.go rfl rfl rfl (sem_move ((Value.pointer p9)) rfl ?_)
    refine Run.go rfl rfl rfl (sem_callL [(Value.int .i64 (i1)), (Value.pointer p9)] (TF.goes_66) rfl rfl (Spec.mono hS fun v h16 hv => ?_))
    obtain ⟨s17, rfl, hS⟩ := hv
    refine Run.go rfl rfl rfl (sem_assign ((Value.string s17)) rfl ?_)
    refine Run.region_end ?_
    refine Run.seq ?_
    refine Run.ops0 (idx := [0, 1, 2, 3, 4, 5, 6, 7, 8]) rfl ?_
    refine Run.go rfl rfl rfl (sem_move ((Value.string s17)) rfl ?_)
    refine Run.go rfl rfl rfl (sem_callL [(Value.string s17)] (TF.goes_61) rfl rfl (Spec.mono hS fun v h18 hv => ?_))
    obtain ⟨i19, a20, n21, c22, b23, rfl, hS⟩ := hv
    refine Run.go rfl rfl rfl (sem_move ((Value.tuple #[(Value.int .i64 (i19)), (Value.slice a20 n21 c22), (Value.bool b23)])) rfl ?_)
    refine Run.go rfl rfl rfl (sem_extract #[(Value.int .i64 (i19)), (Value.slice a20 n21 c22), (Value.bool b23)] ((Value.int .i64 (i19))) rfl rfl ?_)
    refine Run.go rfl rfl rfl (sem_extract #[(Value.int .i64 (i19)), (Value.slice a20 n21 c22), (Value.bool b23)] ((Value.slice a20 n21 c22)) rfl rfl ?_)
    obtain ⟨hT, hF⟩ := hS
    cases b23
    ·have hS := hF rfl; clear hT hF
     refine Run.go rfl rfl rfl (sem_extract #[(Value.int .i64 (i19)), (Value.slice a20 n21 c22), (Value.bool false)] (.bool false) rfl rfl ?_)
     refine Run.go rfl rfl rfl (sem_assign ((Value.int .i64 (i19))) rfl ?_)
     refine Run.go rfl rfl rfl (sem_assign ((Value.slice a20 n21 c22)) rfl ?_)
     refine Run.go rfl rfl rfl (sem_assign ((Value.bool false)) rfl ?_)
     refine Run.region_end ?_
     refine Run.seq ?_
     refine Run.ops0 (idx := [0, 1, 2, 3, 4, 5, 6, 7, 8, 9, 10, 11, 12, 13, 14, 15, 16, 17, 18]) rfl ?_
     refine Run.go rfl rfl rfl (sem_move ((Value.string s17)) rfl ?_)
     refine Run.go rfl rfl rfl (sem_move ((Value.int .i64 (i1))) rfl ?_)
     refine Run.go rfl rfl rfl (sem_move ((Value.slice a10 n11 c12)) rfl ?_)
     refine Run.go rfl rfl rfl (sem_callL [(Value.int .i64 (i1)), (Value.slice a10 n11 c12)] (TF.goes_64) rfl rfl (Spec.mono hS fun v h24 hv => ?_))
     obtain ⟨s25, rfl, hS⟩ := hv
     obtain ⟨hT, hF⟩ := hS
     by_cases hb26 : s17 = s25
     ·have hS := hT hb26; clear hT hF
      refine Run.go rfl rfl rfl (sem_strEqT s17 s25 rfl rfl hb26 ?_)
      refine Run.go rfl rfl rfl (sem_move ((Value.bool true)) rfl ?_)
      refine Run.go rfl rfl rfl (sem_move ((Value.bool false)) rfl ?_)
      refine Run.go rfl rfl rfl (sem_pick true ((Value.bool false)) rfl rfl ?_)
      refine Run.go rfl rfl rfl (sem_move ((Value.bool false)) rfl ?_)
      refine Run.no rfl rfl rfl ?_
      refine Run.no rfl rfl rfl ?_
      refine Run.no rfl rfl rfl ?_
      refine Run.go rfl rfl rfl (sem_pick false ((Value.bool false)) rfl rfl ?_)
      refine Run.go rfl rfl rfl (sem_move ((Value.bool false)) rfl ?_)
      refine Run.no rfl rfl rfl ?_
      refine Run.no rfl rfl rfl ?_
      refine Run.no rfl rfl rfl ?_
      refine Run.go rfl rfl rfl (sem_pick false ((Value.bool false)) rfl rfl ?_)
      refine Run.go rfl rfl rfl (sem_assign ((Value.bool false)) rfl ?_)
      refine Run.region_end ?_
      refine Run.ret ⟨.inr rfl, ?_⟩
      exact hS.imp fun h' hq => ⟨(false), rfl, hq⟩
     ·have hS := hF hb26; clear hT hF
      refine Run.go rfl rfl rfl (sem_strEqF s17 s25 rfl rfl hb26 ?_)
      refine Run.go rfl rfl rfl (sem_move ((Value.bool false)) rfl ?_)
      refine Run.no rfl rfl rfl ?_
      refine Run.go rfl rfl rfl (sem_pick false ((Value.bool false)) rfl rfl ?_)
      refine Run.go rfl rfl rfl (sem_move ((Value.bool false)) rfl ?_)
      refine Run.no rfl rfl rfl ?_
      refine Run.no rfl rfl rfl ?_
      refine Run.no rfl rfl rfl ?_
      refine Run.go rfl rfl rfl (sem_pick false ((Value.bool false)) rfl rfl ?_)
      refine Run.go rfl rfl rfl (sem_move ((Value.bool false)) rfl ?_)
      refine Run.no rfl rfl rfl ?_
      refine Run.no rfl rfl rfl ?_
      refine Run.no rfl rfl rfl ?_
      refine Run.go rfl rfl rfl (sem_pick false ((Value.bool false)) rfl rfl ?_)
      refine Run.go rfl rfl rfl (sem_assign ((Value.bool false)) rfl ?_)
      refine Run.region_end ?_
      refine Run.ret ⟨.inr rfl, ?_⟩
      exact hS.imp fun h' hq => ⟨(false), rfl, hq⟩
    ·have hS := hT rfl; clear hT hF
     refine Run.go rfl rfl rfl (sem_extract #[(Value.int .i64 (i19)), (Value.slice a20 n21 c22), (Value.bool true)] (.bool true) rfl rfl ?_)
     refine Run.go rfl rfl rfl (sem_assign ((Value.int .i64 (i19))) rfl ?_)
     refine Run.go rfl rfl rfl (sem_assign ((Value.slice a20 n21 c22)) rfl ?_)
     refine Run.go rfl rfl rfl (sem_assign ((Value.bool true)) rfl ?_)
     refine Run.region_end ?_
     refine Run.seq ?_
     refine Run.ops0 (idx := [0, 1, 2, 3, 4, 5, 6, 7, 8, 9, 10, 11, 12, 13, 14, 15, 16, 17, 18]) rfl ?_
     refine Run.go rfl rfl rfl (sem_move ((Value.string s17)) rfl ?_)
     refine Run.go rfl rfl rfl (sem_move ((Value.int .i64 (i1))) rfl ?_)
     refine Run.go rfl rfl rfl (sem_move ((Value.slice a10 n11 c12)) rfl ?_)
     refine Run.go rfl rfl rfl (sem_callL [(Value.int .i64 (i1)), (Value.slice a10 n11 c12)] (TF.goes_64) rfl rfl (Spec.mono hS fun v h27 hv => ?_))
     obtain ⟨s28, rfl, hS⟩ := hv
     obtain ⟨hT, hF⟩ := hS
     by_cases hb29 : s17 = s28
     ·have hS := hT hb29; clear hT hF
      refine Run.go rfl rfl rfl (sem_strEqT s17 s28 rfl rfl hb29 ?_)
      refine Run.go rfl rfl rfl (sem_move ((Value.bool true)) rfl ?_)
      refine Run.go rfl rfl rfl (sem_move ((Value.bool true)) rfl ?_)
      refine Run.go rfl rfl rfl (sem_pick true ((Value.bool true)) rfl rfl ?_)
      refine Run.go rfl rfl rfl (sem_move ((Value.bool true)) rfl ?_)
      refine Run.go rfl rfl rfl (sem_move ((Value.int .i64 (i19))) rfl ?_)
      refine Run.go rfl rfl rfl (sem_move ((Value.int .i64 (i1))) rfl ?_)
      obtain ⟨hT, hF⟩ := hS
      by_cases hb30 : (i19 : Int) = i1
      ·have hS := hT hb30; clear hT hF
       refine Run.go rfl rfl rfl (sem_binI .i64 (i19) (i1) (.bool true) rfl rfl (binI_eql_t hb30) ?_)
       refine Run.go rfl rfl rfl (sem_pick true ((Value.bool true)) rfl rfl ?_)
       refine Run.go rfl rfl rfl (sem_move ((Value.bool true)) rfl ?_)
       refine Run.go rfl rfl rfl (sem_move ((Value.slice a20 n21 c22)) rfl ?_)
       refine Run.go rfl rfl rfl (sem_move ((Value.slice a10 n11 c12)) rfl ?_)
       refine Run.go rfl rfl rfl (sem_callL [(Value.slice a20 n21 c22), (Value.slice a10 n11 c12)] (TF.goes_63) rfl rfl (Spec.mono hS fun v h31 hv => ?_))
       obtain ⟨b32, rfl, hS⟩ := hv
       refine Run.go rfl rfl rfl (sem_pick true ((Value.bool b32)) rfl rfl ?_)
       refine Run.go rfl rfl rfl (sem_assign ((Value.bool b32)) rfl ?_)
       refine Run.region_end ?_
       refine Run.ret ⟨.inr rfl, ?_⟩
       exact hS.imp fun h' hq => ⟨(b32), rfl, hq⟩
      ·have hS := hF hb30; clear hT hF
       refine Run.go rfl rfl rfl (sem_binI .i64 (i19) (i1) (.bool false) rfl rfl (binI_eql_f hb30) ?_)
       refine Run.go rfl rfl rfl (sem_pick true ((Value.bool false)) rfl rfl ?_)
       refine Run.go rfl rfl rfl (sem_move ((Value.bool false)) rfl ?_)
       refine Run.no rfl rfl rfl ?_
       refine Run.no rfl rfl rfl ?_
       refine Run.no rfl rfl rfl ?_
       refine Run.go rfl rfl rfl (sem_pick false ((Value.bool false)) rfl rfl ?_)
       refine Run.go rfl rfl rfl (sem_assign ((Value.bool false)) rfl ?_)
       refine Run.region_end ?_
       refine Run.ret ⟨.inr rfl, ?_⟩
       exact hS.imp fun h' hq => ⟨(false), rfl, hq⟩
     ·have hS := hF hb29; clear hT hF
      refine Run.go rfl rfl rfl (sem_strEqF s17 s28 rfl rfl hb29 ?_)
      refine Run.go rfl rfl rfl (sem_move ((Value.bool false)) rfl ?_)
      refine Run.no rfl rfl rfl ?_
      refine Run.go rfl rfl rfl (sem_pick false ((Value.bool false)) rfl rfl ?_)
      refine Run.go rfl rfl rfl (sem_move ((Value.bool false)) rfl ?_)
      refine Run.no rfl rfl rfl ?_
      refine Run.no rfl rfl rfl ?_
      refine Run.no rfl rfl rfl ?_
      refine Run.go rfl rfl rfl (sem_pick false ((Value.bool false)) rfl rfl ?_)
      refine Run.go rfl rfl rfl (sem_move ((Value.bool false)) rfl ?_)
      refine Run.no rfl rfl rfl ?_
      refine Run.no rfl rfl rfl ?_
      refine Run.no rfl rfl rfl ?_
      refine Run.go rfl rfl rfl (sem_pick false ((Value.bool false)) rfl rfl ?_)
      refine Run.go rfl rfl rfl (sem_assign ((Value.bool false)) rfl ?_)
      refine Run.region_end ?_
      refine Run.ret ⟨.inr rfl, ?_⟩
      exact hS.imp fun h' hq => ⟨(false), rfl, hq⟩
   refine Run.seq ?_
   refine Run.ops0 (idx := [0, 1, 2, 3, 4, 5, 6, 7, 8, 9]) rfl ?_
   refine Run.go rfl rfl rfl (sem_move ((Value.bool false)) rfl ?_)
   refine Run.go rfl rfl rfl (sem_not false rfl ?_)
   refine Run.go rfl rfl rfl (sem_move ((Value.bool true)) rfl ?_)
   refine Run.no rfl rfl rfl ?_
   refine Run.no rfl rfl rfl ?_
   refine Run.go rfl rfl rfl (sem_pick true ((Value.bool true)) rfl rfl ?_)
   refine Run.go rfl rfl rfl (sem_move ((Value.bool true)) rfl ?_)
   refine Run.no rfl rfl rfl ?_
   refine Run.no rfl rfl rfl ?_
   refine Run.go rfl rfl rfl (sem_pick true ((Value.bool true)) rfl rfl ?_)
   refine Run.region_end ?_
   refine Run.condT rfl ?_
   refine Run.seq ?_
   refine Run.ops0 (idx := [0]) rfl ?_
   refine Run.go rfl rfl rfl (sem_assign ((Value.bool true)) rfl ?_)
   refine Run.region_end ?_
   refine Run.ret ⟨.inr rfl, ?_⟩
   exact hS.imp fun h' hq => ⟨(true), rfl, hq⟩
  ·have hS := hT rfl; clear hT hF
   refine Run.go rfl rfl rfl (sem_extract #[(Value.pointer p9), (Value.slice a10 n11 c12), (Value.bool true)] (.bool true) rfl rfl ?_)
   refine Run.go rfl rfl rfl (sem_assign ((Value.pointer p9)) rfl ?_)
   refine Run.go rfl rfl rfl (sem_assign ((Value.slice a10 n11 c12)) rfl ?_)
   refine Run.go rfl rfl rfl (sem_assign ((Value.bool true)) rfl ?_)
   refine Run.region_end ?_
   refine Run.seqJ (fun e h34 => Agree [(0, (Value.int .i64 (i1))), (5, (Value.pointer p9)), (6, (Value.slice a10 n11 c12))] e ∧ S_countermandlaw18_RedoBytes_J2 B i1 p9 a10 n11 c12 h34 Q) ?_ fun j33 => ?_
   ·rintro e h34 ⟨hag, hS⟩
    refine Run.env hag ?_; clear hag
    refine Run.seq ?_
    refine Run.ops0 (idx := [0, 1, 2, 3]) rfl ?_
    refine Run.go rfl rfl rfl (sem_move ((Value.int .i64 (i1))) rfl ?_)
    refine Run.go rfl rfl rfl (sem_move ((Value.pointer p9)) rfl ?_)
    refine Run.go rfl rfl rfl (sem_callL [(Value.int .i64 (i1)), (Value.pointer p9)] (TF.goes_66) rfl rfl (Spec.mono hS fun v h35 hv => ?_))
    obtain ⟨s36, rfl, hS⟩ := hv
    refine Run.go rfl rfl rfl (sem_assign ((Value.string s36)) rfl ?_)
    refine Run.region_end ?_
    refine Run.seq ?_
    refine Run.ops0 (idx := [0, 1, 2, 3, 4, 5, 6, 7, 8]) rfl ?_
    refine Run.go rfl rfl rfl (sem_move ((Value.string s36)) rfl ?_)
    refine Run.go rfl rfl rfl (sem_callL [(Value.string s36)] (TF.goes_61) rfl rfl (Spec.mono hS fun v h37 hv => ?_))
    obtain ⟨i38, a39, n40, c41, b42, rfl, hS⟩ := hv
    refine Run.go rfl rfl rfl (sem_move ((Value.tuple #[(Value.int .i64 (i38)), (Value.slice a39 n40 c41), (Value.bool b42)])) rfl ?_)
    refine Run.go rfl rfl rfl (sem_extract #[(Value.int .i64 (i38)), (Value.slice a39 n40 c41), (Value.bool b42)] ((Value.int .i64 (i38))) rfl rfl ?_)
    refine Run.go rfl rfl rfl (sem_extract #[(Value.int .i64 (i38)), (Value.slice a39 n40 c41), (Value.bool b42)] ((Value.slice a39 n40 c41)) rfl rfl ?_)
    obtain ⟨hT, hF⟩ := hS
    cases b42
    ·have hS := hF rfl; clear hT hF
     refine Run.go rfl rfl rfl (sem_extract #[(Value.int .i64 (i38)), (Value.slice a39 n40 c41), (Value.bool false)] (.bool false) rfl rfl ?_)
     refine Run.go rfl rfl rfl (sem_assign ((Value.int .i64 (i38))) rfl ?_)
     refine Run.go rfl rfl rfl (sem_assign ((Value.slice a39 n40 c41)) rfl ?_)
     refine Run.go rfl rfl rfl (sem_assign ((Value.bool false)) rfl ?_)
     refine Run.region_end ?_
     refine Run.seq ?_
     refine Run.ops0 (idx := [0, 1, 2, 3, 4, 5, 6, 7, 8, 9, 10, 11, 12, 13, 14, 15, 16, 17, 18]) rfl ?_
     refine Run.go rfl rfl rfl (sem_move ((Value.string s36)) rfl ?_)
     refine Run.go rfl rfl rfl (sem_move ((Value.int .i64 (i1))) rfl ?_)
     refine Run.go rfl rfl rfl (sem_move ((Value.slice a10 n11 c12)) rfl ?_)
     refine Run.go rfl rfl rfl (sem_callL [(Value.int .i64 (i1)), (Value.slice a10 n11 c12)] (TF.goes_64) rfl rfl (Spec.mono hS fun v h43 hv => ?_))
     obtain ⟨s44, rfl, hS⟩ := hv
     obtain ⟨hT, hF⟩ := hS
     by_cases hb45 : s36 = s44
     ·have hS := hT hb45; clear hT hF
      refine Run.go rfl rfl rfl (sem_strEqT s36 s44 rfl rfl hb45 ?_)
      refine Run.go rfl rfl rfl (sem_move ((Value.bool true)) rfl ?_)
      refine Run.go rfl rfl rfl (sem_move ((Value.bool false)) rfl ?_)
      refine Run.go rfl rfl rfl (sem_pick true ((Value.bool false)) rfl rfl ?_)
      refine Run.go rfl rfl rfl (sem_move ((Value.bool false)) rfl ?_)
      refine Run.no rfl rfl rfl ?_
      refine Run.no rfl rfl rfl ?_
      refine Run.no rfl rfl rfl ?_
      refine Run.go rfl rfl rfl (sem_pick false ((Value.bool false)) rfl rfl ?_)
      refine Run.go rfl rfl rfl (sem_move ((Value.bool false)) rfl ?_)
      refine Run.no rfl rfl rfl ?_
      refine Run.no rfl rfl rfl ?_
      refine Run.no rfl rfl rfl ?_
      refine Run.go rfl rfl rfl (sem_pick false ((Value.bool false)) rfl rfl ?_)
      refine Run.go rfl rfl rfl (sem_assign ((Value.bool false)) rfl ?_)
      refine Run.region_end ?_
      refine Run.ret ⟨.inr rfl, ?_⟩
      exact hS.imp fun h' hq => ⟨(false), rfl, hq⟩
     ·have hS := hF hb45; clear hT hF
      refine Run.go rfl rfl rfl (sem_strEqF s36 s44 rfl rfl hb45 ?_)
      refine Run.go rfl rfl rfl (sem_move ((Value.bool false)) rfl ?_)
      refine Run.no rfl rfl rfl ?_
      refine Run.go rfl rfl rfl (sem_pick false ((Value.bool false)) rfl rfl ?_)
      refine Run.go rfl rfl rfl (sem_move ((Value.bool false)) rfl ?_)
      refine Run.no rfl rfl rfl ?_
      refine Run.no rfl rfl rfl ?_
      refine Run.no rfl rfl rfl ?_
      refine Run.go rfl rfl rfl (sem_pick false ((Value.bool false)) rfl rfl ?_)
      refine Run.go rfl rfl rfl (sem_move ((Value.bool false)) rfl ?_)
      refine Run.no rfl rfl rfl ?_
      refine Run.no rfl rfl rfl ?_
      refine Run.no rfl rfl rfl ?_
      refine Run.go rfl rfl rfl (sem_pick false ((Value.bool false)) rfl rfl ?_)
      refine Run.go rfl rfl rfl (sem_assign ((Value.bool false)) rfl ?_)
      refine Run.region_end ?_
      refine Run.ret ⟨.inr rfl, ?_⟩
      exact hS.imp fun h' hq => ⟨(false), rfl, hq⟩
    ·have hS := hT rfl; clear hT hF
     refine Run.go rfl rfl rfl (sem_extract #[(Value.int .i64 (i38)), (Value.slice a39 n40 c41), (Value.bool true)] (.bool true) rfl rfl ?_)
     refine Run.go rfl rfl rfl (sem_assign ((Value.int .i64 (i38))) rfl ?_)
     refine Run.go rfl rfl rfl (sem_assign ((Value.slice a39 n40 c41)) rfl ?_)
     refine Run.go rfl rfl rfl (sem_assign ((Value.bool true)) rfl ?_)
     refine Run.region_end ?_
     refine Run.seq ?_
     refine Run.ops0 (idx := [0, 1, 2, 3, 4, 5, 6, 7, 8, 9, 10, 11, 12, 13, 14, 15, 16, 17, 18]) rfl ?_
     refine Run.go rfl rfl rfl (sem_move ((Value.string s36)) rfl ?_)
     refine Run.go rfl rfl rfl (sem_move ((Value.int .i64 (i1))) rfl ?_)
     refine Run.go rfl rfl rfl (sem_move ((Value.slice a10 n11 c12)) rfl ?_)
     refine Run.go rfl rfl rfl (sem_callL [(Value.int .i64 (i1)), (Value.slice a10 n11 c12)] (TF.goes_64) rfl rfl (Spec.mono hS fun v h46 hv => ?_))
     obtain ⟨s47, rfl, hS⟩ := hv
     obtain ⟨hT, hF⟩ := hS
     by_cases hb48 : s36 = s47
     ·have hS := hT hb48; clear hT hF
      refine Run.go rfl rfl rfl (sem_strEqT s36 s47 rfl rfl hb48 ?_)
      refine Run.go rfl rfl rfl (sem_move ((Value.bool true)) rfl ?_)
      refine Run.go rfl rfl rfl (sem_move ((Value.bool true)) rfl ?_)
      refine Run.go rfl rfl rfl (sem_pick true ((Value.bool true)) rfl rfl ?_)
      refine Run.go rfl rfl rfl (sem_move ((Value.bool true)) rfl ?_)
      refine Run.go rfl rfl rfl (sem_move ((Value.int .i64 (i38))) rfl ?_)
      refine Run.go rfl rfl rfl (sem_move ((Value.int .i64 (i1))) rfl ?_)
      obtain ⟨hT, hF⟩ := hS
      by_cases hb49 : (i38 : Int) = i1
      ·have hS := hT hb49; clear hT hF
       refine Run.go rfl rfl rfl (sem_binI .i64 (i38) (i1) (.bool true) rfl rfl (binI_eql_t hb49) ?_)
       refine Run.go rfl rfl rfl (sem_pick true ((Value.bool true)) rfl rfl ?_)
       refine Run.go rfl rfl rfl (sem_move ((Value.bool true)) rfl ?_)
       refine Run.go rfl rfl rfl (sem_move ((Value.slice a39 n40 c41)) rfl ?_)
       refine Run.go rfl rfl rfl (sem_move ((Value.slice a10 n11 c12)) rfl ?_)
       refine Run.go rfl rfl rfl (sem_callL [(Value.slice a39 n40 c41), (Value.slice a10 n11 c12)] (TF.goes_63) rfl rfl (Spec.mono hS fun v h50 hv => ?_))
       obtain ⟨b51, rfl, hS⟩ := hv
       refine Run.go rfl rfl rfl (sem_pick true ((Value.bool b51)) rfl rfl ?_)
       refine Run.go rfl rfl rfl (sem_assign ((Value.bool b51)) rfl ?_)
       refine Run.region_end ?_
       refine Run.ret ⟨.inr rfl, ?_⟩
       exact hS.imp fun h' hq => ⟨(b51), rfl, hq⟩
      ·have hS := hF hb49; clear hT hF
       refine Run.go rfl rfl rfl (sem_binI .i64 (i38) (i1) (.bool false) rfl rfl (binI_eql_f hb49) ?_)
       refine Run.go rfl rfl rfl (sem_pick true ((Value.bool false)) rfl rfl ?_)
       refine Run.go rfl rfl rfl (sem_move ((Value.bool false)) rfl ?_)
       refine Run.no rfl rfl rfl ?_
       refine Run.no rfl rfl rfl ?_
       refine Run.no rfl rfl rfl ?_
       refine Run.go rfl rfl rfl (sem_pick false ((Value.bool false)) rfl rfl ?_)
       refine Run.go rfl rfl rfl (sem_assign ((Value.bool false)) rfl ?_)
       refine Run.region_end ?_
       refine Run.ret ⟨.inr rfl, ?_⟩
       exact hS.imp fun h' hq => ⟨(false), rfl, hq⟩
     ·have hS := hF hb48; clear hT hF
      refine Run.go rfl rfl rfl (sem_strEqF s36 s47 rfl rfl hb48 ?_)
      refine Run.go rfl rfl rfl (sem_move ((Value.bool false)) rfl ?_)
      refine Run.no rfl rfl rfl ?_
      refine Run.go rfl rfl rfl (sem_pick false ((Value.bool false)) rfl rfl ?_)
      refine Run.go rfl rfl rfl (sem_move ((Value.bool false)) rfl ?_)
      refine Run.no rfl rfl rfl ?_
      refine Run.no rfl rfl rfl ?_
      refine Run.no rfl rfl rfl ?_
      refine Run.go rfl rfl rfl (sem_pick false ((Value.bool false)) rfl rfl ?_)
      refine Run.go rfl rfl rfl (sem_move ((Value.bool false)) rfl ?_)
      refine Run.no rfl rfl rfl ?_
      refine Run.no rfl rfl rfl ?_
      refine Run.no rfl rfl rfl ?_
      refine Run.go rfl rfl rfl (sem_pick false ((Value.bool false)) rfl rfl ?_)
      refine Run.go rfl rfl rfl (sem_assign ((Value.bool false)) rfl ?_)
      refine Run.region_end ?_
      refine Run.ret ⟨.inr rfl, ?_⟩
      exact hS.imp fun h' hq => ⟨(false), rfl, hq⟩
   refine Run.seq ?_
   refine Run.ops0 (idx := [0, 1, 2, 3, 4, 5, 6, 7, 8, 9]) rfl ?_
   refine Run.go rfl rfl rfl (sem_move ((Value.bool true)) rfl ?_)
   refine Run.go rfl rfl rfl (sem_not true rfl ?_)
   refine Run.go rfl rfl rfl (sem_move ((Value.bool false)) rfl ?_)
   refine Run.go rfl rfl rfl (sem_move ((Value.int .i64 (i1))) rfl ?_)
   obtain ⟨hT, hF⟩ := hS
   by_cases hb52 : (i1 : Int) < (0)
   ·have hS := hT hb52; clear hT hF
    refine Run.go rfl rfl rfl (sem_binI .i64 (i1) (0) (.bool true) rfl rfl (binI_lss_t hb52) ?_)
    refine Run.go rfl rfl rfl (sem_pick false ((Value.bool true)) rfl rfl ?_)
    refine Run.go rfl rfl rfl (sem_move ((Value.bool true)) rfl ?_)
    refine Run.no rfl rfl rfl ?_
    refine Run.no rfl rfl rfl ?_
    refine Run.go rfl rfl rfl (sem_pick true ((Value.bool true)) rfl rfl ?_)
    refine Run.region_end ?_
    refine Run.condT rfl ?_
    refine Run.seq ?_
    refine Run.ops0 (idx := [0]) rfl ?_
    refine Run.go rfl rfl rfl (sem_assign ((Value.bool true)) rfl ?_)
    refine Run.region_end ?_
    refine Run.ret ⟨.inr rfl, ?_⟩
    exact hS.imp fun h' hq => ⟨(true), rfl, hq⟩
   ·have hS := hF hb52; clear hT hF
    refine Run.go rfl rfl rfl (sem_binI .i64 (i1) (0) (.bool false) rfl rfl (binI_lss_f hb52) ?_)
    refine Run.go rfl rfl rfl (sem_pick false ((Value.bool false)) rfl rfl ?_)
    refine Run.go rfl rfl rfl (sem_move ((Value.bool false)) rfl ?_)
    refine Run.go rfl rfl rfl (sem_move ((Value.int .i64 (i1))) rfl ?_)
    obtain ⟨hT, hF⟩ := hS
    by_cases hb53 : (i1 : Int) > (1099511627776)
    ·have hS := hT hb53; clear hT hF
     refine Run.go rfl rfl rfl (sem_binI .i64 (i1) (1099511627776) (.bool true) rfl rfl (binI_gtr_t hb53) ?_)
     refine Run.go rfl rfl rfl (sem_pick false ((Value.bool true)) rfl rfl ?_)
     refine Run.region_end ?_
     refine Run.condT rfl ?_
     refine Run.seq ?_
     refine Run.ops0 (idx := [0]) rfl ?_
     refine Run.go rfl rfl rfl (sem_assign ((Value.bool true)) rfl ?_)
     refine Run.region_end ?_
     refine Run.ret ⟨.inr rfl, ?_⟩
     exact hS.imp fun h' hq => ⟨(true), rfl, hq⟩
    ·have hS := hF hb53; clear hT hF
     refine Run.go rfl rfl rfl (sem_binI .i64 (i1) (1099511627776) (.bool false) rfl rfl (binI_gtr_f hb53) ?_)
     refine Run.go rfl rfl rfl (sem_pick false ((Value.bool false)) rfl rfl ?_)
     refine Run.region_end ?_
     refine Run.condF rfl ?_
     refine Run.skip ?_
     exact Run.of_fin (hS.imp fun h' hS => j33 _ _ ⟨⟨rfl, rfl, rfl, trivial⟩, hS⟩)
set_option maxHeartbeats 4000000 in
theorem C_countermandlaw18_RedoApplies.of {B : RO} {l1 : List Value} {a2 : Option Addr} {n3 : Nat} {c4 : Nat} {i5 : Int} {h : Heap} {Q : Bool → Heap → Prop} (hS : S_countermandlaw18_RedoApplies B l1 a2 n3 c4 i5 h Q) : C_countermandlaw18_RedoApplies B l1 a2 n3 c4 i5 h Q := by
 unfold S_countermandlaw18_RedoApplies at hS
 unfold C_countermandlaw18_RedoApplies
 refine Spec.of_run Try.func11 (N := 83) (rs := [ResultVar.tmp 6]) rfl rfl rfl (Nat.le_of_ble_eq_true rfl) ?_
 refine Run.seq ?_
 refine Run.ops0 (idx := [0, 1]) rfl ?_
 refine Run.go rfl rfl rfl (sem_boxNN l1 rfl (fun k7 hb1 hb2 h8 hb3 => ?_))
 have hS := hS k7 hb1 hb2 h8 hb3
 refine Run.go rfl rfl rfl (sem_assign ((Value.bool false)) rfl ?_)
 refine Run.region_end ?_
 refine Run.seq ?_
 refine Run.seq ?_
 refine Run.ops0 (idx := [0, 1]) rfl ?_
 refine Run.go rfl rfl rfl (sem_callL [] (TF.goes_60) rfl rfl (Spec.mono hS fun v h9 hv => ?_))
 obtain ⟨b10, rfl, hS⟩ := hv
 obtain ⟨hT, hF⟩ := hS
 cases b10
 ·have hS := hF rfl; clear hT hF
  refine Run.go rfl rfl rfl (sem_not false rfl ?_)
  refine Run.region_end ?_
  refine Run.condT rfl ?_
  refine Run.seq ?_
  refine Run.ops0 (idx := [0]) rfl ?_
  refine Run.go rfl rfl rfl (sem_assign ((Value.bool false)) rfl ?_)
  refine Run.region_end ?_
  refine Run.ret ⟨.inr rfl, ?_⟩
  exact hS.imp fun h' hq => ⟨(false), rfl, hq⟩
 ·have hS := hT rfl; clear hT hF
  refine Run.go rfl rfl rfl (sem_not true rfl ?_)
  refine Run.region_end ?_
  refine Run.condF rfl ?_
  refine Run.skip ?_
  refine Run.seq ?_
  refine Run.ops0 (idx := [0, 1, 2, 3, 4, 5, 6, 7, 8, 9]) rfl ?_
  obtain ⟨l11, hln, hl, hS⟩ := hS
  refine Run.go rfl rfl rfl (sem_loadN ⟨k7, 0, none⟩ l11 rfl TF.agg_112 (TF.sz_112.trans (congrArg some hln.symm)) hl ?_)
  refine Run.go rfl rfl rfl (sem_callL [(Value.agg (List.toArray l11))] (TF.goes_67) rfl rfl (Spec.mono hS fun v h12 hv => ?_))
  obtain ⟨p13, l14, b15, rfl, hS⟩ := hv
  refine Run.go rfl rfl rfl (sem_move ((Value.tuple #[(Value.pointer p13), (Value.agg (List.toArray l14)), (Value.bool b15)])) rfl ?_)
  refine Run.go rfl rfl rfl (sem_extract #[(Value.pointer p13), (Value.agg (List.toArray l14)), (Value.bool b15)] ((Value.pointer p13)) rfl rfl ?_)
  refine Run.go rfl rfl rfl (sem_extract #[(Value.pointer p13), (Value.agg (List.toArray l14)), (Value.bool b15)] ((Value.agg (List.toArray l14))) rfl rfl ?_)
  obtain ⟨hT, hF⟩ := hS
  cases b15
  ·have hS := hF rfl; clear hT hF
   refine Run.go rfl rfl rfl (sem_extract #[(Value.pointer p13), (Value.agg (List.toArray l14)), (Value.bool false)] (.bool false) rfl rfl ?_)
   refine Run.go rfl rfl rfl (sem_allocN [(Value.bool false), (Value.string ByteArray.empty), (Value.bool false), (Value.string ByteArray.empty), (Value.bool false), (Value.string ByteArray.empty), (Value.bool false), (Value.string ByteArray.empty), (Value.bool false), (Value.string ByteArray.empty), (Value.bool false), (Value.string ByteArray.empty)] TF.zero_115 (fun k16 hb1 hb2 h17 hb3 => ?_))
   have hS := hS k16 hb1 hb2 h17 hb3
   refine Run.go rfl rfl rfl (sem_assign ((Value.pointer p13)) rfl ?_)
   obtain ⟨hln, h18, hst, hS⟩ := hS
   refine Run.go rfl rfl rfl (sem_storeN ⟨k16, 0, none⟩ l14 h18 rfl rfl (TF.sz_115.trans (congrArg some hln.symm)) hst ?_)
   refine Run.go rfl rfl rfl (sem_assign ((Value.bool false)) rfl ?_)
   refine Run.region_end ?_
   refine Run.seq ?_
   refine Run.ops0 (idx := [0, 1, 2, 3, 4, 5, 6, 7, 8]) rfl ?_
   refine Run.go rfl rfl rfl (sem_move ((Value.slice a2 n3 c4)) rfl ?_)
   refine Run.go rfl rfl rfl (sem_callL [(Value.slice a2 n3 c4)] (TF.goes_65) rfl rfl (Spec.mono hS fun v h19 hv => ?_))
   obtain ⟨p20, a21, n22, c23, b24, rfl, hS⟩ := hv
   refine Run.go rfl rfl rfl (sem_move ((Value.tuple #[(Value.pointer p20), (Value.slice a21 n22 c23), (Value.bool b24)])) rfl ?_)
   refine Run.go rfl rfl rfl (sem_extract #[(Value.pointer p20), (Value.slice a21 n22 c23), (Value.bool b24)] ((Value.pointer p20)) rfl rfl ?_)
   refine Run.go rfl rfl rfl (sem_extract #[(Value.pointer p20), (Value.slice a21 n22 c23), (Value.bool b24)] ((Value.slice a21 n22 c23)) rfl rfl ?_)
   obtain ⟨hT, hF⟩ := hS
   cases b24
   ·have hS := hF rfl; clear hT hF
    refine Run.go rfl rfl rfl (sem_extract #[(Value.pointer p20), (Value.slice a21 n22 c23), (Value.bool false)] (.bool false) rfl rfl ?_)
    refine Run.go rfl rfl rfl (sem_assign ((Value.pointer p20)) rfl ?_)
    refine Run.go rfl rfl rfl (sem_assign ((Value.slice a21 n22 c23)) rfl ?_)
    refine Run.go rfl rfl rfl (sem_assign ((Value.bool false)) rfl ?_)
    refine Run.region_end ?_
    refine Run.seqJ (fun e h26 => Agree [(2, (Value.int .i64 (i5))), (7, (Value.pointer p13)), (8, (Value.pointer (some ⟨k16, 0, none⟩))), (10, (Value.pointer p20)), (11, (Value.slice a21 n22 c23))] e ∧ S_countermandlaw18_RedoApplies_J1 B i5 p13 k16 p20 a21 n22 c23 h26 Q) ?_ fun j25 => ?_
    ·rintro e h26 ⟨hag, hS⟩
     refine Run.env hag ?_; clear hag
     refine Run.seq ?_
     refine Run.ops0 (idx := [0, 1, 2, 3, 4, 5, 6, 7, 8, 9]) rfl ?_
     refine Run.go rfl rfl rfl (sem_move ((Value.pointer p20)) rfl ?_)
     refine Run.go rfl rfl rfl (sem_callL [(Value.int .i64 (7)), (Value.pointer p20)] (TF.goes_66) rfl rfl (Spec.mono hS fun v h27 hv => ?_))
     obtain ⟨s28, rfl, hS⟩ := hv
     refine Run.go rfl rfl rfl (sem_callL [(Value.string s28)] (TF.goes_61) rfl rfl (Spec.mono hS fun v h29 hv => ?_))
     obtain ⟨i30, a31, n32, c33, b34, rfl, hS⟩ := hv
     refine Run.go rfl rfl rfl (sem_move ((Value.tuple #[(Value.int .i64 (i30)), (Value.slice a31 n32 c33), (Value.bool b34)])) rfl ?_)
     refine Run.go rfl rfl rfl (sem_extract #[(Value.int .i64 (i30)), (Value.slice a31 n32 c33), (Value.bool b34)] ((Value.int .i64 (i30))) rfl rfl ?_)
     refine Run.go rfl rfl rfl (sem_extract #[(Value.int .i64 (i30)), (Value.slice a31 n32 c33), (Value.bool b34)] ((Value.slice a31 n32 c33)) rfl rfl ?_)
     refine Run.go rfl rfl rfl (sem_extract #[(Value.int .i64 (i30)), (Value.slice a31 n32 c33), (Value.bool b34)] ((Value.bool b34)) rfl rfl ?_)
     refine Run.go rfl rfl rfl (sem_assign ((Value.int .i64 (i30))) rfl ?_)
     refine Run.go rfl rfl rfl (sem_assign ((Value.slice a31 n32 c33)) rfl ?_)
     refine Run.go rfl rfl rfl (sem_assign ((Value.bool b34)) rfl ?_)
     refine Run.region_end ?_
     refine Run.seq ?_
     refine Run.ops0 (idx := [0, 1, 2, 3]) rfl ?_
     refine Run.go rfl rfl rfl (sem_move ((Value.pointer p13)) rfl ?_)
     refine Run.go rfl rfl rfl (sem_move ((Value.slice a31 n32 c33)) rfl ?_)
     refine Run.go rfl rfl rfl (sem_move ((Value.int .i64 (i5))) rfl ?_)
     refine Run.go rfl rfl rfl (sem_callL [(Value.pointer p13), (Value.slice a31 n32 c33), (Value.int .i64 (i5))] (TF.goes_68) rfl rfl (Spec.mono hS fun v h35 hv => ?_))
     obtain ⟨rfl, hS⟩ := hv
     refine Run.region_end ?_
     refine Run.seq ?_
     refine Run.ops0 (idx := [0, 1, 2, 3, 4]) rfl ?_
     obtain ⟨l36, hln, hl, hS⟩ := hS
     refine Run.go rfl rfl rfl (sem_loadN ⟨k16, 0, none⟩ l36 rfl TF.agg_115 (TF.sz_115.trans (congrArg some hln.symm)) hl ?_)
     refine Run.go rfl rfl rfl (sem_move ((Value.slice a21 n22 c23)) rfl ?_)
     refine Run.go rfl rfl rfl (sem_callL [(Value.agg (List.toArray l36)), (Value.slice a21 n22 c23)] (TF.goes_69) rfl rfl (Spec.mono hS fun v h37 hv => ?_))
     obtain ⟨l38, rfl, hS⟩ := hv
     refine Run.go rfl rfl rfl (sem_allocN [(Value.bool false), (Value.string ByteArray.empty), (Value.bool false), (Value.string ByteArray.empty), (Value.bool false), (Value.string ByteArray.empty), (Value.bool false), (Value.string ByteArray.empty), (Value.bool false), (Value.string ByteArray.empty), (Value.bool false), (Value.string ByteArray.empty)] TF.zero_115 (fun k39 hb1 hb2 h40 hb3 => ?_))
     have hS := hS k39 hb1 hb2 h40 hb3
     obtain ⟨hln, h41, hst, hS⟩ := hS
     refine Run.go rfl rfl rfl (sem_storeN ⟨k39, 0, none⟩ l38 h41 rfl rfl (TF.sz_115.trans (congrArg some hln.symm)) hst ?_)
     refine Run.region_end ?_
     refine Run.seq ?_
     refine Run.seq ?_
     refine Run.ops0 (idx := [0, 1, 2, 3]) rfl ?_
     refine Run.go rfl rfl rfl (sem_move ((Value.pointer p13)) rfl ?_)
     obtain ⟨l42, hln, hl, hS⟩ := hS
     refine Run.go rfl rfl rfl (sem_loadN ⟨k39, 0, none⟩ l42 rfl TF.agg_115 (TF.sz_115.trans (congrArg some hln.symm)) hl ?_)
     refine Run.go rfl rfl rfl (sem_callL [(Value.pointer p13), (Value.agg (List.toArray l42))] (TF.goes_70) rfl rfl (Spec.mono hS fun v h43 hv => ?_))
     obtain ⟨b44, rfl, hS⟩ := hv
     obtain ⟨hT, hF⟩ := hS
     cases b44
     ·have hS := hF rfl; clear hT hF
      refine Run.go rfl rfl rfl (sem_not false rfl ?_)
      refine Run.region_end ?_
      refine Run.condT rfl ?_
      refine Run.seq ?_
      refine Run.ops0 (idx := [0]) rfl ?_
      refine Run.go rfl rfl rfl (sem_assign ((Value.bool false)) rfl ?_)
      refine Run.region_end ?_
      refine Run.ret ⟨.inr rfl, ?_⟩
      exact hS.imp fun h' hq => ⟨(false), rfl, hq⟩
     ·have hS := hT rfl; clear hT hF
      refine Run.go rfl rfl rfl (sem_not true rfl ?_)
      refine Run.region_end ?_
      refine Run.condF rfl ?_
      refine Run.skip ?_
      refine Run.seqJ (fun e h46 => Agree [(2, (Value.int .i64 (i5))), (7, (Value.pointer p13)), (14, (Value.slice a31 n32 c33)), (16, (Value.pointer (some ⟨k39, 0, none⟩)))] e ∧ S_countermandlaw18_RedoApplies_J2 B i5 p13 a31 n32 c33 k39 h46 Q) ?_ fun j45 => ?_
      ·rintro e h46 ⟨hag, hS⟩
       refine Run.env hag ?_; clear hag
       refine Run.seq ?_
       refine Run.ops0 (idx := [0, 1, 2, 3]) rfl ?_
       refine Run.go rfl rfl rfl (sem_move ((Value.pointer p13)) rfl ?_)
       refine Run.go rfl rfl rfl (sem_move ((Value.slice a31 n32 c33)) rfl ?_)
       refine Run.go rfl rfl rfl (sem_move ((Value.int .i64 (i5))) rfl ?_)
       refine Run.go rfl rfl rfl (sem_callL [(Value.pointer p13), (Value.slice a31 n32 c33), (Value.int .i64 (i5))] (TF.goes_68) rfl rfl (Spec.mono hS fun v h47 hv => ?_))
       obtain ⟨rfl, hS⟩ := hv
       refine Run.region_end ?_
       refine Run.seq ?_
       refine Run.ops0 (idx := [0, 1, 2, 3]) rfl ?_
       refine Run.go rfl rfl rfl (sem_move ((Value.pointer p13)) rfl ?_)
       obtain ⟨l48, hln, hl, hS⟩ := hS
       refine Run.go rfl rfl rfl (sem_loadN ⟨k39, 0, none⟩ l48 rfl TF.agg_115 (TF.sz_115.trans (congrArg some hln.symm)) hl ?_)
       refine Run.go rfl rfl rfl (sem_callL [(Value.pointer p13), (Value.agg (List.toArray l48))] (TF.goes_70) rfl rfl (Spec.mono hS fun v h49 hv => ?_))
       obtain ⟨b50, rfl, hS⟩ := hv
       refine Run.go rfl rfl rfl (sem_assign ((Value.bool b50)) rfl ?_)
       refine Run.region_end ?_
       refine Run.ret ⟨.inr rfl, ?_⟩
       exact hS.imp fun h' hq => ⟨(b50), rfl, hq⟩
      refine Run.seq ?_
      refine Run.ops0 (idx := [0, 1, 2]) rfl ?_
      refine Run.go rfl rfl rfl (sem_move ((Value.slice a21 n22 c23)) rfl ?_)
      refine Run.go rfl rfl rfl (sem_lenSl a21 n22 c23 rfl TF.sl_99 ?_)
      refine Run.go rfl rfl rfl (sem_move ((Value.int .i64 (0))) rfl ?_)
      refine Run.region_end ?_
      refine Run.block ?_
      obtain ⟨J56, m54, h0, hS⟩ := hS
      refine Run.of_fin (h0.imp fun h' h0 => ?_)
      refine Run.loop (σ := Int × Nat) (fun x e h => J56 x.1 x.2 h ∧ Agree [(2, (Value.int .i64 (i5))), (7, (Value.pointer p13)), (14, (Value.slice a31 n32 c33)), (16, (Value.pointer (some ⟨k39, 0, none⟩))), (59, (Value.slice a21 n22 c23)), (60, (Value.int .i64 ((n22 : Nat)))), (61, (Value.int .i64 (x.1)))] e) (fun x => x.2) ((0), m54) ⟨h0, ⟨rfl, rfl, rfl, rfl, rfl, rfl, rfl, trivial⟩⟩ ?_; clear h0
      rintro ⟨i51, m53⟩ e h52 ⟨hJ, hag⟩ ih55
      have hS := hS i51 m53 h52 hJ; clear hJ
      refine Run.env hag ?_; clear hag
      refine Run.seq ?_
      refine Run.ops0 (idx := [0]) rfl ?_
      obtain ⟨hT, hF⟩ := hS
      by_cases hb57 : (i51 : Int) < ((n22 : Nat))
      ·have hS := hT hb57; clear hT hF
       refine Run.go rfl rfl rfl (sem_binI .i64 (i51) ((n22 : Nat)) (.bool true) rfl rfl (binI_lss_t hb57) ?_)
       refine Run.region_end ?_
       refine Run.seq ?_
       refine Run.condT rfl ?_
       refine Run.skip ?_
       refine Run.seq ?_
       refine Run.block ?_
       refine Run.seq ?_
       refine Run.ops0 (idx := [0, 1, 2, 3]) rfl ?_
       obtain ⟨A58, e59, hi0, hi1, hS⟩ := hS
       refine Run.go rfl rfl rfl (sem_indexAddrS A58 n22 c23 .i64 (i51) (congrArg (fun a => Value.slice a n22 c23) e59) rfl TF.slc_99 hi0 hi1 ?_)
       obtain ⟨i60, b61, s62, hl, hS⟩ := hS
       refine Run.go rfl rfl rfl (sem_loadN (Addr.add A58 (Int.toNat (i51) * 3)) [(Value.int .i64 (i60)), (Value.bool b61), (Value.string s62)] rfl TF.agg_122 TF.sz_122 hl ?_)
       refine Run.go rfl rfl rfl (sem_allocN [(Value.int .i64 (0)), (Value.bool false), (Value.string ByteArray.empty)] TF.zero_122 (fun k63 hb1 hb2 h64 hb3 => ?_))
       have hS := hS k63 hb1 hb2 h64 hb3
       obtain ⟨h65, hst, hS⟩ := hS
       refine Run.go rfl rfl rfl (sem_storeN ⟨k63, 0, none⟩ [(Value.int .i64 (i60)), (Value.bool b61), (Value.string s62)] h65 rfl rfl TF.sz_122 hst ?_)
       refine Run.region_end ?_
       refine Run.seq ?_
       refine Run.ops0 (idx := [0, 1, 2, 3, 4, 5, 6, 7, 8, 9]) rfl ?_
       refine Run.go rfl rfl rfl (sem_move ((Value.pointer p13)) rfl ?_)
       refine Run.go rfl rfl rfl (sem_fieldAddr ⟨k63, 0, none⟩ 0 rfl TF.fld_122_0 ?_)
       obtain ⟨i66, hl, hS⟩ := hS
       refine Run.go rfl rfl rfl (sem_load1 ⟨k63, 0, none⟩ ((Value.int .i64 (i66))) rfl TF.agg_3 hl ?_)
       refine Run.go rfl rfl rfl (sem_callL [(Value.pointer p13), (Value.int .i64 (i66))] (TF.goes_71) rfl rfl (Spec.mono hS fun v h67 hv => ?_))
       obtain ⟨b68, s69, i70, rfl, hS⟩ := hv
       refine Run.go rfl rfl rfl (sem_move ((Value.tuple #[(Value.agg #[(Value.bool b68), (Value.string s69)]), (Value.int .i64 (i70))])) rfl ?_)
       refine Run.go rfl rfl rfl (sem_extract #[(Value.agg #[(Value.bool b68), (Value.string s69)]), (Value.int .i64 (i70))] ((Value.agg #[(Value.bool b68), (Value.string s69)])) rfl rfl ?_)
       refine Run.go rfl rfl rfl (sem_extract #[(Value.agg #[(Value.bool b68), (Value.string s69)]), (Value.int .i64 (i70))] ((Value.int .i64 (i70))) rfl rfl ?_)
       refine Run.go rfl rfl rfl (sem_allocN [(Value.bool false), (Value.string ByteArray.empty)] TF.zero_111 (fun k71 hb1 hb2 h72 hb3 => ?_))
       have hS := hS k71 hb1 hb2 h72 hb3
       obtain ⟨h73, hst, hS⟩ := hS
       refine Run.go rfl rfl rfl (sem_storeN ⟨k71, 0, none⟩ [(Value.bool b68), (Value.string s69)] h73 rfl rfl TF.sz_111 hst ?_)
       refine Run.go rfl rfl rfl (sem_assign ((Value.int .i64 (i70))) rfl ?_)
       refine Run.region_end ?_
       refine Run.seq ?_
       refine Run.ops0 (idx := [0, 1, 2]) rfl ?_
       refine Run.go rfl rfl rfl (sem_move ((Value.int .i64 (i70))) rfl ?_)
       refine Run.go rfl rfl rfl (sem_move ((Value.int .i64 (i5))) rfl ?_)
       obtain ⟨hT, hF⟩ := hS
       by_cases hb74 : (i70 : Int) = i5
       ·have hS := hT hb74; clear hT hF
        refine Run.go rfl rfl rfl (sem_binI .i64 (i70) (i5) (.bool false) rfl rfl (binI_neq_t hb74) ?_)
        refine Run.region_end ?_
        refine Run.condF rfl ?_
        refine Run.skip ?_
        refine Run.inBlock ?_
        refine Run.ops0 (idx := [0, 1]) rfl ?_
        refine Run.go rfl rfl rfl (sem_binI .i64 (i51) (1) ((Value.int .i64 (IntKind.wrap .i64 ((i51) + (1))))) rfl rfl rfl ?_)
        refine Run.go rfl rfl rfl (sem_move ((Value.int .i64 (IntKind.wrap .i64 ((i51) + (1))))) rfl ?_)
        refine Run.region_end ?_
        exact Run.of_fin (hS.imp fun h' ⟨m', hm, hS⟩ => ih55 ((IntKind.wrap .i64 ((i51) + (1))), m') _ _ ⟨hS, ⟨rfl, rfl, rfl, rfl, rfl, rfl, rfl, trivial⟩⟩ hm)
       ·have hS := hF hb74; clear hT hF
        refine Run.go rfl rfl rfl (sem_binI .i64 (i70) (i5) (.bool true) rfl rfl (binI_neq_f hb74) ?_)
        refine Run.region_end ?_
        refine Run.condT rfl ?_
        refine Run.seq ?_
        refine Run.ops0 (idx := [0]) rfl ?_
        refine Run.go rfl rfl rfl (sem_assign ((Value.bool false)) rfl ?_)
        refine Run.region_end ?_
        refine Run.ret ⟨.inr rfl, ?_⟩
        exact hS.imp fun h' hq => ⟨(false), rfl, hq⟩
      ·have hS := hF hb57; clear hT hF
       refine Run.go rfl rfl rfl (sem_binI .i64 (i51) ((n22 : Nat)) (.bool false) rfl rfl (binI_lss_f hb57) ?_)
       refine Run.region_end ?_
       refine Run.seq ?_
       refine Run.condF rfl ?_
       refine Run.exit rfl ?_
       exact Run.of_fin (hS.imp fun h' hS => j45 _ _ ⟨⟨rfl, rfl, rfl, rfl, trivial⟩, hS⟩)
    refine Run.seq ?_
    refine Run.ops0 (idx := [0, 1, 2, 3, 4, 5]) rfl ?_
    refine Run.go rfl rfl rfl (sem_move ((Value.bool false)) rfl ?_)
    refine Run.go rfl rfl rfl (sem_not false rfl ?_)
    refine Run.go rfl rfl rfl (sem_move ((Value.bool true)) rfl ?_)
    refine Run.no rfl rfl rfl ?_
    refine Run.no rfl rfl rfl ?_
    refine Run.go rfl rfl rfl (sem_pick true ((Value.bool true)) rfl rfl ?_)
    refine Run.region_end ?_
    refine Run.condT rfl ?_
    refine Run.seq ?_
    refine Run.ops0 (idx := [0]) rfl ?_
    refine Run.go rfl rfl rfl (sem_assign ((Value.bool true)) rfl ?_)
    refine Run.region_end ?_
    refine Run.ret ⟨.inr rfl, ?_⟩
    exact hS.imp fun h' hq => ⟨(true), rfl, hq⟩
   ·have hS := hT rfl; clear hT hF
    refine Run.go rfl rfl rfl (sem_extract #[(Value.pointer p20), (Value.slice a21 n22 c23), (Value.bool true)] (.bool true) rfl rfl ?_)
    refine Run.go rfl rfl rfl (sem_assign ((Value.pointer p20)) rfl ?_)
    refine Run.go rfl rfl rfl (sem_assign ((Value.slice a21 n22 c23)) rfl ?_)
    refine Run.go rfl rfl rfl (sem_assign ((Value.bool true)) rfl ?_)
    refine Run.region_end ?_
    refine Run.seqJ (fun e h76 => Agree [(2, (Value.int .i64 (i5))), (7, (Value.pointer p13)), (8, (Value.pointer (some ⟨k16, 0, none⟩))), (10, (Value.pointer p20)), (11, (Value.slice a21 n22 c23))] e ∧ S_countermandlaw18_RedoApplies_J3 B i5 p13 k16 p20 a21 n22 c23 h76 Q) ?_ fun j75 => ?_
    ·rintro e h76 ⟨hag, hS⟩
     refine Run.env hag ?_; clear hag
     refine Run.seq ?_
     refine Run.ops0 (idx := [0, 1, 2, 3, 4, 5, 6, 7, 8, 9]) rfl ?_
     refine Run.go rfl rfl rfl (sem_move ((Value.pointer p20)) rfl ?_)
     refine Run.go rfl rfl rfl (sem_callL [(Value.int .i64 (7)), (Value.pointer p20)] (TF.goes_66) rfl rfl (Spec.mono hS fun v h77 hv => ?_))
     obtain ⟨s78, rfl, hS⟩ := hv
     refine Run.go rfl rfl rfl (sem_callL [(Value.string s78)] (TF.goes_61) rfl rfl (Spec.mono hS fun v h79 hv => ?_))
     obtain ⟨i80, a81, n82, c83, b84, rfl, hS⟩ := hv
     refine Run.go rfl rfl rfl (sem_move ((Value.tuple #[(Value.int .i64 (i80)), (Value.slice a81 n82 c83), (Value.bool b84)])) rfl ?_)
     refine Run.go rfl rfl rfl (sem_extract #[(Value.int .i64 (i80)), (Value.slice a81 n82 c83), (Value.bool b84)] ((Value.int .i64 (i80))) rfl rfl ?_)
     refine Run.go rfl rfl rfl (sem_extract #[(Value.int .i64 (i80)), (Value.slice a81 n82 c83), (Value.bool b84)] ((Value.slice a81 n82 c83)) rfl rfl ?_)
     refine Run.go rfl rfl rfl (sem_extract #[(Value.int .i64 (i80)), (Value.slice a81 n82 c83), (Value.bool b84)] ((Value.bool b84)) rfl rfl ?_)
     refine Run.go rfl rfl rfl (sem_assign ((Value.int .i64 (i80))) rfl ?_)
     refine Run.go rfl rfl rfl (sem_assign ((Value.slice a81 n82 c83)) rfl ?_)
     refine Run.go rfl rfl rfl (sem_assign ((Value.bool b84)) rfl ?_)
     refine Run.region_end ?_
     refine Run.seq ?_
     refine Run.ops0 (idx := [0, 1, 2, 3]) rfl ?_
     refine Run.go rfl rfl rfl (sem_move ((Value.pointer p13)) rfl ?_)
     refine Run.go rfl rfl rfl (sem_move ((Value.slice a81 n82 c83)) rfl ?_)
     refine Run.go rfl rfl rfl (sem_move ((Value.int .i64 (i5))) rfl ?_)
     refine Run.go rfl rfl rfl (sem_callL [(Value.pointer p13), (Value.slice a81 n82 c83), (Value.int .i64 (i5))] (TF.goes_68) rfl rfl (Spec.mono hS fun v h85 hv => ?_))
     obtain ⟨rfl, hS⟩ := hv
     refine Run.region_end ?_
     refine Run.seq ?_
     refine Run.ops0 (idx := [0, 1, 2, 3, 4]) rfl ?_
     obtain ⟨l86, hln, hl, hS⟩ := hS
     refine Run.go rfl rfl rfl (sem_loadN ⟨k16, 0, none⟩ l86 rfl TF.agg_115 (TF.sz_115.trans (congrArg some hln.symm)) hl ?_)
     refine Run.go rfl rfl rfl (sem_move ((Value.slice a21 n22 c23)) rfl ?_)
     refine Run.go rfl rfl rfl (sem_callL [(Value.agg (List.toArray l86)), (Value.slice a21 n22 c23)] (TF.goes_69) rfl rfl (Spec.mono hS fun v h87 hv => ?_))
     obtain ⟨l88, rfl, hS⟩ := hv
     refine Run.go rfl rfl rfl (sem_allocN [(Value.bool false), (Value.string ByteArray.empty), (Value.bool false), (Value.string ByteArray.empty), (Value.bool false), (Value.string ByteArray.empty), (Value.bool false), (Value.string ByteArray.empty), (Value.bool false), (Value.string ByteArray.empty), (Value.bool false), (Value.string ByteArray.empty)] TF.zero_115 (fun k89 hb1 hb2 h90 hb3 => ?_))
     have hS := hS k89 hb1 hb2 h90 hb3
     obtain ⟨hln, h91, hst, hS⟩ := hS
     refine Run.go rfl rfl rfl (sem_storeN ⟨k89, 0, none⟩ l88 h91 rfl rfl (TF.sz_115.trans (congrArg some hln.symm)) hst ?_)
     refine Run.region_end ?_
     refine Run.seq ?_
     refine Run.seq ?_
     refine Run.ops0 (idx := [0, 1, 2, 3]) rfl ?_
     refine Run.go rfl rfl rfl (sem_move ((Value.pointer p13)) rfl ?_)
     obtain ⟨l92, hln, hl, hS⟩ := hS
     refine Run.go rfl rfl rfl (sem_loadN ⟨k89, 0, none⟩ l92 rfl TF.agg_115 (TF.sz_115.trans (congrArg some hln.symm)) hl ?_)
     refine Run.go rfl rfl rfl (sem_callL [(Value.pointer p13), (Value.agg (List.toArray l92))] (TF.goes_70) rfl rfl (Spec.mono hS fun v h93 hv => ?_))
     obtain ⟨b94, rfl, hS⟩ := hv
     obtain ⟨hT, hF⟩ := hS
     cases b94
     ·have hS := hF rfl; clear hT hF
      refine Run.go rfl rfl rfl (sem_not false rfl ?_)
      refine Run.region_end ?_
      refine Run.condT rfl ?_
      refine Run.seq ?_
      refine Run.ops0 (idx := [0]) rfl ?_
      refine Run.go rfl rfl rfl (sem_assign ((Value.bool false)) rfl ?_)
      refine Run.region_end ?_
      refine Run.ret ⟨.inr rfl, ?_⟩
      exact hS.imp fun h' hq => ⟨(false), rfl, hq⟩
     ·have hS := hT rfl; clear hT hF
      refine Run.go rfl rfl rfl (sem_not true rfl ?_)
      refine Run.region_end ?_
      refine Run.condF rfl ?_
      refine Run.skip ?_
      refine Run.seqJ (fun e h96 => Agree [(2, (Value.int .i64 (i5))), (7, (Value.pointer p13)), (14, (Value.slice a81 n82 c83)), (16, (Value.pointer (some ⟨k89, 0, none⟩)))] e ∧ S_countermandlaw18_RedoApplies_J4 B i5 p13 a81 n82 c83 k89 h96 Q) ?_ fun j95 => ?_
      ·rintro e h96 ⟨hag, hS⟩
       refine Run.env hag ?_; clear hag
       refine Run.seq ?_
       refine Run.ops0 (idx := [0, 1, 2, 3]) rfl ?_
       refine Run.go rfl rfl rfl (sem_move ((Value.pointer p13)) rfl ?_)
       refine Run.go rfl rfl rfl (sem_move ((Value.slice a81 n82 c83)) rfl ?_)
       refine Run.go rfl rfl rfl (sem_move ((Value.int .i64 (i5))) rfl ?_)
       refine Run.go rfl rfl rfl (sem_callL [(Value.pointer p13), (Value.slice a81 n82 c83), (Value.int .i64 (i5))] (TF.goes_68) rfl rfl (Spec.mono hS fun v h97 hv => ?_))
       obtain ⟨rfl, hS⟩ := hv
       refine Run.region_end ?_
       refine Run.seq ?_
       refine Run.ops0 (idx := [0, 1, 2, 3]) rfl ?_
       refine Run.go rfl rfl rfl (sem_move ((Value.pointer p13)) rfl ?_)
       obtain ⟨l98, hln, hl, hS⟩ := hS
       refine Run.go rfl rfl rfl (sem_loadN ⟨k89, 0, none⟩ l98 rfl TF.agg_115 (TF.sz_115.trans (congrArg some hln.symm)) hl ?_)
       refine Run.go rfl rfl rfl (sem_callL [(Value.pointer p13), (Value.agg (List.toArray l98))] (TF.goes_70) rfl rfl (Spec.mono hS fun v h99 hv => ?_))
       obtain ⟨b100, rfl, hS⟩ := hv
       refine Run.go rfl rfl rfl (sem_assign ((Value.bool b100)) rfl ?_)
       refine Run.region_end ?_
       refine Run.ret ⟨.inr rfl, ?_⟩
       exact hS.imp fun h' hq => ⟨(b100), rfl, hq⟩
      refine Run.seq ?_
      refine Run.ops0 (idx := [0, 1, 2]) rfl ?_
      refine Run.go rfl rfl rfl (sem_move ((Value.slice a21 n22 c23)) rfl ?_)
      refine Run.go rfl rfl rfl (sem_lenSl a21 n22 c23 rfl TF.sl_99 ?_)
      refine Run.go rfl rfl rfl (sem_move ((Value.int .i64 (0))) rfl ?_)
      refine Run.region_end ?_
      refine Run.block ?_
      obtain ⟨J106, m104, h0, hS⟩ := hS
      refine Run.of_fin (h0.imp fun h' h0 => ?_)
      refine Run.loop (σ := Int × Nat) (fun x e h => J106 x.1 x.2 h ∧ Agree [(2, (Value.int .i64 (i5))), (7, (Value.pointer p13)), (14, (Value.slice a81 n82 c83)), (16, (Value.pointer (some ⟨k89, 0, none⟩))), (59, (Value.slice a21 n22 c23)), (60, (Value.int .i64 ((n22 : Nat)))), (61, (Value.int .i64 (x.1)))] e) (fun x => x.2) ((0), m104) ⟨h0, ⟨rfl, rfl, rfl, rfl, rfl, rfl, rfl, trivial⟩⟩ ?_; clear h0
      rintro ⟨i101, m103⟩ e h102 ⟨hJ, hag⟩ ih105
      have hS := hS i101 m103 h102 hJ; clear hJ
      refine Run.env hag ?_; clear hag
      refine Run.seq ?_
      refine Run.ops0 (idx := [0]) rfl ?_
      obtain ⟨hT, hF⟩ := hS
      by_cases hb107 : (i101 : Int) < ((n22 : Nat))
      ·have hS := hT hb107; clear hT hF
       refine Run.go rfl rfl rfl (sem_binI .i64 (i101) ((n22 : Nat)) (.bool true) rfl rfl (binI_lss_t hb107) ?_)
       refine Run.region_end ?_
       refine Run.seq ?_
       refine Run.condT rfl ?_
       refine Run.skip ?_
       refine Run.seq ?_
       refine Run.block ?_
       refine Run.seq ?_
       refine Run.ops0 (idx := [0, 1, 2, 3]) rfl ?_
       obtain ⟨A108, e109, hi0, hi1, hS⟩ := hS
       refine Run.go rfl rfl rfl (sem_indexAddrS A108 n22 c23 .i64 (i101) (congrArg (fun a => Value.slice a n22 c23) e109) rfl TF.slc_99 hi0 hi1 ?_)
       obtain ⟨i110, b111, s112, hl, hS⟩ := hS
       refine Run.go rfl rfl rfl (sem_loadN (Addr.add A108 (Int.toNat (i101) * 3)) [(Value.int .i64 (i110)), (Value.bool b111), (Value.string s112)] rfl TF.agg_122 TF.sz_122 hl ?_)
       refine Run.go rfl rfl rfl (sem_allocN [(Value.int .i64 (0)), (Value.bool false), (Value.string ByteArray.empty)] TF.zero_122 (fun k113 hb1 hb2 h114 hb3 => ?_))
       have hS := hS k113 hb1 hb2 h114 hb3
       obtain ⟨h115, hst, hS⟩ := hS
       refine Run.go rfl rfl rfl (sem_storeN ⟨k113, 0, none⟩ [(Value.int .i64 (i110)), (Value.bool b111), (Value.string s112)] h115 rfl rfl TF.sz_122 hst ?_)
       refine Run.region_end ?_
       refine Run.seq ?_
       refine Run.ops0 (idx := [0, 1, 2, 3, 4, 5, 6, 7, 8, 9]) rfl ?_
       refine Run.go rfl rfl rfl (sem_move ((Value.pointer p13)) rfl ?_)
       refine Run.go rfl rfl rfl (sem_fieldAddr ⟨k113, 0, none⟩ 0 rfl TF.fld_122_0 ?_)
       obtain ⟨i116, hl, hS⟩ := hS
       refine Run.go rfl rfl rfl (sem_load1 ⟨k113, 0, none⟩ ((Value.int .i64 (i116))) rfl TF.agg_3 hl ?_)
       refine Run.go rfl rfl rfl (sem_callL [(Value.pointer p13), (Value.int .i64 (i116))] (TF.goes_71) rfl rfl (Spec.mono hS fun v h117 hv => ?_))
       obtain ⟨b118, s119, i120, rfl, hS⟩ := hv
       refine Run.go rfl rfl rfl (sem_move ((Value.tuple #[(Value.agg #[(Value.bool b118), (Value.string s119)]), (Value.int .i64 (i120))])) rfl ?_)
       refine Run.go rfl rfl rfl (sem_extract #[(Value.agg #[(Value.bool b118), (Value.string s119)]), (Value.int .i64 (i120))] ((Value.agg #[(Value.bool b118), (Value.string s119)])) rfl rfl ?_)
       refine Run.go rfl rfl rfl (sem_extract #[(Value.agg #[(Value.bool b118), (Value.string s119)]), (Value.int .i64 (i120))] ((Value.int .i64 (i120))) rfl rfl ?_)
       refine Run.go rfl rfl rfl (sem_allocN [(Value.bool false), (Value.string ByteArray.empty)] TF.zero_111 (fun k121 hb1 hb2 h122 hb3 => ?_))
       have hS := hS k121 hb1 hb2 h122 hb3
       obtain ⟨h123, hst, hS⟩ := hS
       refine Run.go rfl rfl rfl (sem_storeN ⟨k121, 0, none⟩ [(Value.bool b118), (Value.string s119)] h123 rfl rfl TF.sz_111 hst ?_)
       refine Run.go rfl rfl rfl (sem_assign ((Value.int .i64 (i120))) rfl ?_)
       refine Run.region_end ?_
       refine Run.seq ?_
       refine Run.ops0 (idx := [0, 1, 2]) rfl ?_
       refine Run.go rfl rfl rfl (sem_move ((Value.int .i64 (i120))) rfl ?_)
       refine Run.go rfl rfl rfl (sem_move ((Value.int .i64 (i5))) rfl ?_)
       obtain ⟨hT, hF⟩ := hS
       by_cases hb124 : (i120 : Int) = i5
       ·have hS := hT hb124; clear hT hF
        refine Run.go rfl rfl rfl (sem_binI .i64 (i120) (i5) (.bool false) rfl rfl (binI_neq_t hb124) ?_)
        refine Run.region_end ?_
        refine Run.condF rfl ?_
        refine Run.skip ?_
        refine Run.inBlock ?_
        refine Run.ops0 (idx := [0, 1]) rfl ?_
        refine Run.go rfl rfl rfl (sem_binI .i64 (i101) (1) ((Value.int .i64 (IntKind.wrap .i64 ((i101) + (1))))) rfl rfl rfl ?_)
        refine Run.go rfl rfl rfl (sem_move ((Value.int .i64 (IntKind.wrap .i64 ((i101) + (1))))) rfl ?_)
        refine Run.region_end ?_
        exact Run.of_fin (hS.imp fun h' ⟨m', hm, hS⟩ => ih105 ((IntKind.wrap .i64 ((i101) + (1))), m') _ _ ⟨hS, ⟨rfl, rfl, rfl, rfl, rfl, rfl, rfl, trivial⟩⟩ hm)
       ·have hS := hF hb124; clear hT hF
        refine Run.go rfl rfl rfl (sem_binI .i64 (i120) (i5) (.bool true) rfl rfl (binI_neq_f hb124) ?_)
        refine Run.region_end ?_
        refine Run.condT rfl ?_
        refine Run.seq ?_
        refine Run.ops0 (idx := [0]) rfl ?_
        refine Run.go rfl rfl rfl (sem_assign ((Value.bool false)) rfl ?_)
        refine Run.region_end ?_
        refine Run.ret ⟨.inr rfl, ?_⟩
        exact hS.imp fun h' hq => ⟨(false), rfl, hq⟩
      ·have hS := hF hb107; clear hT hF
       refine Run.go rfl rfl rfl (sem_binI .i64 (i101) ((n22 : Nat)) (.bool false) rfl rfl (binI_lss_f hb107) ?_)
       refine Run.region_end ?_
       refine Run.seq ?_
       refine Run.condF rfl ?_
       refine Run.exit rfl ?_
       exact Run.of_fin (hS.imp fun h' hS => j95 _ _ ⟨⟨rfl, rfl, rfl, rfl, trivial⟩, hS⟩)
    refine Run.seq ?_
    refine Run.ops0 (idx := [0, 1, 2, 3, 4, 5]) rfl ?_
    refine Run.go rfl rfl rfl (sem_move ((Value.bool false)) rfl ?_)
    refine Run.go rfl rfl rfl (sem_not false rfl ?_)
    refine Run.go rfl rfl rfl (sem_move ((Value.bool true)) rfl ?_)
    refine Run.no rfl rfl rfl ?_
    refine Run.no rfl rfl rfl ?_
    refine Run.go rfl rfl rfl (sem_pick true ((Value.bool true)) rfl rfl ?_)
    refine Run.region_end ?_
    refine Run.condT rfl ?_
    refine Run.seq ?_
    refine Run.ops0 (idx := [0]) rfl ?_
    refine Run.go rfl rfl rfl (sem_assign ((Value.bool true)) rfl ?_)
    refine Run.region_end ?_
    refine Run.ret ⟨.inr rfl, ?_⟩
    exact hS.imp fun h' hq => ⟨(true), rfl, hq⟩
  ·have hS := hT rfl; clear hT hF
   refine Run.go rfl rfl rfl (sem_extract #[(Value.pointer p13), (Value.agg (List.toArray l14)), (Value.bool true)] (.bool true) rfl rfl ?_)
   refine Run.go rfl rfl rfl (sem_allocN [(Value.bool false), (Value.string ByteArray.empty), (Value.bool false), (Value.string ByteArray.empty), (Value.bool false), (Value.string ByteArray.empty), (Value.bool false), (Value.string ByteArray.empty), (Value.bool false), (Value.string ByteArray.empty), (Value.bool false), (Value.string ByteArray.empty)] TF.zero_115 (fun k125 hb1 hb2 h126 hb3 => ?_))
   have hS := hS k125 hb1 hb2 h126 hb3
   refine Run.go rfl rfl rfl (sem_assign ((Value.pointer p13)) rfl ?_)
   obtain ⟨hln, h127, hst, hS⟩ := hS
   refine Run.go rfl rfl rfl (sem_storeN ⟨k125, 0, none⟩ l14 h127 rfl rfl (TF.sz_115.trans (congrArg some hln.symm)) hst ?_)
   refine Run.go rfl rfl rfl (sem_assign ((Value.bool true)) rfl ?_)
   refine Run.region_end ?_
   refine Run.seq ?_
   refine Run.ops0 (idx := [0, 1, 2, 3, 4, 5, 6, 7, 8]) rfl ?_
   refine Run.go rfl rfl rfl (sem_move ((Value.slice a2 n3 c4)) rfl ?_)
   refine Run.go rfl rfl rfl (sem_callL [(Value.slice a2 n3 c4)] (TF.goes_65) rfl rfl (Spec.mono hS fun v h128 hv => ?_))
   obtain ⟨p129, a130, n131, c132, b133, rfl, hS⟩ := hv
   refine Run.go rfl rfl rfl (sem_move ((Value.tuple #[(Value.pointer p129), (Value.slice a130 n131 c132), (Value.bool b133)])) rfl ?_)
   refine Run.go rfl rfl rfl (sem_extract #[(Value.pointer p129), (Value.slice a130 n131 c132), (Value.bool b133)] ((Value.pointer p129)) rfl rfl ?_)
   refine Run.go rfl rfl rfl (sem_extract #[(Value.pointer p129), (Value.slice a130 n131 c132), (Value.bool b133)] ((Value.slice a130 n131 c132)) rfl rfl ?_)
   obtain ⟨hT, hF⟩ := hS
   cases b133
   ·have hS := hF rfl; clear hT hF
    refine Run.go rfl rfl rfl (sem_extract #[(Value.pointer p129), (Value.slice a130 n131 c132), (Value.bool false)] (.bool false) rfl rfl ?_)
    refine Run.go rfl rfl rfl (sem_assign ((Value.pointer p129)) rfl ?_)
    refine Run.go rfl rfl rfl (sem_assign ((Value.slice a130 n131 c132)) rfl ?_)
    refine Run.go rfl rfl rfl (sem_assign ((Value.bool false)) rfl ?_)
    refine Run.region_end ?_
    refine Run.seqJ (fun e h135 => Agree [(2, (Value.int .i64 (i5))), (7, (Value.pointer p13)), (8, (Value.pointer (some ⟨k125, 0, none⟩))), (10, (Value.pointer p129)), (11, (Value.slice a130 n131 c132))] e ∧ S_countermandlaw18_RedoApplies_J5 B i5 p13 k125 p129 a130 n131 c132 h135 Q) ?_ fun j134 => ?_
    ·rintro e h135 ⟨hag, hS⟩
     refine Run.env hag ?_; clear hag
     refine Run.seq ?_
     refine Run.ops0 (idx := [0, 1, 2, 3, 4, 5, 6, 7, 8, 9]) rfl ?_
     refine Run.go rfl rfl rfl (sem_move ((Value.pointer p129)) rfl ?_)
     refine Run.go rfl rfl rfl (sem_callL [(Value.int .i64 (7)), (Value.pointer p129)] (TF.goes_66) rfl rfl (Spec.mono hS fun v h136 hv => ?_))
     obtain ⟨s137, rfl, hS⟩ := hv
     refine Run.go rfl rfl rfl (sem_callL [(Value.string s137)] (TF.goes_61) rfl rfl (Spec.mono hS fun v h138 hv => ?_))
     obtain ⟨i139, a140, n141, c142, b143, rfl, hS⟩ := hv
     refine Run.go rfl rfl rfl (sem_move ((Value.tuple #[(Value.int .i64 (i139)), (Value.slice a140 n141 c142), (Value.bool b143)])) rfl ?_)
     refine Run.go rfl rfl rfl (sem_extract #[(Value.int .i64 (i139)), (Value.slice a140 n141 c142), (Value.bool b143)] ((Value.int .i64 (i139))) rfl rfl ?_)
     refine Run.go rfl rfl rfl (sem_extract #[(Value.int .i64 (i139)), (Value.slice a140 n141 c142), (Value.bool b143)] ((Value.slice a140 n141 c142)) rfl rfl ?_)
     refine Run.go rfl rfl rfl (sem_extract #[(Value.int .i64 (i139)), (Value.slice a140 n141 c142), (Value.bool b143)] ((Value.bool b143)) rfl rfl ?_)
     refine Run.go rfl rfl rfl (sem_assign ((Value.int .i64 (i139))) rfl ?_)
     refine Run.go rfl rfl rfl (sem_assign ((Value.slice a140 n141 c142)) rfl ?_)
     refine Run.go rfl rfl rfl (sem_assign ((Value.bool b143)) rfl ?_)
     refine Run.region_end ?_
     refine Run.seq ?_
     refine Run.ops0 (idx := [0, 1, 2, 3]) rfl ?_
     refine Run.go rfl rfl rfl (sem_move ((Value.pointer p13)) rfl ?_)
     refine Run.go rfl rfl rfl (sem_move ((Value.slice a140 n141 c142)) rfl ?_)
     refine Run.go rfl rfl rfl (sem_move ((Value.int .i64 (i5))) rfl ?_)
     refine Run.go rfl rfl rfl (sem_callL [(Value.pointer p13), (Value.slice a140 n141 c142), (Value.int .i64 (i5))] (TF.goes_68) rfl rfl (Spec.mono hS fun v h144 hv => ?_))
     obtain ⟨rfl, hS⟩ := hv
     refine Run.region_end ?_
     refine Run.seq ?_
     refine Run.ops0 (idx := [0, 1, 2, 3, 4]) rfl ?_
     obtain ⟨l145, hln, hl, hS⟩ := hS
     refine Run.go rfl rfl rfl (sem_loadN ⟨k125, 0, none⟩ l145 rfl TF.agg_115 (TF.sz_115.trans (congrArg some hln.symm)) hl ?_)
     refine Run.go rfl rfl rfl (sem_move ((Value.slice a130 n131 c132)) rfl ?_)
     refine Run.go rfl rfl rfl (sem_callL [(Value.agg (List.toArray l145)), (Value.slice a130 n131 c132)] (TF.goes_69) rfl rfl (Spec.mono hS fun v h146 hv => ?_))
     obtain ⟨l147, rfl, hS⟩ := hv
     refine Run.go rfl rfl rfl (sem_allocN [(Value.bool false), (Value.string ByteArray.empty), (Value.bool false), (Value.string ByteArray.empty), (Value.bool false), (Value.string ByteArray.empty), (Value.bool false), (Value.string ByteArray.empty), (Value.bool false), (Value.string ByteArray.empty), (Value.bool false), (Value.string ByteArray.empty)] TF.zero_115 (fun k148 hb1 hb2 h149 hb3 => ?_))
     have hS := hS k148 hb1 hb2 h149 hb3
     obtain ⟨hln, h150, hst, hS⟩ := hS
     refine Run.go rfl rfl rfl (sem_storeN ⟨k148, 0, none⟩ l147 h150 rfl rfl (TF.sz_115.trans (congrArg some hln.symm)) hst ?_)
     refine Run.region_end ?_
     refine Run.seq ?_
     refine Run.seq ?_
     refine Run.ops0 (idx := [0, 1, 2, 3]) rfl ?_
     refine Run.go rfl rfl rfl (sem_move ((Value.pointer p13)) rfl ?_)
     obtain ⟨l151, hln, hl, hS⟩ := hS
     refine Run.go rfl rfl rfl (sem_loadN ⟨k148, 0, none⟩ l151 rfl TF.agg_115 (TF.sz_115.trans (congrArg some hln.symm)) hl ?_)
     refine Run.go rfl rfl rfl (sem_callL [(Value.pointer p13), (Value.agg (List.toArray l151))] (TF.goes_70) rfl rfl (Spec.mono hS fun v h152 hv => ?_))
     obtain ⟨b153, rfl, hS⟩ := hv
     obtain ⟨hT, hF⟩ := hS
     cases b153
     ·have hS := hF rfl; clear hT hF
      refine Run.go rfl rfl rfl (sem_not false rfl ?_)
      refine Run.region_end ?_
      refine Run.condT rfl ?_
      refine Run.seq ?_
      refine Run.ops0 (idx := [0]) rfl ?_
      refine Run.go rfl rfl rfl (sem_assign ((Value.bool false)) rfl ?_)
      refine Run.region_end ?_
      refine Run.ret ⟨.inr rfl, ?_⟩
      exact hS.imp fun h' hq => ⟨(false), rfl, hq⟩
     ·have hS := hT rfl; clear hT hF
      refine Run.go rfl rfl rfl (sem_not true rfl ?_)
      refine Run.region_end ?_
      refine Run.condF rfl ?_
      refine Run.skip ?_
      refine Run.seqJ (fun e h155 => Agree [(2, (Value.int .i64 (i5))), (7, (Value.pointer p13)), (14, (Value.slice a140 n141 c142)), (16, (Value.pointer (some ⟨k148, 0, none⟩)))] e ∧ S_countermandlaw18_RedoApplies_J6 B i5 p13 a140 n141 c142 k148 h155 Q) ?_ fun j154 => ?_
      ·rintro e h155 ⟨hag, hS⟩
       refine Run.env hag ?_; clear hag
       refine Run.seq ?_
       refine Run.ops0 (idx := [0, 1, 2, 3]) rfl ?_
       refine Run.go rfl rfl rfl (sem_move ((Value.pointer p13)) rfl ?_)
       refine Run.go rfl rfl rfl (sem_move ((Value.slice a140 n141 c142)) rfl ?_)
       refine Run.go rfl rfl rfl (sem_move ((Value.int .i64 (i5))) rfl ?_)
       refine Run.go rfl rfl rfl (sem_callL [(Value.pointer p13), (Value.slice a140 n141 c142), (Value.int .i64 (i5))] (TF.goes_68) rfl rfl (Spec.mono hS fun v h156 hv => ?_))
       obtain ⟨rfl, hS⟩ := hv
       refine Run.region_end ?_
       refine Run.seq ?_
       refine Run.ops0 (idx := [0, 1, 2, 3]) rfl ?_
       refine Run.go rfl rfl rfl (sem_move ((Value.pointer p13)) rfl ?_)
       obtain ⟨l157, hln, hl, hS⟩ := hS
       refine Run.go rfl rfl rfl (sem_loadN ⟨k148, 0, none⟩ l157 rfl TF.agg_115 (TF.sz_115.trans (congrArg some hln.symm)) hl ?_)
       refine Run.go rfl rfl rfl (sem_callL [(Value.pointer p13), (Value.agg (List.toArray l157))] (TF.goes_70) rfl rfl (Spec.mono hS fun v h158 hv => ?_))
       obtain ⟨b159, rfl, hS⟩ := hv
       refine Run.go rfl rfl rfl (sem_assign ((Value.bool b159)) rfl ?_)
       refine Run.region_end ?_
       refine Run.ret ⟨.inr rfl, ?_⟩
       exact hS.imp fun h' hq => ⟨(b159), rfl, hq⟩
      refine Run.seq ?_
      refine Run.ops0 (idx := [0, 1, 2]) rfl ?_
      refine Run.go rfl rfl rfl (sem_move ((Value.slice a130 n131 c132)) rfl ?_)
      refine Run.go rfl rfl rfl (sem_lenSl a130 n131 c132 rfl TF.sl_99 ?_)
      refine Run.go rfl rfl rfl (sem_move ((Value.int .i64 (0))) rfl ?_)
      refine Run.region_end ?_
      refine Run.block ?_
      obtain ⟨J165, m163, h0, hS⟩ := hS
      refine Run.of_fin (h0.imp fun h' h0 => ?_)
      refine Run.loop (σ := Int × Nat) (fun x e h => J165 x.1 x.2 h ∧ Agree [(2, (Value.int .i64 (i5))), (7, (Value.pointer p13)), (14, (Value.slice a140 n141 c142)), (16, (Value.pointer (some ⟨k148, 0, none⟩))), (59, (Value.slice a130 n131 c132)), (60, (Value.int .i64 ((n131 : Nat)))), (61, (Value.int .i64 (x.1)))] e) (fun x => x.2) ((0), m163) ⟨h0, ⟨rfl, rfl, rfl, rfl, rfl, rfl, rfl, trivial⟩⟩ ?_; clear h0
      rintro ⟨i160, m162⟩ e h161 ⟨hJ, hag⟩ ih164
      have hS := hS i160 m162 h161 hJ; clear hJ
      refine Run.env hag ?_; clear hag
      refine Run.seq ?_
      refine Run.ops0 (idx := [0]) rfl ?_
      obtain ⟨hT, hF⟩ := hS
      by_cases hb166 : (i160 : Int) < ((n131 : Nat))
      ·have hS := hT hb166; clear hT hF
       refine Run.go rfl rfl rfl (sem_binI .i64 (i160) ((n131 : Nat)) (.bool true) rfl rfl (binI_lss_t hb166) ?_)
       refine Run.region_end ?_
       refine Run.seq ?_
       refine Run.condT rfl ?_
       refine Run.skip ?_
       refine Run.seq ?_
       refine Run.block ?_
       refine Run.seq ?_
       refine Run.ops0 (idx := [0, 1, 2, 3]) rfl ?_
       obtain ⟨A167, e168, hi0, hi1, hS⟩ := hS
       refine Run.go rfl rfl rfl (sem_indexAddrS A167 n131 c132 .i64 (i160) (congrArg (fun a => Value.slice a n131 c132) e168) rfl TF.slc_99 hi0 hi1 ?_)
       obtain ⟨i169, b170, s171, hl, hS⟩ := hS
       refine Run.go rfl rfl rfl (sem_loadN (Addr.add A167 (Int.toNat (i160) * 3)) [(Value.int .i64 (i169)), (Value.bool b170), (Value.string s171)] rfl TF.agg_122 TF.sz_122 hl ?_)
       refine Run.go rfl rfl rfl (sem_allocN [(Value.int .i64 (0)), (Value.bool false), (Value.string ByteArray.empty)] TF.zero_122 (fun k172 hb1 hb2 h173 hb3 => ?_))
       have hS := hS k172 hb1 hb2 h173 hb3
       obtain ⟨h174, hst, hS⟩ := hS
       refine Run.go rfl rfl rfl (sem_storeN ⟨k172, 0, none⟩ [(Value.int .i64 (i169)), (Value.bool b170), (Value.string s171)] h174 rfl rfl TF.sz_122 hst ?_)
       refine Run.region_end ?_
       refine Run.seq ?_
       refine Run.ops0 (idx := [0, 1, 2, 3, 4, 5, 6, 7, 8, 9]) rfl ?_
       refine Run.go rfl rfl rfl (sem_move ((Value.pointer p13)) rfl ?_)
       refine Run.go rfl rfl rfl (sem_fieldAddr ⟨k172, 0, none⟩ 0 rfl TF.fld_122_0 ?_)
       obtain ⟨i175, hl, hS⟩ := hS
       refine Run.go rfl rfl rfl (sem_load1 ⟨k172, 0, none⟩ ((Value.int .i64 (i175))) rfl TF.agg_3 hl ?_)
       refine Run.go rfl rfl rfl (sem_callL [(Value.pointer p13), (Value.int .i64 (i175))] (TF.goes_71) rfl rfl (Spec.mono hS fun v h176 hv => ?_))
       obtain ⟨b177, s178, i179, rfl, hS⟩ := hv
       refine Run.go rfl rfl rfl (sem_move ((Value.tuple #[(Value.agg #[(Value.bool b177), (Value.string s178)]), (Value.int .i64 (i179))])) rfl ?_)
       refine Run.go rfl rfl rfl (sem_extract #[(Value.agg #[(Value.bool b177), (Value.string s178)]), (Value.int .i64 (i179))] ((Value.agg #[(Value.bool b177), (Value.string s178)])) rfl rfl ?_)
       refine Run.go rfl rfl rfl (sem_extract #[(Value.agg #[(Value.bool b177), (Value.string s178)]), (Value.int .i64 (i179))] ((Value.int .i64 (i179))) rfl rfl ?_)
       refine Run.go rfl rfl rfl (sem_allocN [(Value.bool false), (Value.string ByteArray.empty)] TF.zero_111 (fun k180 hb1 hb2 h181 hb3 => ?_))
       have hS := hS k180 hb1 hb2 h181 hb3
       obtain ⟨h182, hst, hS⟩ := hS
       refine Run.go rfl rfl rfl (sem_storeN ⟨k180, 0, none⟩ [(Value.bool b177), (Value.string s178)] h182 rfl rfl TF.sz_111 hst ?_)
       refine Run.go rfl rfl rfl (sem_assign ((Value.int .i64 (i179))) rfl ?_)
       refine Run.region_end ?_
       refine Run.seq ?_
       refine Run.ops0 (idx := [0, 1, 2]) rfl ?_
       refine Run.go rfl rfl rfl (sem_move ((Value.int .i64 (i179))) rfl ?_)
       refine Run.go rfl rfl rfl (sem_move ((Value.int .i64 (i5))) rfl ?_)
       obtain ⟨hT, hF⟩ := hS
       by_cases hb183 : (i179 : Int) = i5
       ·have hS := hT hb183; clear hT hF
        refine Run.go rfl rfl rfl (sem_binI .i64 (i179) (i5) (.bool false) rfl rfl (binI_neq_t hb183) ?_)
        refine Run.region_end ?_
        refine Run.condF rfl ?_
        refine Run.skip ?_
        refine Run.inBlock ?_
        refine Run.ops0 (idx := [0, 1]) rfl ?_
        refine Run.go rfl rfl rfl (sem_binI .i64 (i160) (1) ((Value.int .i64 (IntKind.wrap .i64 ((i160) + (1))))) rfl rfl rfl ?_)
        refine Run.go rfl rfl rfl (sem_move ((Value.int .i64 (IntKind.wrap .i64 ((i160) + (1))))) rfl ?_)
        refine Run.region_end ?_
        exact Run.of_fin (hS.imp fun h' ⟨m', hm, hS⟩ => ih164 ((IntKind.wrap .i64 ((i160) + (1))), m') _ _ ⟨hS, ⟨rfl, rfl, rfl, rfl, rfl, rfl, rfl, trivial⟩⟩ hm)
       ·have hS := hF hb183; clear hT hF
        refine Run.go rfl rfl rfl (sem_binI .i64 (i179) (i5) (.bool true) rfl rfl (binI_neq_f hb183) ?_)
        refine Run.region_end ?_
        refine Run.condT rfl ?_
        refine Run.seq ?_
        refine Run.ops0 (idx := [0]) rfl ?_
        refine Run.go rfl rfl rfl (sem_assign ((Value.bool false)) rfl ?_)
        refine Run.region_end ?_
        refine Run.ret ⟨.inr rfl, ?_⟩
        exact hS.imp fun h' hq => ⟨(false), rfl, hq⟩
      ·have hS := hF hb166; clear hT hF
       refine Run.go rfl rfl rfl (sem_binI .i64 (i160) ((n131 : Nat)) (.bool false) rfl rfl (binI_lss_f hb166) ?_)
       refine Run.region_end ?_
       refine Run.seq ?_
       refine Run.condF rfl ?_
       refine Run.exit rfl ?_
       exact Run.of_fin (hS.imp fun h' hS => j154 _ _ ⟨⟨rfl, rfl, rfl, rfl, trivial⟩, hS⟩)
    refine Run.seq ?_
    refine Run.ops0 (idx := [0, 1, 2, 3, 4, 5]) rfl ?_
    refine Run.go rfl rfl rfl (sem_move ((Value.bool true)) rfl ?_)
    refine Run.go rfl rfl rfl (sem_not true rfl ?_)
    refine Run.go rfl rfl rfl (sem_move ((Value.bool false)) rfl ?_)
    refine Run.go rfl rfl rfl (sem_move ((Value.bool false)) rfl ?_)
    refine Run.go rfl rfl rfl (sem_not false rfl ?_)
    refine Run.go rfl rfl rfl (sem_pick false ((Value.bool true)) rfl rfl ?_)
    refine Run.region_end ?_
    refine Run.condT rfl ?_
    refine Run.seq ?_
    refine Run.ops0 (idx := [0]) rfl ?_
    refine Run.go rfl rfl rfl (sem_assign ((Value.bool true)) rfl ?_)
    refine Run.region_end ?_
    refine Run.ret ⟨.inr rfl, ?_⟩
    exact hS.imp fun h' hq => ⟨(true), rfl, hq⟩
   ·have hS := hT rfl; clear hT hF
    refine Run.go rfl rfl rfl (sem_extract #[(Value.pointer p129), (Value.slice a130 n131 c132), (Value.bool true)] (.bool true) rfl rfl ?_)
    refine Run.go rfl rfl rfl (sem_assign ((Value.pointer p129)) rfl ?_)
    refine Run.go rfl rfl rfl (sem_assign ((Value.slice a130 n131 c132)) rfl ?_)
    refine Run.go rfl rfl rfl (sem_assign ((Value.bool true)) rfl ?_)
    refine Run.region_end ?_
    refine Run.seqJ (fun e h185 => Agree [(2, (Value.int .i64 (i5))), (7, (Value.pointer p13)), (8, (Value.pointer (some ⟨k125, 0, none⟩))), (10, (Value.pointer p129)), (11, (Value.slice a130 n131 c132))] e ∧ S_countermandlaw18_RedoApplies_J7 B i5 p13 k125 p129 a130 n131 c132 h185 Q) ?_ fun j184 => ?_
    ·rintro e h185 ⟨hag, hS⟩
     refine Run.env hag ?_; clear hag
     refine Run.seq ?_
     refine Run.ops0 (idx := [0, 1, 2, 3, 4, 5, 6, 7, 8, 9]) rfl ?_
     refine Run.go rfl rfl rfl (sem_move ((Value.pointer p129)) rfl ?_)
     refine Run.go rfl rfl rfl (sem_callL [(Value.int .i64 (7)), (Value.pointer p129)] (TF.goes_66) rfl rfl (Spec.mono hS fun v h186 hv => ?_))
     obtain ⟨s187, rfl, hS⟩ := hv
     refine Run.go rfl rfl rfl (sem_callL [(Value.string s187)] (TF.goes_61) rfl rfl (Spec.mono hS fun v h188 hv => ?_))
     obtain ⟨i189, a190, n191, c192, b193, rfl, hS⟩ := hv
     refine Run.go rfl rfl rfl (sem_move ((Value.tuple #[(Value.int .i64 (i189)), (Value.slice a190 n191 c192), (Value.bool b193)])) rfl ?_)
     refine Run.go rfl rfl rfl (sem_extract #[(Value.int .i64 (i189)), (Value.slice a190 n191 c192), (Value.bool b193)] ((Value.int .i64 (i189))) rfl rfl ?_)
     refine Run.go rfl rfl rfl (sem_extract #[(Value.int .i64 (i189)), (Value.slice a190 n191 c192), (Value.bool b193)] ((Value.slice a190 n191 c192)) rfl rfl ?_)
     refine Run.go rfl rfl rfl (sem_extract #[(Value.int .i64 (i189)), (Value.slice a190 n191 c192), (Value.bool b193)] ((Value.bool b193)) rfl rfl ?_)
     refine Run.go rfl rfl rfl (sem_assign ((Value.int .i64 (i189))) rfl ?_)
     refine Run.go rfl rfl rfl (sem_assign ((Value.slice a190 n191 c192)) rfl ?_)
     refine Run.go rfl rfl rfl (sem_assign ((Value.bool b193)) rfl ?_)
     refine Run.region_end ?_
     refine Run.seq ?_
     refine Run.ops0 (idx := [0, 1, 2, 3]) rfl ?_
     refine Run.go rfl rfl rfl (sem_move ((Value.pointer p13)) rfl ?_)
     refine Run.go rfl rfl rfl (sem_move ((Value.slice a190 n191 c192)) rfl ?_)
     refine Run.go rfl rfl rfl (sem_move ((Value.int .i64 (i5))) rfl ?_)
     refine Run.go rfl rfl rfl (sem_callL [(Value.pointer p13), (Value.slice a190 n191 c192), (Value.int .i64 (i5))] (TF.goes_68) rfl rfl (Spec.mono hS fun v h194 hv => ?_))
     obtain ⟨rfl, hS⟩ := hv
     refine Run.region_end ?_
     refine Run.seq ?_
     refine Run.ops0 (idx := [0, 1, 2, 3, 4]) rfl ?_
     obtain ⟨l195, hln, hl, hS⟩ := hS
     refine Run.go rfl rfl rfl (sem_loadN ⟨k125, 0, none⟩ l195 rfl TF.agg_115 (TF.sz_115.trans (congrArg some hln.symm)) hl ?_)
     refine Run.go rfl rfl rfl (sem_move ((Value.slice a130 n131 c132)) rfl ?_)
     refine Run.go rfl rfl rfl (sem_callL [(Value.agg (List.toArray l195)), (Value.slice a130 n131 c132)] (TF.goes_69) rfl rfl (Spec.mono hS fun v h196 hv => ?_))
     obtain ⟨l197, rfl, hS⟩ := hv
     refine Run.go rfl rfl rfl (sem_allocN [(Value.bool false), (Value.string ByteArray.empty), (Value.bool false), (Value.string ByteArray.empty), (Value.bool false), (Value.string ByteArray.empty), (Value.bool false), (Value.string ByteArray.empty), (Value.bool false), (Value.string ByteArray.empty), (Value.bool false), (Value.string ByteArray.empty)] TF.zero_115 (fun k198 hb1 hb2 h199 hb3 => ?_))
     have hS := hS k198 hb1 hb2 h199 hb3
     obtain ⟨hln, h200, hst, hS⟩ := hS
     refine Run.go rfl rfl rfl (sem_storeN ⟨k198, 0, none⟩ l197 h200 rfl rfl (TF.sz_115.trans (congrArg some hln.symm)) hst ?_)
     refine Run.region_end ?_
     refine Run.seq ?_
     refine Run.seq ?_
     refine Run.ops0 (idx := [0, 1, 2, 3]) rfl ?_
     refine Run.go rfl rfl rfl (sem_move ((Value.pointer p13)) rfl ?_)
     obtain ⟨l201, hln, hl, hS⟩ := hS
     refine Run.go rfl rfl rfl (sem_loadN ⟨k198, 0, none⟩ l201 rfl TF.agg_115 (TF.sz_115.trans (congrArg some hln.symm)) hl ?_)
     refine Run.go rfl rfl rfl (sem_callL [(Value.pointer p13), (Value.agg (List.toArray l201))] (TF.goes_70) rfl rfl (Spec.mono hS fun v h202 hv => ?_))
     obtain ⟨b203, rfl, hS⟩ := hv
     obtain ⟨hT, hF⟩ := hS
     cases b203
     ·have hS := hF rfl; clear hT hF
      refine Run.go rfl rfl rfl (sem_not false rfl ?_)
      refine Run.region_end ?_
      refine Run.condT rfl ?_
      refine Run.seq ?_
      refine Run.ops0 (idx := [0]) rfl ?_
      refine Run.go rfl rfl rfl (sem_assign ((Value.bool false)) rfl ?_)
      refine Run.region_end ?_
      refine Run.ret ⟨.inr rfl, ?_⟩
      exact hS.imp fun h' hq => ⟨(false), rfl, hq⟩
     ·have hS := hT rfl; clear hT hF
      refine Run.go rfl rfl rfl (sem_not true rfl ?_)
      refine Run.region_end ?_
      refine Run.condF rfl ?_
      refine Run.skip ?_
      refine Run.seqJ (fun e h205 => Agree [(2, (Value.int .i64 (i5))), (7, (Value.pointer p13)), (14, (Value.slice a190 n191 c192)), (16, (Value.pointer (some ⟨k198, 0, none⟩)))] e ∧ S_countermandlaw18_RedoApplies_J8 B i5 p13 a190 n191 c192 k198 h205 Q) ?_ fun j204 => ?_
      ·rintro e h205 ⟨hag, hS⟩
       refine Run.env hag ?_; clear hag
       refine Run.seq ?_
       refine Run.ops0 (idx := [0, 1, 2, 3]) rfl ?_
       refine Run.go rfl rfl rfl (sem_move ((Value.pointer p13)) rfl ?_)
       refine Run.go rfl rfl rfl (sem_move ((Value.slice a190 n191 c192)) rfl ?_)
       refine Run.go rfl rfl rfl (sem_move ((Value.int .i64 (i5))) rfl ?_)
       refine Run.go rfl rfl rfl (sem_callL [(Value.pointer p13), (Value.slice a190 n191 c192), (Value.int .i64 (i5))] (TF.goes_68) rfl rfl (Spec.mono hS fun v h206 hv => ?_))
       obtain ⟨rfl, hS⟩ := hv
       refine Run.region_end ?_
       refine Run.seq ?_
       refine Run.ops0 (idx := [0, 1, 2, 3]) rfl ?_
       refine Run.go rfl rfl rfl (sem_move ((Value.pointer p13)) rfl ?_)
       obtain ⟨l207, hln, hl, hS⟩ := hS
       refine Run.go rfl rfl rfl (sem_loadN ⟨k198, 0, none⟩ l207 rfl TF.agg_115 (TF.sz_115.trans (congrArg some hln.symm)) hl ?_)
       refine Run.go rfl rfl rfl (sem_callL [(Value.pointer p13), (Value.agg (List.toArray l207))] (TF.goes_70) rfl rfl (Spec.mono hS fun v h208 hv => ?_))
       obtain ⟨b209, rfl, hS⟩ := hv
       refine Run.go rfl rfl rfl (sem_assign ((Value.bool b209)) rfl ?_)
       refine Run.region_end ?_
       refine Run.ret ⟨.inr rfl, ?_⟩
       exact hS.imp fun h' hq => ⟨(b209), rfl, hq⟩
      refine Run.seq ?_
      refine Run.ops0 (idx := [0, 1, 2]) rfl ?_
      refine Run.go rfl rfl rfl (sem_move ((Value.slice a130 n131 c132)) rfl ?_)
      refine Run.go rfl rfl rfl (sem_lenSl a130 n131 c132 rfl TF.sl_99 ?_)
      refine Run.go rfl rfl rfl (sem_move ((Value.int .i64 (0))) rfl ?_)
      refine Run.region_end ?_
      refine Run.block ?_
      obtain ⟨J215, m213, h0, hS⟩ := hS
      refine Run.of_fin (h0.imp fun h' h0 => ?_)
      refine Run.loop (σ := Int × Nat) (fun x e h => J215 x.1 x.2 h ∧ Agree [(2, (Value.int .i64 (i5))), (7, (Value.pointer p13)), (14, (Value.slice a190 n191 c192)), (16, (Value.pointer (some ⟨k198, 0, none⟩))), (59, (Value.slice a130 n131 c132)), (60, (Value.int .i64 ((n131 : Nat)))), (61, (Value.int .i64 (x.1)))] e) (fun x => x.2) ((0), m213) ⟨h0, ⟨rfl, rfl, rfl, rfl, rfl, rfl, rfl, trivial⟩⟩ ?_; clear h0
      rintro ⟨i210, m212⟩ e h211 ⟨hJ, hag⟩ ih214
      have hS := hS i210 m212 h211 hJ; clear hJ
      refine Run.env hag ?_; clear hag
      refine Run.seq ?_
      refine Run.ops0 (idx := [0]) rfl ?_
      obtain ⟨hT, hF⟩ := hS
      by_cases hb216 : (i210 : Int) < ((n131 : Nat))
      ·have hS := hT hb216; clear hT hF
       refine Run.go rfl rfl rfl (sem_binI .i64 (i210) ((n131 : Nat)) (.bool true) rfl rfl (binI_lss_t hb216) ?_)
       refine Run.region_end ?_
       refine Run.seq ?_
       refine Run.condT rfl ?_
       refine Run.skip ?_
       refine Run.seq ?_
       refine Run.block ?_
       refine Run.seq ?_
       refine Run.ops0 (idx := [0, 1, 2, 3]) rfl ?_
       obtain ⟨A217, e218, hi0, hi1, hS⟩ := hS
       refine Run.go rfl rfl rfl (sem_indexAddrS A217 n131 c132 .i64 (i210) (congrArg (fun a => Value.slice a n131 c132) e218) rfl TF.slc_99 hi0 hi1 ?_)
       obtain ⟨i219, b220, s221, hl, hS⟩ := hS
       refine Run.go rfl rfl rfl (sem_loadN (Addr.add A217 (Int.toNat (i210) * 3)) [(Value.int .i64 (i219)), (Value.bool b220), (Value.string s221)] rfl TF.agg_122 TF.sz_122 hl ?_)
       refine Run.go rfl rfl rfl (sem_allocN [(Value.int .i64 (0)), (Value.bool false), (Value.string ByteArray.empty)] TF.zero_122 (fun k222 hb1 hb2 h223 hb3 => ?_))
       have hS := hS k222 hb1 hb2 h223 hb3
       obtain ⟨h224, hst, hS⟩ := hS
       refine Run.go rfl rfl rfl (sem_storeN ⟨k222, 0, none⟩ [(Value.int .i64 (i219)), (Value.bool b220), (Value.string s221)] h224 rfl rfl TF.sz_122 hst ?_)
       refine Run.region_end ?_
       refine Run.seq ?_
       refine Run.ops0 (idx := [0, 1, 2, 3, 4, 5, 6, 7, 8, 9]) rfl ?_
       refine Run.go rfl rfl rfl (sem_move ((Value.pointer p13)) rfl ?_)
       refine Run.go rfl rfl rfl (sem_fieldAddr ⟨k222, 0, none⟩ 0 rfl TF.fld_122_0 ?_)
       obtain ⟨i225, hl, hS⟩ := hS
       refine Run.go rfl rfl rfl (sem_load1 ⟨k222, 0, none⟩ ((Value.int .i64 (i225))) rfl TF.agg_3 hl ?_)
       refine Run.go rfl rfl rfl (sem_callL [(Value.pointer p13), (Value.int .i64 (i225))] (TF.goes_71) rfl rfl (Spec.mono hS fun v h226 hv => ?_))
       obtain ⟨b227, s228, i229, rfl, hS⟩ := hv
       refine Run.go rfl rfl rfl (sem_move ((Value.tuple #[(Value.agg #[(Value.bool b227), (Value.string s228)]), (Value.int .i64 (i229))])) rfl ?_)
       refine Run.go rfl rfl rfl (sem_extract #[(Value.agg #[(Value.bool b227), (Value.string s228)]), (Value.int .i64 (i229))] ((Value.agg #[(Value.bool b227), (Value.string s228)])) rfl rfl ?_)
       refine Run.go rfl rfl rfl (sem_extract #[(Value.agg #[(Value.bool b227), (Value.string s228)]), (Value.int .i64 (i229))] ((Value.int .i64 (i229))) rfl rfl ?_)
       refine Run.go rfl rfl rfl (sem_allocN [(Value.bool false), (Value.string ByteArray.empty)] TF.zero_111 (fun k230 hb1 hb2 h231 hb3 => ?_))
       have hS := hS k230 hb1 hb2 h231 hb3
       obtain ⟨h232, hst, hS⟩ := hS
       refine Run.go rfl rfl rfl (sem_storeN ⟨k230, 0, none⟩ [(Value.bool b227), (Value.string s228)] h232 rfl rfl TF.sz_111 hst ?_)
       refine Run.go rfl rfl rfl (sem_assign ((Value.int .i64 (i229))) rfl ?_)
       refine Run.region_end ?_
       refine Run.seq ?_
       refine Run.ops0 (idx := [0, 1, 2]) rfl ?_
       refine Run.go rfl rfl rfl (sem_move ((Value.int .i64 (i229))) rfl ?_)
       refine Run.go rfl rfl rfl (sem_move ((Value.int .i64 (i5))) rfl ?_)
       obtain ⟨hT, hF⟩ := hS
       by_cases hb233 : (i229 : Int) = i5
       ·have hS := hT hb233; clear hT hF
        refine Run.go rfl rfl rfl (sem_binI .i64 (i229) (i5) (.bool false) rfl rfl (binI_neq_t hb233) ?_)
        refine Run.region_end ?_
        refine Run.condF rfl ?_
        refine Run.skip ?_
        refine Run.inBlock ?_
        refine Run.ops0 (idx := [0, 1]) rfl ?_
        refine Run.go rfl rfl rfl (sem_binI .i64 (i210) (1) ((Value.int .i64 (IntKind.wrap .i64 ((i210) + (1))))) rfl rfl rfl ?_)
        refine Run.go rfl rfl rfl (sem_move ((Value.int .i64 (IntKind.wrap .i64 ((i210) + (1))))) rfl ?_)
        refine Run.region_end ?_
        exact Run.of_fin (hS.imp fun h' ⟨m', hm, hS⟩ => ih214 ((IntKind.wrap .i64 ((i210) + (1))), m') _ _ ⟨hS, ⟨rfl, rfl, rfl, rfl, rfl, rfl, rfl, trivial⟩⟩ hm)
       ·have hS := hF hb233; clear hT hF
        refine Run.go rfl rfl rfl (sem_binI .i64 (i229) (i5) (.bool true) rfl rfl (binI_neq_f hb233) ?_)
        refine Run.region_end ?_
        refine Run.condT rfl ?_
        refine Run.seq ?_
        refine Run.ops0 (idx := [0]) rfl ?_
        refine Run.go rfl rfl rfl (sem_assign ((Value.bool false)) rfl ?_)
        refine Run.region_end ?_
        refine Run.ret ⟨.inr rfl, ?_⟩
        exact hS.imp fun h' hq => ⟨(false), rfl, hq⟩
      ·have hS := hF hb216; clear hT hF
       refine Run.go rfl rfl rfl (sem_binI .i64 (i210) ((n131 : Nat)) (.bool false) rfl rfl (binI_lss_f hb216) ?_)
       refine Run.region_end ?_
       refine Run.seq ?_
       refine Run.condF rfl ?_
       refine Run.exit rfl ?_
       exact Run.of_fin (hS.imp fun h' hS => j204 _ _ ⟨⟨rfl, rfl, rfl, rfl, trivial⟩, hS⟩)
    refine Run.seq ?_
    refine Run.ops0 (idx := [0, 1, 2, 3, 4, 5]) rfl ?_
    refine Run.go rfl rfl rfl (sem_move ((Value.bool true)) rfl ?_)
    refine Run.go rfl rfl rfl (sem_not true rfl ?_)
    refine Run.go rfl rfl rfl (sem_move ((Value.bool false)) rfl ?_)
    refine Run.go rfl rfl rfl (sem_move ((Value.bool true)) rfl ?_)
    refine Run.go rfl rfl rfl (sem_not true rfl ?_)
    refine Run.go rfl rfl rfl (sem_pick false ((Value.bool false)) rfl rfl ?_)
    refine Run.region_end ?_
    refine Run.condF rfl ?_
    refine Run.skip ?_
    exact Run.of_fin (hS.imp fun h' hS => j184 _ _ ⟨⟨rfl, rfl, rfl, rfl, rfl, trivial⟩, hS⟩)
set_option maxHeartbeats 4000000 in
theorem C_countermandlaw18_RedoReplays.of {B : RO} {l1 : List Value} {a2 : Option Addr} {n3 : Nat} {c4 : Nat} {h : Heap} {Q : Bool → Heap → Prop} (hS : S_countermandlaw18_RedoReplays B l1 a2 n3 c4 h Q) : C_countermandlaw18_RedoReplays B l1 a2 n3 c4 h Q := by
 unfold S_countermandlaw18_RedoReplays at hS
 unfold C_countermandlaw18_RedoReplays
 refine Spec.of_run Try.func12 (N := 84) (rs := [ResultVar.tmp 4]) rfl rfl rfl (Nat.le_of_ble_eq_true rfl) ?_
 refine Run.seq ?_
 refine Run.ops0 (idx := [0, 1]) rfl ?_
 refine Run.go rfl rfl rfl (sem_boxNN l1 rfl (fun k6 hb1 hb2 h7 hb3 => ?_))
 have hS := hS k6 hb1 hb2 h7 hb3
 refine Run.go rfl rfl rfl (sem_assign ((Value.bool false)) rfl ?_)
 refine Run.region_end ?_
 refine Run.seq ?_
 refine Run.seq ?_
 refine Run.ops0 (idx := [0, 1]) rfl ?_
 refine Run.go rfl rfl rfl (sem_callL [] (TF.goes_60) rfl rfl (Spec.mono hS fun v h8 hv => ?_))
 obtain ⟨b9, rfl, hS⟩ := hv
 obtain ⟨hT, hF⟩ := hS
 cases b9
 ·have hS := hF rfl; clear hT hF
  refine Run.go rfl rfl rfl (sem_not false rfl ?_)
  refine Run.region_end ?_
  refine Run.condT rfl ?_
  refine Run.seq ?_
  refine Run.ops0 (idx := [0]) rfl ?_
  refine Run.go rfl rfl rfl (sem_assign ((Value.bool false)) rfl ?_)
  refine Run.region_end ?_
  refine Run.ret ⟨.inr rfl, ?_⟩
  exact hS.imp fun h' hq => ⟨(false), rfl, hq⟩
 ·have hS := hT rfl; clear hT hF
  refine Run.go rfl rfl rfl (sem_not true rfl ?_)
  refine Run.region_end ?_
  refine Run.condF rfl ?_
  refine Run.skip ?_
  refine Run.seq ?_
  refine Run.ops0 (idx := [0, 1, 2, 3, 4, 5, 6, 7, 8, 9]) rfl ?_
  obtain ⟨l10, hln, hl, hS⟩ := hS
  refine Run.go rfl rfl rfl (sem_loadN ⟨k6, 0, none⟩ l10 rfl TF.agg_112 (TF.sz_112.trans (congrArg some hln.symm)) hl ?_)
  refine Run.go rfl rfl rfl (sem_callL [(Value.agg (List.toArray l10))] (TF.goes_67) rfl rfl (Spec.mono hS fun v h11 hv => ?_))
  obtain ⟨p12, l13, b14, rfl, hS⟩ := hv
  refine Run.go rfl rfl rfl (sem_move ((Value.tuple #[(Value.pointer p12), (Value.agg (List.toArray l13)), (Value.bool b14)])) rfl ?_)
  refine Run.go rfl rfl rfl (sem_extract #[(Value.pointer p12), (Value.agg (List.toArray l13)), (Value.bool b14)] ((Value.pointer p12)) rfl rfl ?_)
  refine Run.go rfl rfl rfl (sem_extract #[(Value.pointer p12), (Value.agg (List.toArray l13)), (Value.bool b14)] ((Value.agg (List.toArray l13))) rfl rfl ?_)
  obtain ⟨hT, hF⟩ := hS
  cases b14
  ·have hS := hF rfl; clear hT hF
   refine Run.go rfl rfl rfl (sem_extract #[(Value.pointer p12), (Value.agg (List.toArray l13)), (Value.bool false)] (.bool false) rfl rfl ?_)
   refine Run.go rfl rfl rfl (sem_allocN [(Value.bool false), (Value.string ByteArray.empty), (Value.bool false), (Value.string ByteArray.empty), (Value.bool false), (Value.string ByteArray.empty), (Value.bool false), (Value.string ByteArray.empty), (Value.bool false), (Value.string ByteArray.empty), (Value.bool false), (Value.string ByteArray.empty)] TF.zero_115 (fun k15 hb1 hb2 h16 hb3 => ?_))
   have hS := hS k15 hb1 hb2 h16 hb3
   refine Run.go rfl rfl rfl (sem_assign ((Value.pointer p12)) rfl ?_)
   obtain ⟨hln, h17, hst, hS⟩ := hS
   refine Run.go rfl rfl rfl (sem_storeN ⟨k15, 0, none⟩ l13 h17 rfl rfl (TF.sz_115.trans (congrArg some hln.symm)) hst ?_)
   refine Run.go rfl rfl rfl (sem_assign ((Value.bool false)) rfl ?_)
   refine Run.region_end ?_
   refine Run.seqJ (fun e h19 => Agree [(1, (Value.slice a2 n3 c4)), (5, (Value.pointer p12)), (6, (Value.pointer (some ⟨k15, 0, none⟩)))] e ∧ S_countermandlaw18_RedoReplays_J1 B a2 n3 c4 p12 k15 h19 Q) ?_ fun j18 => ?_
   ·rintro e h19 ⟨hag, hS⟩
    refine Run.env hag ?_; clear hag
    refine Run.seq ?_
    refine Run.ops0 (idx := [0, 1]) rfl ?_
    refine Run.go rfl rfl rfl (sem_assign ((Value.int .i64 (0))) rfl ?_)
    refine Run.go rfl rfl rfl (sem_assign ((Value.int .i64 (0))) rfl ?_)
    refine Run.region_end ?_
    refine Run.seqJ (fun e h23 => ∃ i21 : Int, ∃ i22 : Int, Agree [(1, (Value.slice a2 n3 c4)), (5, (Value.pointer p12)), (6, (Value.pointer (some ⟨k15, 0, none⟩))), (8, (Value.int .i64 (i21))), (9, (Value.int .i64 (i22)))] e ∧ S_countermandlaw18_RedoReplays_J2 B a2 n3 c4 p12 k15 i21 i22 h23 Q) ?_ fun j20 => ?_
    ·rintro e h23 ⟨i21, i22, hag, hS⟩
     refine Run.env hag ?_; clear hag
     refine Run.seq ?_
     refine Run.ops0 (idx := [0, 1, 2, 3, 4, 5, 6, 7]) rfl ?_
     refine Run.go rfl rfl rfl (sem_move ((Value.pointer p12)) rfl ?_)
     refine Run.go rfl rfl rfl (sem_move ((Value.slice a2 n3 c4)) rfl ?_)
     refine Run.go rfl rfl rfl (sem_callL [(Value.pointer p12), (Value.slice a2 n3 c4)] (TF.goes_72) rfl rfl (Spec.mono hS fun v h24 hv => ?_))
     obtain ⟨i25, i26, rfl, hS⟩ := hv
     refine Run.go rfl rfl rfl (sem_move ((Value.tuple #[(Value.int .i64 (i25)), (Value.int .i64 (i26))])) rfl ?_)
     refine Run.go rfl rfl rfl (sem_extract #[(Value.int .i64 (i25)), (Value.int .i64 (i26))] ((Value.int .i64 (i25))) rfl rfl ?_)
     refine Run.go rfl rfl rfl (sem_extract #[(Value.int .i64 (i25)), (Value.int .i64 (i26))] ((Value.int .i64 (i26))) rfl rfl ?_)
     refine Run.go rfl rfl rfl (sem_assign ((Value.int .i64 (i25))) rfl ?_)
     refine Run.go rfl rfl rfl (sem_assign ((Value.int .i64 (i26))) rfl ?_)
     refine Run.region_end ?_
     refine Run.seqJ (fun e h28 => Agree [(1, (Value.slice a2 n3 c4)), (5, (Value.pointer p12)), (6, (Value.pointer (some ⟨k15, 0, none⟩)))] e ∧ S_countermandlaw18_RedoReplays_J3 B a2 n3 c4 p12 k15 h28 Q) ?_ fun j27 => ?_
     ·rintro e h28 ⟨hag, hS⟩
      refine Run.env hag ?_; clear hag
      refine Run.seq ?_
      refine Run.ops0 (idx := [0, 1, 2]) rfl ?_
      refine Run.go rfl rfl rfl (sem_move ((Value.pointer p12)) rfl ?_)
      refine Run.go rfl rfl rfl (sem_move ((Value.slice a2 n3 c4)) rfl ?_)
      refine Run.go rfl rfl rfl (sem_callL [(Value.pointer p12), (Value.slice a2 n3 c4)] (TF.goes_72) rfl rfl (Spec.mono hS fun v h29 hv => ?_))
      obtain ⟨i30, i31, rfl, hS⟩ := hv
      refine Run.region_end ?_
      refine Run.seq ?_
      refine Run.ops0 (idx := [0, 1, 2, 3]) rfl ?_
      refine Run.go rfl rfl rfl (sem_move ((Value.pointer p12)) rfl ?_)
      obtain ⟨l32, hln, hl, hS⟩ := hS
      refine Run.go rfl rfl rfl (sem_loadN ⟨k15, 0, none⟩ l32 rfl TF.agg_115 (TF.sz_115.trans (congrArg some hln.symm)) hl ?_)
      refine Run.go rfl rfl rfl (sem_callL [(Value.pointer p12), (Value.agg (List.toArray l32))] (TF.goes_70) rfl rfl (Spec.mono hS fun v h33 hv => ?_))
      obtain ⟨b34, rfl, hS⟩ := hv
      refine Run.go rfl rfl rfl (sem_assign ((Value.bool b34)) rfl ?_)
      refine Run.region_end ?_
      refine Run.ret ⟨.inr rfl, ?_⟩
      exact hS.imp fun h' hq => ⟨(b34), rfl, hq⟩
     refine Run.seq ?_
     refine Run.ops0 (idx := [0, 1, 2, 3, 4, 5, 6, 7, 8, 9, 10, 11, 12, 13]) rfl ?_
     refine Run.go rfl rfl rfl (sem_move ((Value.int .i64 (i25))) rfl ?_)
     refine Run.go rfl rfl rfl (sem_move ((Value.int .i64 (i21))) rfl ?_)
     obtain ⟨hT, hF⟩ := hS
     by_cases hb35 : (i25 : Int) = i21
     ·have hS := hT hb35; clear hT hF
      refine Run.go rfl rfl rfl (sem_binI .i64 (i25) (i21) (.bool false) rfl rfl (binI_neq_t hb35) ?_)
      refine Run.go rfl rfl rfl (sem_move ((Value.bool false)) rfl ?_)
      refine Run.go rfl rfl rfl (sem_move ((Value.int .i64 (i26))) rfl ?_)
      refine Run.go rfl rfl rfl (sem_move ((Value.int .i64 (i22))) rfl ?_)
      obtain ⟨hT, hF⟩ := hS
      by_cases hb36 : (i26 : Int) = i22
      ·have hS := hT hb36; clear hT hF
       refine Run.go rfl rfl rfl (sem_binI .i64 (i26) (i22) (.bool false) rfl rfl (binI_neq_t hb36) ?_)
       refine Run.go rfl rfl rfl (sem_pick false ((Value.bool false)) rfl rfl ?_)
       refine Run.go rfl rfl rfl (sem_move ((Value.bool false)) rfl ?_)
       refine Run.go rfl rfl rfl (sem_move ((Value.pointer p12)) rfl ?_)
       obtain ⟨l37, hln, hl, hS⟩ := hS
       refine Run.go rfl rfl rfl (sem_loadN ⟨k15, 0, none⟩ l37 rfl TF.agg_115 (TF.sz_115.trans (congrArg some hln.symm)) hl ?_)
       refine Run.go rfl rfl rfl (sem_callL [(Value.pointer p12), (Value.agg (List.toArray l37))] (TF.goes_70) rfl rfl (Spec.mono hS fun v h38 hv => ?_))
       obtain ⟨b39, rfl, hS⟩ := hv
       obtain ⟨hT, hF⟩ := hS
       cases b39
       ·have hS := hF rfl; clear hT hF
        refine Run.go rfl rfl rfl (sem_not false rfl ?_)
        refine Run.go rfl rfl rfl (sem_pick false ((Value.bool true)) rfl rfl ?_)
        refine Run.region_end ?_
        refine Run.condT rfl ?_
        refine Run.seq ?_
        refine Run.ops0 (idx := [0]) rfl ?_
        refine Run.go rfl rfl rfl (sem_assign ((Value.bool false)) rfl ?_)
        refine Run.region_end ?_
        refine Run.ret ⟨.inr rfl, ?_⟩
        exact hS.imp fun h' hq => ⟨(false), rfl, hq⟩
       ·have hS := hT rfl; clear hT hF
        refine Run.go rfl rfl rfl (sem_not true rfl ?_)
        refine Run.go rfl rfl rfl (sem_pick false ((Value.bool false)) rfl rfl ?_)
        refine Run.region_end ?_
        refine Run.condF rfl ?_
        refine Run.skip ?_
        exact Run.of_fin (hS.imp fun h' hS => j27 _ _ ⟨⟨rfl, rfl, rfl, trivial⟩, hS⟩)
      ·have hS := hF hb36; clear hT hF
       refine Run.go rfl rfl rfl (sem_binI .i64 (i26) (i22) (.bool true) rfl rfl (binI_neq_f hb36) ?_)
       refine Run.go rfl rfl rfl (sem_pick false ((Value.bool true)) rfl rfl ?_)
       refine Run.go rfl rfl rfl (sem_move ((Value.bool true)) rfl ?_)
       refine Run.no rfl rfl rfl ?_
       refine Run.no rfl rfl rfl ?_
       refine Run.no rfl rfl rfl ?_
       refine Run.no rfl rfl rfl ?_
       refine Run.go rfl rfl rfl (sem_pick true ((Value.bool true)) rfl rfl ?_)
       refine Run.region_end ?_
       refine Run.condT rfl ?_
       refine Run.seq ?_
       refine Run.ops0 (idx := [0]) rfl ?_
       refine Run.go rfl rfl rfl (sem_assign ((Value.bool false)) rfl ?_)
       refine Run.region_end ?_
       refine Run.ret ⟨.inr rfl, ?_⟩
       exact hS.imp fun h' hq => ⟨(false), rfl, hq⟩
     ·have hS := hF hb35; clear hT hF
      refine Run.go rfl rfl rfl (sem_binI .i64 (i25) (i21) (.bool true) rfl rfl (binI_neq_f hb35) ?_)
      refine Run.go rfl rfl rfl (sem_move ((Value.bool true)) rfl ?_)
      refine Run.no rfl rfl rfl ?_
      refine Run.no rfl rfl rfl ?_
      refine Run.no rfl rfl rfl ?_
      refine Run.go rfl rfl rfl (sem_pick true ((Value.bool true)) rfl rfl ?_)
      refine Run.go rfl rfl rfl (sem_move ((Value.bool true)) rfl ?_)
      refine Run.no rfl rfl rfl ?_
      refine Run.no rfl rfl rfl ?_
      refine Run.no rfl rfl rfl ?_
      refine Run.no rfl rfl rfl ?_
      refine Run.go rfl rfl rfl (sem_pick true ((Value.bool true)) rfl rfl ?_)
      refine Run.region_end ?_
      refine Run.condT rfl ?_
      refine Run.seq ?_
      refine Run.ops0 (idx := [0]) rfl ?_
      refine Run.go rfl rfl rfl (sem_assign ((Value.bool false)) rfl ?_)
      refine Run.region_end ?_
      refine Run.ret ⟨.inr rfl, ?_⟩
      exact hS.imp fun h' hq => ⟨(false), rfl, hq⟩
    refine Run.seq ?_
    refine Run.ops0 (idx := [0, 1, 2]) rfl ?_
    refine Run.go rfl rfl rfl (sem_move ((Value.slice a2 n3 c4)) rfl ?_)
    refine Run.go rfl rfl rfl (sem_lenSl a2 n3 c4 rfl TF.sl_55 ?_)
    refine Run.go rfl rfl rfl (sem_move ((Value.int .i64 (0))) rfl ?_)
    refine Run.region_end ?_
    refine Run.block ?_
    obtain ⟨J47, m45, h0, hS⟩ := hS
    refine Run.of_fin (h0.imp fun h' h0 => ?_)
    refine Run.loop (σ := Int × Int × Int × Nat) (fun x e h => J47 x.1 x.2.1 x.2.2.1 x.2.2.2 h ∧ Agree [(1, (Value.slice a2 n3 c4)), (5, (Value.pointer p12)), (6, (Value.pointer (some ⟨k15, 0, none⟩))), (8, (Value.int .i64 (x.1))), (9, (Value.int .i64 (x.2.1))), (32, (Value.slice a2 n3 c4)), (33, (Value.int .i64 ((n3 : Nat)))), (34, (Value.int .i64 (x.2.2.1)))] e) (fun x => x.2.2.2) ((0), (0), (0), m45) ⟨h0, ⟨rfl, rfl, rfl, rfl, rfl, rfl, rfl, rfl, trivial⟩⟩ ?_; clear h0
    rintro ⟨i40, i41, i42, m44⟩ e h43 ⟨hJ, hag⟩ ih46
    have hS := hS i40 i41 i42 m44 h43 hJ; clear hJ
    refine Run.env hag ?_; clear hag
    refine Run.seq ?_
    refine Run.ops0 (idx := [0]) rfl ?_
    obtain ⟨hT, hF⟩ := hS
    by_cases hb48 : (i42 : Int) < ((n3 : Nat))
    ·have hS := hT hb48; clear hT hF
     refine Run.go rfl rfl rfl (sem_binI .i64 (i42) ((n3 : Nat)) (.bool true) rfl rfl (binI_lss_t hb48) ?_)
     refine Run.region_end ?_
     refine Run.seq ?_
     refine Run.condT rfl ?_
     refine Run.skip ?_
     refine Run.seq ?_
     refine Run.block ?_
     refine Run.seq ?_
     refine Run.ops0 (idx := [0, 1, 2]) rfl ?_
     obtain ⟨A49, e50, hi0, hi1, hS⟩ := hS
     refine Run.go rfl rfl rfl (sem_indexAddrS A49 n3 c4 .i64 (i42) (congrArg (fun a => Value.slice a n3 c4) e50) rfl TF.slc_55 hi0 hi1 ?_)
     obtain ⟨s51, hl, hS⟩ := hS
     refine Run.go rfl rfl rfl (sem_load1 (Addr.add A49 (Int.toNat (i42) * 1)) ((Value.string s51)) rfl TF.agg_9 hl ?_)
     refine Run.go rfl rfl rfl (sem_assign ((Value.string s51)) rfl ?_)
     refine Run.region_end ?_
     refine Run.seq ?_
     refine Run.seq ?_
     refine Run.ops0 (idx := [0, 1, 2]) rfl ?_
     refine Run.go rfl rfl rfl (sem_move ((Value.string s51)) rfl ?_)
     refine Run.go rfl rfl rfl (sem_lenStr s51 rfl TF.isStr_9 ?_)
     obtain ⟨hT, hF⟩ := hS
     by_cases hb52 : ((ByteArray.size s51 : Nat) : Int) > (300)
     ·have hS := hT hb52; clear hT hF
      refine Run.go rfl rfl rfl (sem_binI .i64 ((ByteArray.size s51 : Nat)) (300) (.bool true) rfl rfl (binI_gtr_t hb52) ?_)
      refine Run.region_end ?_
      refine Run.condT rfl ?_
      refine Run.seq ?_
      refine Run.ops0 (idx := [0]) rfl ?_
      refine Run.go rfl rfl rfl (sem_assign ((Value.bool true)) rfl ?_)
      refine Run.region_end ?_
      refine Run.ret ⟨.inr rfl, ?_⟩
      exact hS.imp fun h' hq => ⟨(true), rfl, hq⟩
     ·have hS := hF hb52; clear hT hF
      refine Run.go rfl rfl rfl (sem_binI .i64 ((ByteArray.size s51 : Nat)) (300) (.bool false) rfl rfl (binI_gtr_f hb52) ?_)
      refine Run.region_end ?_
      refine Run.condF rfl ?_
      refine Run.skip ?_
      refine Run.seq ?_
      refine Run.ops0 (idx := [0, 1, 2, 3, 4, 5, 6, 7, 8]) rfl ?_
      refine Run.go rfl rfl rfl (sem_move ((Value.string s51)) rfl ?_)
      refine Run.go rfl rfl rfl (sem_callL [(Value.string s51)] (TF.goes_62) rfl rfl (Spec.mono hS fun v h53 hv => ?_))
      obtain ⟨i54, a55, n56, c57, b58, rfl, hS⟩ := hv
      refine Run.go rfl rfl rfl (sem_move ((Value.tuple #[(Value.int .i64 (i54)), (Value.slice a55 n56 c57), (Value.bool b58)])) rfl ?_)
      refine Run.go rfl rfl rfl (sem_extract #[(Value.int .i64 (i54)), (Value.slice a55 n56 c57), (Value.bool b58)] ((Value.int .i64 (i54))) rfl rfl ?_)
      refine Run.go rfl rfl rfl (sem_extract #[(Value.int .i64 (i54)), (Value.slice a55 n56 c57), (Value.bool b58)] ((Value.slice a55 n56 c57)) rfl rfl ?_)
      obtain ⟨hT, hF⟩ := hS
      cases b58
      ·have hS := hF rfl; clear hT hF
       refine Run.go rfl rfl rfl (sem_extract #[(Value.int .i64 (i54)), (Value.slice a55 n56 c57), (Value.bool false)] (.bool false) rfl rfl ?_)
       refine Run.go rfl rfl rfl (sem_assign ((Value.int .i64 (i54))) rfl ?_)
       refine Run.go rfl rfl rfl (sem_assign ((Value.slice a55 n56 c57)) rfl ?_)
       refine Run.go rfl rfl rfl (sem_assign ((Value.bool false)) rfl ?_)
       refine Run.region_end ?_
       refine Run.seq ?_
       refine Run.seq ?_
       refine Run.ops0 (idx := [0, 1]) rfl ?_
       refine Run.go rfl rfl rfl (sem_move ((Value.bool false)) rfl ?_)
       refine Run.go rfl rfl rfl (sem_not false rfl ?_)
       refine Run.region_end ?_
       refine Run.condT rfl ?_
       refine Run.exit rfl ?_
       exact Run.of_fin (hS.imp fun h' hS => j20 _ _ ⟨(i40), (i41), ⟨rfl, rfl, rfl, rfl, rfl, trivial⟩, hS⟩)
      ·have hS := hT rfl; clear hT hF
       refine Run.go rfl rfl rfl (sem_extract #[(Value.int .i64 (i54)), (Value.slice a55 n56 c57), (Value.bool true)] (.bool true) rfl rfl ?_)
       refine Run.go rfl rfl rfl (sem_assign ((Value.int .i64 (i54))) rfl ?_)
       refine Run.go rfl rfl rfl (sem_assign ((Value.slice a55 n56 c57)) rfl ?_)
       refine Run.go rfl rfl rfl (sem_assign ((Value.bool true)) rfl ?_)
       refine Run.region_end ?_
       refine Run.seq ?_
       refine Run.seq ?_
       refine Run.ops0 (idx := [0, 1]) rfl ?_
       refine Run.go rfl rfl rfl (sem_move ((Value.bool true)) rfl ?_)
       refine Run.go rfl rfl rfl (sem_not true rfl ?_)
       refine Run.region_end ?_
       refine Run.condF rfl ?_
       refine Run.skip ?_
       refine Run.seq ?_
       refine Run.ops0 (idx := [0, 1, 2, 3]) rfl ?_
       obtain ⟨l59, hln, hl, hS⟩ := hS
       refine Run.go rfl rfl rfl (sem_loadN ⟨k15, 0, none⟩ l59 rfl TF.agg_115 (TF.sz_115.trans (congrArg some hln.symm)) hl ?_)
       refine Run.go rfl rfl rfl (sem_move ((Value.slice a55 n56 c57)) rfl ?_)
       refine Run.go rfl rfl rfl (sem_callL [(Value.agg (List.toArray l59)), (Value.slice a55 n56 c57)] (TF.goes_69) rfl rfl (Spec.mono hS fun v h60 hv => ?_))
       obtain ⟨l61, rfl, hS⟩ := hv
       obtain ⟨hln, h62, hst, hS⟩ := hS
       refine Run.go rfl rfl rfl (sem_storeN ⟨k15, 0, none⟩ l61 h62 rfl rfl (TF.sz_115.trans (congrArg some hln.symm)) hst ?_)
       refine Run.region_end ?_
       refine Run.seq ?_
       refine Run.ops0 (idx := [0, 1, 2, 3]) rfl ?_
       refine Run.go rfl rfl rfl (sem_move ((Value.int .i64 (i40))) rfl ?_)
       refine Run.go rfl rfl rfl (sem_move ((Value.int .i64 (i54))) rfl ?_)
       refine Run.go rfl rfl rfl (sem_max .i64 (i40) (i54) rfl rfl ?_)
       refine Run.go rfl rfl rfl (sem_assign ((Value.int .i64 (if (i54 : Int) > (i40) then (i54 : Int) else (i40)))) rfl ?_)
       refine Run.region_end ?_
       refine Run.ops0 (idx := [0, 1, 2]) rfl ?_
       refine Run.go rfl rfl rfl (sem_move ((Value.int .i64 (i41))) rfl ?_)
       refine Run.go rfl rfl rfl (sem_binI .i64 (i41) (1) ((Value.int .i64 (IntKind.wrap .i64 ((i41) + (1))))) rfl rfl rfl ?_)
       refine Run.go rfl rfl rfl (sem_assign ((Value.int .i64 (IntKind.wrap .i64 ((i41) + (1))))) rfl ?_)
       refine Run.region_end ?_
       refine Run.inBlock ?_
       refine Run.ops0 (idx := [0, 1]) rfl ?_
       refine Run.go rfl rfl rfl (sem_binI .i64 (i42) (1) ((Value.int .i64 (IntKind.wrap .i64 ((i42) + (1))))) rfl rfl rfl ?_)
       refine Run.go rfl rfl rfl (sem_move ((Value.int .i64 (IntKind.wrap .i64 ((i42) + (1))))) rfl ?_)
       refine Run.region_end ?_
       exact Run.of_fin (hS.imp fun h' ⟨m', hm, hS⟩ => ih46 ((if (i54 : Int) > (i40) then (i54 : Int) else (i40)), (IntKind.wrap .i64 ((i41) + (1))), (IntKind.wrap .i64 ((i42) + (1))), m') _ _ ⟨hS, ⟨rfl, rfl, rfl, rfl, rfl, rfl, rfl, rfl, trivial⟩⟩ hm)
    ·have hS := hF hb48; clear hT hF
     refine Run.go rfl rfl rfl (sem_binI .i64 (i42) ((n3 : Nat)) (.bool false) rfl rfl (binI_lss_f hb48) ?_)
     refine Run.region_end ?_
     refine Run.seq ?_
     refine Run.condF rfl ?_
     refine Run.exit rfl ?_
     exact Run.of_fin (hS.imp fun h' hS => j20 _ _ ⟨(i40), (i41), ⟨rfl, rfl, rfl, rfl, rfl, trivial⟩, hS⟩)
   refine Run.seq ?_
   refine Run.ops0 (idx := [0, 1, 2, 3, 4, 5, 6]) rfl ?_
   refine Run.go rfl rfl rfl (sem_move ((Value.bool false)) rfl ?_)
   refine Run.go rfl rfl rfl (sem_not false rfl ?_)
   refine Run.go rfl rfl rfl (sem_move ((Value.bool true)) rfl ?_)
   refine Run.no rfl rfl rfl ?_
   refine Run.no rfl rfl rfl ?_
   refine Run.no rfl rfl rfl ?_
   refine Run.go rfl rfl rfl (sem_pick true ((Value.bool true)) rfl rfl ?_)
   refine Run.region_end ?_
   refine Run.condT rfl ?_
   refine Run.seq ?_
   refine Run.ops0 (idx := [0]) rfl ?_
   refine Run.go rfl rfl rfl (sem_assign ((Value.bool true)) rfl ?_)
   refine Run.region_end ?_
   refine Run.ret ⟨.inr rfl, ?_⟩
   exact hS.imp fun h' hq => ⟨(true), rfl, hq⟩
  ·have hS := hT rfl; clear hT hF
   refine Run.go rfl rfl rfl (sem_extract #[(Value.pointer p12), (Value.agg (List.toArray l13)), (Value.bool true)] (.bool true) rfl rfl ?_)
   refine Run.go rfl rfl rfl (sem_allocN [(Value.bool false), (Value.string ByteArray.empty), (Value.bool false), (Value.string ByteArray.empty), (Value.bool false), (Value.string ByteArray.empty), (Value.bool false), (Value.string ByteArray.empty), (Value.bool false), (Value.string ByteArray.empty), (Value.bool false), (Value.string ByteArray.empty)] TF.zero_115 (fun k63 hb1 hb2 h64 hb3 => ?_))
   have hS := hS k63 hb1 hb2 h64 hb3
   refine Run.go rfl rfl rfl (sem_assign ((Value.pointer p12)) rfl ?_)
   obtain ⟨hln, h65, hst, hS⟩ := hS
   refine Run.go rfl rfl rfl (sem_storeN ⟨k63, 0, none⟩ l13 h65 rfl rfl (TF.sz_115.trans (congrArg some hln.symm)) hst ?_)
   refine Run.go rfl rfl rfl (sem_assign ((Value.bool true)) rfl ?_)
   refine Run.region_end ?_
   refine Run.seqJ (fun e h67 => Agree [(1, (Value.slice a2 n3 c4)), (5, (Value.pointer p12)), (6, (Value.pointer (some ⟨k63, 0, none⟩)))] e ∧ S_countermandlaw18_RedoReplays_J4 B a2 n3 c4 p12 k63 h67 Q) ?_ fun j66 => ?_
   ·rintro e h67 ⟨hag, hS⟩
    refine Run.env hag ?_; clear hag
    refine Run.seq ?_
    refine Run.ops0 (idx := [0, 1]) rfl ?_
    refine Run.go rfl rfl rfl (sem_assign ((Value.int .i64 (0))) rfl ?_)
    refine Run.go rfl rfl rfl (sem_assign ((Value.int .i64 (0))) rfl ?_)
    refine Run.region_end ?_
    refine Run.seqJ (fun e h71 => ∃ i69 : Int, ∃ i70 : Int, Agree [(1, (Value.slice a2 n3 c4)), (5, (Value.pointer p12)), (6, (Value.pointer (some ⟨k63, 0, none⟩))), (8, (Value.int .i64 (i69))), (9, (Value.int .i64 (i70)))] e ∧ S_countermandlaw18_RedoReplays_J5 B a2 n3 c4 p12 k63 i69 i70 h71 Q) ?_ fun j68 => ?_
    ·rintro e h71 ⟨i69, i70, hag, hS⟩
     refine Run.env hag ?_; clear hag
     refine Run.seq ?_
     refine Run.ops0 (idx := [0, 1, 2, 3, 4, 5, 6, 7]) rfl ?_
     refine Run.go rfl rfl rfl (sem_move ((Value.pointer p12)) rfl ?_)
     refine Run.go rfl rfl rfl (sem_move ((Value.slice a2 n3 c4)) rfl ?_)
     refine Run.go rfl rfl rfl (sem_callL [(Value.pointer p12), (Value.slice a2 n3 c4)] (TF.goes_72) rfl rfl (Spec.mono hS fun v h72 hv => ?_))
     obtain ⟨i73, i74, rfl, hS⟩ := hv
     refine Run.go rfl rfl rfl (sem_move ((Value.tuple #[(Value.int .i64 (i73)), (Value.int .i64 (i74))])) rfl ?_)
     refine Run.go rfl rfl rfl (sem_extract #[(Value.int .i64 (i73)), (Value.int .i64 (i74))] ((Value.int .i64 (i73))) rfl rfl ?_)
     refine Run.go rfl rfl rfl (sem_extract #[(Value.int .i64 (i73)), (Value.int .i64 (i74))] ((Value.int .i64 (i74))) rfl rfl ?_)
     refine Run.go rfl rfl rfl (sem_assign ((Value.int .i64 (i73))) rfl ?_)
     refine Run.go rfl rfl rfl (sem_assign ((Value.int .i64 (i74))) rfl ?_)
     refine Run.region_end ?_
     refine Run.seqJ (fun e h76 => Agree [(1, (Value.slice a2 n3 c4)), (5, (Value.pointer p12)), (6, (Value.pointer (some ⟨k63, 0, none⟩)))] e ∧ S_countermandlaw18_RedoReplays_J6 B a2 n3 c4 p12 k63 h76 Q) ?_ fun j75 => ?_
     ·rintro e h76 ⟨hag, hS⟩
      refine Run.env hag ?_; clear hag
      refine Run.seq ?_
      refine Run.ops0 (idx := [0, 1, 2]) rfl ?_
      refine Run.go rfl rfl rfl (sem_move ((Value.pointer p12)) rfl ?_)
      refine Run.go rfl rfl rfl (sem_move ((Value.slice a2 n3 c4)) rfl ?_)
      refine Run.go rfl rfl rfl (sem_callL [(Value.pointer p12), (Value.slice a2 n3 c4)] (TF.goes_72) rfl rfl (Spec.mono hS fun v h77 hv => ?_))
      obtain ⟨i78, i79, rfl, hS⟩ := hv
      refine Run.region_end ?_
      refine Run.seq ?_
      refine Run.ops0 (idx := [0, 1, 2, 3]) rfl ?_
      refine Run.go rfl rfl rfl (sem_move ((Value.pointer p12)) rfl ?_)
      obtain ⟨l80, hln, hl, hS⟩ := hS
      refine Run.go rfl rfl rfl (sem_loadN ⟨k63, 0, none⟩ l80 rfl TF.agg_115 (TF.sz_115.trans (congrArg some hln.symm)) hl ?_)
      refine Run.go rfl rfl rfl (sem_callL [(Value.pointer p12), (Value.agg (List.toArray l80))] (TF.goes_70) rfl rfl (Spec.mono hS fun v h81 hv => ?_))
      obtain ⟨b82, rfl, hS⟩ := hv
      refine Run.go rfl rfl rfl (sem_assign ((Value.bool b82)) rfl ?_)
      refine Run.region_end ?_
      refine Run.ret ⟨.inr rfl, ?_⟩
      exact hS.imp fun h' hq => ⟨(b82), rfl, hq⟩
     refine Run.seq ?_
     refine Run.ops0 (idx := [0, 1, 2, 3, 4, 5, 6, 7, 8, 9, 10, 11, 12, 13]) rfl ?_
     refine Run.go rfl rfl rfl (sem_move ((Value.int .i64 (i73))) rfl ?_)
     refine Run.go rfl rfl rfl (sem_move ((Value.int .i64 (i69))) rfl ?_)
     obtain ⟨hT, hF⟩ := hS
     by_cases hb83 : (i73 : Int) = i69
     ·have hS := hT hb83; clear hT hF
      refine Run.go rfl rfl rfl (sem_binI .i64 (i73) (i69) (.bool false) rfl rfl (binI_neq_t hb83) ?_)
      refine Run.go rfl rfl rfl (sem_move ((Value.bool false)) rfl ?_)
      refine Run.go rfl rfl rfl (sem_move ((Value.int .i64 (i74))) rfl ?_)
      refine Run.go rfl rfl rfl (sem_move ((Value.int .i64 (i70))) rfl ?_)
      obtain ⟨hT, hF⟩ := hS
      by_cases hb84 : (i74 : Int) = i70
      ·have hS := hT hb84; clear hT hF
       refine Run.go rfl rfl rfl (sem_binI .i64 (i74) (i70) (.bool false) rfl rfl (binI_neq_t hb84) ?_)
       refine Run.go rfl rfl rfl (sem_pick false ((Value.bool false)) rfl rfl ?_)
       refine Run.go rfl rfl rfl (sem_move ((Value.bool false)) rfl ?_)
       refine Run.go rfl rfl rfl (sem_move ((Value.pointer p12)) rfl ?_)
       obtain ⟨l85, hln, hl, hS⟩ := hS
       refine Run.go rfl rfl rfl (sem_loadN ⟨k63, 0, none⟩ l85 rfl TF.agg_115 (TF.sz_115.trans (congrArg some hln.symm)) hl ?_)
       refine Run.go rfl rfl rfl (sem_callL [(Value.pointer p12), (Value.agg (List.toArray l85))] (TF.goes_70) rfl rfl (Spec.mono hS fun v h86 hv => ?_))
       obtain ⟨b87, rfl, hS⟩ := hv
       obtain ⟨hT, hF⟩ := hS
       cases b87
       ·have hS := hF rfl; clear hT hF
        refine Run.go rfl rfl rfl (sem_not false rfl ?_)
        refine Run.go rfl rfl rfl (sem_pick false ((Value.bool true)) rfl rfl ?_)
        refine Run.region_end ?_
        refine Run.condT rfl ?_
        refine Run.seq ?_
        refine Run.ops0 (idx := [0]) rfl ?_
        refine Run.go rfl rfl rfl (sem_assign ((Value.bool false)) rfl ?_)
        refine Run.region_end ?_
        refine Run.ret ⟨.inr rfl, ?_⟩
        exact hS.imp fun h' hq => ⟨(false), rfl, hq⟩
       ·have hS := hT rfl; clear hT hF
        refine Run.go rfl rfl rfl (sem_not true rfl ?_)
        refine Run.go rfl rfl rfl (sem_pick false ((Value.bool false)) rfl rfl ?_)
        refine Run.region_end ?_
        refine Run.condF rfl ?_
        refine Run.skip ?_
        exact Run.of_fin (hS.imp fun h' hS => j75 _ _ ⟨⟨rfl, rfl, rfl, trivial⟩, hS⟩)
      ·have hS := hF hb84; clear hT hF
       refine Run.go rfl rfl rfl (sem_binI .i64 (i74) (i70) (.bool true) rfl rfl (binI_neq_f hb84) ?_)
       refine Run.go rfl rfl rfl (sem_pick false ((Value.bool true)) rfl rfl ?_)
       refine Run.go rfl rfl rfl (sem_move ((Value.bool true)) rfl ?_)
       refine Run.no rfl rfl rfl ?_
       refine Run.no rfl rfl rfl ?_
       refine Run.no rfl rfl rfl ?_
       refine Run.no rfl rfl rfl ?_
       refine Run.go rfl rfl rfl (sem_pick true ((Value.bool true)) rfl rfl ?_)
       refine Run.region_end ?_
       refine Run.condT rfl ?_
       refine Run.seq ?_
       refine Run.ops0 (idx := [0]) rfl ?_
       refine Run.go rfl rfl rfl (sem_assign ((Value.bool false)) rfl ?_)
       refine Run.region_end ?_
       refine Run.ret ⟨.inr rfl, ?_⟩
       exact hS.imp fun h' hq => ⟨(false), rfl, hq⟩
     ·have hS := hF hb83; clear hT hF
      refine Run.go rfl rfl rfl (sem_binI .i64 (i73) (i69) (.bool true) rfl rfl (binI_neq_f hb83) ?_)
      refine Run.go rfl rfl rfl (sem_move ((Value.bool true)) rfl ?_)
      refine Run.no rfl rfl rfl ?_
      refine Run.no rfl rfl rfl ?_
      refine Run.no rfl rfl rfl ?_
      refine Run.go rfl rfl rfl (sem_pick true ((Value.bool true)) rfl rfl ?_)
      refine Run.go rfl rfl rfl (sem_move ((Value.bool true)) rfl ?_)
      refine Run.no rfl rfl rfl ?_
      refine Run.no rfl rfl rfl ?_
      refine Run.no rfl rfl rfl ?_
      refine Run.no rfl rfl rfl ?_
      refine Run.go rfl rfl rfl (sem_pick true ((Value.bool true)) rfl rfl ?_)
      refine Run.region_end ?_
      refine Run.condT rfl ?_
      refine Run.seq ?_
      refine Run.ops0 (idx := [0]) rfl ?_
      refine Run.go rfl rfl rfl (sem_assign ((Value.bool false)) rfl ?_)
      refine Run.region_end ?_
      refine Run.ret ⟨.inr rfl, ?_⟩
      exact hS.imp fun h' hq => ⟨(false), rfl, hq⟩
    refine Run.seq ?_
    refine Run.ops0 (idx := [0, 1, 2]) rfl ?_
    refine Run.go rfl rfl rfl (sem_move ((Value.slice a2 n3 c4)) rfl ?_)
    refine Run.go rfl rfl rfl (sem_lenSl a2 n3 c4 rfl TF.sl_55 ?_)
    refine Run.go rfl rfl rfl (sem_move ((Value.int .i64 (0))) rfl ?_)
    refine Run.region_end ?_
    refine Run.block ?_
    obtain ⟨J95, m93, h0, hS⟩ := hS
    refine Run.of_fin (h0.imp fun h' h0 => ?_)
    refine Run.loop (σ := Int × Int × Int × Nat) (fun x e h => J95 x.1 x.2.1 x.2.2.1 x.2.2.2 h ∧ Agree [(1, (Value.slice a2 n3 c4)), (5, (Value.pointer p12)), (6, (Value.pointer (some ⟨k63, 0, none⟩))), (8, (Value.int .i64 (x.1))), (9, (Value.int .i64 (x.2.1))), (32, (Value.slice a2 n3 c4)), (33, (Value.int .i64 ((n3 : Nat)))), (34, (Value.int .i64 (x.2.2.1)))] e) (fun x => x.2.2.2) ((0), (0), (0), m93) ⟨h0, ⟨rfl, rfl, rfl, rfl, rfl, rfl, rfl, rfl, trivial⟩⟩ ?_; clear h0
    rintro ⟨i88, i89, i90, m92⟩ e h91 ⟨hJ, hag⟩ ih94
    have hS := hS i88 i89 i90 m92 h91 hJ; clear hJ
    refine Run.env hag ?_; clear hag
    refine Run.seq ?_
    refine Run.ops0 (idx := [0]) rfl ?_
    obtain ⟨hT, hF⟩ := hS
    by_cases hb96 : (i90 : Int) < ((n3 : Nat))
    ·have hS := hT hb96; clear hT hF
     refine Run.go rfl rfl rfl (sem_binI .i64 (i90) ((n3 : Nat)) (.bool true) rfl rfl (binI_lss_t hb96) ?_)
     refine Run.region_end ?_
     refine Run.seq ?_
     refine Run.condT rfl ?_
     refine Run.skip ?_
     refine Run.seq ?_
     refine Run.block ?_
     refine Run.seq ?_
     refine Run.ops0 (idx := [0, 1, 2]) rfl ?_
     obtain ⟨A97, e98, hi0, hi1, hS⟩ := hS
     refine Run.go rfl rfl rfl (sem_indexAddrS A97 n3 c4 .i64 (i90) (congrArg (fun a => Value.slice a n3 c4) e98) rfl TF.slc_55 hi0 hi1 ?_)
     obtain ⟨s99, hl, hS⟩ := hS
     refine Run.go rfl rfl rfl (sem_load1 (Addr.add A97 (Int.toNat (i90) * 1)) ((Value.string s99)) rfl TF.agg_9 hl ?_)
     refine Run.go rfl rfl rfl (sem_assign ((Value.string s99)) rfl ?_)
     refine Run.region_end ?_
     refine Run.seq ?_
     refine Run.seq ?_
     refine Run.ops0 (idx := [0, 1, 2]) rfl ?_
     refine Run.go rfl rfl rfl (sem_move ((Value.string s99)) rfl ?_)
     refine Run.go rfl rfl rfl (sem_lenStr s99 rfl TF.isStr_9 ?_)
     obtain ⟨hT, hF⟩ := hS
     by_cases hb100 : ((ByteArray.size s99 : Nat) : Int) > (300)
     ·have hS := hT hb100; clear hT hF
      refine Run.go rfl rfl rfl (sem_binI .i64 ((ByteArray.size s99 : Nat)) (300) (.bool true) rfl rfl (binI_gtr_t hb100) ?_)
      refine Run.region_end ?_
      refine Run.condT rfl ?_
      refine Run.seq ?_
      refine Run.ops0 (idx := [0]) rfl ?_
      refine Run.go rfl rfl rfl (sem_assign ((Value.bool true)) rfl ?_)
      refine Run.region_end ?_
      refine Run.ret ⟨.inr rfl, ?_⟩
      exact hS.imp fun h' hq => ⟨(true), rfl, hq⟩
     ·have hS := hF hb100; clear hT hF
      refine Run.go rfl rfl rfl (sem_binI .i64 ((ByteArray.size s99 : Nat)) (300) (.bool false) rfl rfl (binI_gtr_f hb100) ?_)
      refine Run.region_end ?_
      refine Run.condF rfl ?_
      refine Run.skip ?_
      refine Run.seq ?_
      refine Run.ops0 (idx := [0, 1, 2, 3, 4, 5, 6, 7, 8]) rfl ?_
      refine Run.go rfl rfl rfl (sem_move ((Value.string s99)) rfl ?_)
      refine Run.go rfl rfl rfl (sem_callL [(Value.string s99)] (TF.goes_62) rfl rfl (Spec.mono hS fun v h101 hv => ?_))
      obtain ⟨i102, a103, n104, c105, b106, rfl, hS⟩ := hv
      refine Run.go rfl rfl rfl (sem_move ((Value.tuple #[(Value.int .i64 (i102)), (Value.slice a103 n104 c105), (Value.bool b106)])) rfl ?_)
      refine Run.go rfl rfl rfl (sem_extract #[(Value.int .i64 (i102)), (Value.slice a103 n104 c105), (Value.bool b106)] ((Value.int .i64 (i102))) rfl rfl ?_)
      refine Run.go rfl rfl rfl (sem_extract #[(Value.int .i64 (i102)), (Value.slice a103 n104 c105), (Value.bool b106)] ((Value.slice a103 n104 c105)) rfl rfl ?_)
      obtain ⟨hT, hF⟩ := hS
      cases b106
      ·have hS := hF rfl; clear hT hF
       refine Run.go rfl rfl rfl (sem_extract #[(Value.int .i64 (i102)), (Value.slice a103 n104 c105), (Value.bool false)] (.bool false) rfl rfl ?_)
       refine Run.go rfl rfl rfl (sem_assign ((Value.int .i64 (i102))) rfl ?_)
       refine Run.go rfl rfl rfl (sem_assign ((Value.slice a103 n104 c105)) rfl ?_)
       refine Run.go rfl rfl rfl (sem_assign ((Value.bool false)) rfl ?_)
       refine Run.region_end ?_
       refine Run.seq ?_
       refine Run.seq ?_
       refine Run.ops0 (idx := [0, 1]) rfl ?_
       refine Run.go rfl rfl rfl (sem_move ((Value.bool false)) rfl ?_)
       refine Run.go rfl rfl rfl (sem_not false rfl ?_)
       refine Run.region_end ?_
       refine Run.condT rfl ?_
       refine Run.exit rfl ?_
       exact Run.of_fin (hS.imp fun h' hS => j68 _ _ ⟨(i88), (i89), ⟨rfl, rfl, rfl, rfl, rfl, trivial⟩, hS⟩)
      ·have hS := hT rfl; clear hT hF
       refine Run.go rfl rfl rfl (sem_extract #[(Value.int .i64 (i102)), (Value.slice a103 n104 c105), (Value.bool true)] (.bool true) rfl rfl ?_)
       refine Run.go rfl rfl rfl (sem_assign ((Value.int .i64 (i102))) rfl ?_)
       refine Run.go rfl rfl rfl (sem_assign ((Value.slice a103 n104 c105)) rfl ?_)
       refine Run.go rfl rfl rfl (sem_assign ((Value.bool true)) rfl ?_)
       refine Run.region_end ?_
       refine Run.seq ?_
       refine Run.seq ?_
       refine Run.ops0 (idx := [0, 1]) rfl ?_
       refine Run.go rfl rfl rfl (sem_move ((Value.bool true)) rfl ?_)
       refine Run.go rfl rfl rfl (sem_not true rfl ?_)
       refine Run.region_end ?_
       refine Run.condF rfl ?_
       refine Run.skip ?_
       refine Run.seq ?_
       refine Run.ops0 (idx := [0, 1, 2, 3]) rfl ?_
       obtain ⟨l107, hln, hl, hS⟩ := hS
       refine Run.go rfl rfl rfl (sem_loadN ⟨k63, 0, none⟩ l107 rfl TF.agg_115 (TF.sz_115.trans (congrArg some hln.symm)) hl ?_)
       refine Run.go rfl rfl rfl (sem_move ((Value.slice a103 n104 c105)) rfl ?_)
       refine Run.go rfl rfl rfl (sem_callL [(Value.agg (List.toArray l107)), (Value.slice a103 n104 c105)] (TF.goes_69) rfl rfl (Spec.mono hS fun v h108 hv => ?_))
       obtain ⟨l109, rfl, hS⟩ := hv
       obtain ⟨hln, h110, hst, hS⟩ := hS
       refine Run.go rfl rfl rfl (sem_storeN ⟨k63, 0, none⟩ l109 h110 rfl rfl (TF.sz_115.trans (congrArg some hln.symm)) hst ?_)
       refine Run.region_end ?_
       refine Run.seq ?_
       refine Run.ops0 (idx := [0, 1, 2, 3]) rfl ?_
       refine Run.go rfl rfl rfl (sem_move ((Value.int .i64 (i88))) rfl ?_)
       refine Run.go rfl rfl rfl (sem_move ((Value.int .i64 (i102))) rfl ?_)
       refine Run.go rfl rfl rfl (sem_max .i64 (i88) (i102) rfl rfl ?_)
       refine Run.go rfl rfl rfl (sem_assign ((Value.int .i64 (if (i102 : Int) > (i88) then (i102 : Int) else (i88)))) rfl ?_)
       refine Run.region_end ?_
       refine Run.ops0 (idx := [0, 1, 2]) rfl ?_
       refine Run.go rfl rfl rfl (sem_move ((Value.int .i64 (i89))) rfl ?_)
       refine Run.go rfl rfl rfl (sem_binI .i64 (i89) (1) ((Value.int .i64 (IntKind.wrap .i64 ((i89) + (1))))) rfl rfl rfl ?_)
       refine Run.go rfl rfl rfl (sem_assign ((Value.int .i64 (IntKind.wrap .i64 ((i89) + (1))))) rfl ?_)
       refine Run.region_end ?_
       refine Run.inBlock ?_
       refine Run.ops0 (idx := [0, 1]) rfl ?_
       refine Run.go rfl rfl rfl (sem_binI .i64 (i90) (1) ((Value.int .i64 (IntKind.wrap .i64 ((i90) + (1))))) rfl rfl rfl ?_)
       refine Run.go rfl rfl rfl (sem_move ((Value.int .i64 (IntKind.wrap .i64 ((i90) + (1))))) rfl ?_)
       refine Run.region_end ?_
       exact Run.of_fin (hS.imp fun h' ⟨m', hm, hS⟩ => ih94 ((if (i102 : Int) > (i88) then (i102 : Int) else (i88)), (IntKind.wrap .i64 ((i89) + (1))), (IntKind.wrap .i64 ((i90) + (1))), m') _ _ ⟨hS, ⟨rfl, rfl, rfl, rfl, rfl, rfl, rfl, rfl, trivial⟩⟩ hm)
    ·have hS := hF hb96; clear hT hF
     refine Run.go rfl rfl rfl (sem_binI .i64 (i90) ((n3 : Nat)) (.bool false) rfl rfl (binI_lss_f hb96) ?_)
     refine Run.region_end ?_
     refine Run.seq ?_
     refine Run.condF rfl ?_
     refine Run.exit rfl ?_
     exact Run.of_fin (hS.imp fun h' hS => j68 _ _ ⟨(i88), (i89), ⟨rfl, rfl, rfl, rfl, rfl, trivial⟩, hS⟩)
   refine Run.seq ?_
   refine Run.ops0 (idx := [0, 1, 2, 3, 4, 5, 6]) rfl ?_
   refine Run.go rfl rfl rfl (sem_move ((Value.bool true)) rfl ?_)
   refine Run.go rfl rfl rfl (sem_not true rfl ?_)
   refine Run.go rfl rfl rfl (sem_move ((Value.bool false)) rfl ?_)
   refine Run.go rfl rfl rfl (sem_move ((Value.slice a2 n3 c4)) rfl ?_)
   refine Run.go rfl rfl rfl (sem_lenSl a2 n3 c4 rfl TF.sl_55 ?_)
   obtain ⟨hT, hF⟩ := hS
   by_cases hb111 : ((n3 : Nat) : Int) > (20)
   ·have hS := hT hb111; clear hT hF
    refine Run.go rfl rfl rfl (sem_binI .i64 ((n3 : Nat)) (20) (.bool true) rfl rfl (binI_gtr_t hb111) ?_)
    refine Run.go rfl rfl rfl (sem_pick false ((Value.bool true)) rfl rfl ?_)
    refine Run.region_end ?_
    refine Run.condT rfl ?_
    refine Run.seq ?_
    refine Run.ops0 (idx := [0]) rfl ?_
    refine Run.go rfl rfl rfl (sem_assign ((Value.bool true)) rfl ?_)
    refine Run.region_end ?_
    refine Run.ret ⟨.inr rfl, ?_⟩
    exact hS.imp fun h' hq => ⟨(true), rfl, hq⟩
   ·have hS := hF hb111; clear hT hF
    refine Run.go rfl rfl rfl (sem_binI .i64 ((n3 : Nat)) (20) (.bool false) rfl rfl (binI_gtr_f hb111) ?_)
    refine Run.go rfl rfl rfl (sem_pick false ((Value.bool false)) rfl rfl ?_)
    refine Run.region_end ?_
    refine Run.condF rfl ?_
    refine Run.skip ?_
    exact Run.of_fin (hS.imp fun h' hS => j66 _ _ ⟨⟨rfl, rfl, rfl, trivial⟩, hS⟩)
end Go.Proofs.Ythloobpjkeodgaa.H
