/- The functions do what they ask for. No condition. -/
import Derived.Test.YthloobpjkeodgaaXdS
namespace Go.Proofs.Ythloobpjkeodgaa.H
open Go
set_option linter.unusedVariables false
set_option maxRecDepth 100000

set_option maxHeartbeats 4000000 in
theorem C_countermandlaw16_ActsDoes.of {B : RO} {a1 : Option Addr} {n2 : Nat} {c3 : Nat} {h : Heap} {Q : Bool → Heap → Prop} (hS : S_countermandlaw16_ActsDoes B a1 n2 c3 h Q) : C_countermandlaw16_ActsDoes B a1 n2 c3 h Q := by
 unfold S_countermandlaw16_ActsDoes at hS
 unfold C_countermandlaw16_ActsDoes
 refine Spec.of_run Try.func3 (N := 191) (rs := [ResultVar.tmp 2]) rfl rfl rfl (Nat.le_of_ble_eq_true rfl) ?_
 refine Run.seq ?_
 refine Run.ops0 (idx := [0]) rfl ?_
 refine Run.go rfl rfl rfl (sem_assign ((Value.bool false)) rfl ?_)
 refine Run.region_end ?_
 refine Run.seq ?_
 refine Run.seq ?_
 refine Run.ops0 (idx := [0, 1]) rfl ?_
 refine Run.go rfl rfl rfl (sem_callL [] (TF.goes_15) rfl rfl (Spec.mono hS fun v h5 hv => ?_))
 obtain ⟨b6, rfl, hS⟩ := hv
 obtain ⟨hT, hF⟩ := hS
 cases b6
 ·have hS := hF rfl; clear hT hF
  refine Run.go rfl rfl rfl (sem_not false rfl ?_)
  refine Run.region_end ?_
  refine Run.condT rfl ?_
  refine Run.seq ?_
  refine Run.ops0 (idx := [0]) rfl ?_
  refine Run.go rfl rfl rfl (sem_assign ((Value.bool false)) rfl ?_)
  refine Run.region_end ?_
  refine Run.ret ⟨.inr rfl, ?_⟩
  exact hS.imp fun h' hq => ⟨(false), rfl, hq⟩
 ·have hS := hT rfl; clear hT hF
  refine Run.go rfl rfl rfl (sem_not true rfl ?_)
  refine Run.region_end ?_
  refine Run.condF rfl ?_
  refine Run.skip ?_
  refine Run.seq ?_
  refine Run.seq ?_
  refine Run.ops0 (idx := [0, 1, 2]) rfl ?_
  refine Run.go rfl rfl rfl (sem_move ((Value.slice a1 n2 c3)) rfl ?_)
  refine Run.go rfl rfl rfl (sem_lenSl a1 n2 c3 rfl TF.sl_22 ?_)
  obtain ⟨hT, hF⟩ := hS
  by_cases hb7 : ((n2 : Nat) : Int) > (80)
  ·have hS := hT hb7; clear hT hF
   refine Run.go rfl rfl rfl (sem_binI .i64 ((n2 : Nat)) (80) (.bool true) rfl rfl (binI_gtr_t hb7) ?_)
   refine Run.region_end ?_
   refine Run.condT rfl ?_
   refine Run.seq ?_
   refine Run.ops0 (idx := [0]) rfl ?_
   refine Run.go rfl rfl rfl (sem_assign ((Value.bool true)) rfl ?_)
   refine Run.region_end ?_
   refine Run.ret ⟨.inr rfl, ?_⟩
   exact hS.imp fun h' hq => ⟨(true), rfl, hq⟩
  ·have hS := hF hb7; clear hT hF
   refine Run.go rfl rfl rfl (sem_binI .i64 ((n2 : Nat)) (80) (.bool false) rfl rfl (binI_gtr_f hb7) ?_)
   refine Run.region_end ?_
   refine Run.condF rfl ?_
   refine Run.skip ?_
   refine Run.seq ?_
   refine Run.ops0 (idx := [0, 1, 2]) rfl ?_
   refine Run.go rfl rfl rfl (sem_buildSL [] [(Value.slice none 0 0), (Value.slice none 0 0), (Value.slice none 0 0), (Value.slice none 0 0)] TF.zero_29 TF.places_29 rfl rfl ?_)
   refine Run.go rfl rfl rfl (sem_boxNN [(Value.slice none 0 0), (Value.slice none 0 0), (Value.slice none 0 0), (Value.slice none 0 0)] rfl (fun k8 hb1 hb2 h9 hb3 => ?_))
   have hS := hS k8 hb1 hb2 h9 hb3
   refine Run.go rfl rfl rfl (sem_assign ((Value.pointer (some ⟨k8, 0, none⟩))) rfl ?_)
   refine Run.region_end ?_
   refine Run.seq ?_
   refine Run.ops0 (idx := [0]) rfl ?_
   refine Run.go rfl rfl rfl (sem_assign ((Value.slice none 0 0)) rfl ?_)
   refine Run.region_end ?_
   refine Run.seqJ (fun e h11 => Agree [] e ∧ S_countermandlaw16_ActsDoes_J1 B h11 Q) ?_ fun j10 => ?_
   ·rintro e h11 ⟨hag, hS⟩
    refine Run.env hag ?_; clear hag
    refine Run.seq ?_
    refine Run.ops0 (idx := [0]) rfl ?_
    refine Run.go rfl rfl rfl (sem_assign ((Value.pointer none)) rfl ?_)
    refine Run.region_end ?_
    refine Run.seq ?_
    refine Run.ops0 (idx := [0, 1, 2, 3, 4, 5, 6, 7, 8, 9, 10, 11, 12, 13, 14, 15, 16, 17, 18, 19, 20, 21, 22, 23, 24, 25, 26, 27, 28, 29, 30, 31, 32, 33, 34, 35, 36, 37, 38, 39, 40, 41, 42, 43, 44, 45, 46, 47]) rfl ?_
    refine Run.go rfl rfl rfl (sem_move ((Value.pointer none)) rfl ?_)
    refine Run.go rfl rfl rfl (sem_callL [(Value.pointer none), (Value.int .i64 (0)), (Value.int .u8 (0))] (TF.goes_30) rfl rfl (Spec.mono hS fun v h12 hv => ?_))
    obtain ⟨b13, rfl, hS⟩ := hv
    obtain ⟨hT, hF⟩ := hS
    cases b13
    ·have hS := hF rfl; clear hT hF
     refine Run.go rfl rfl rfl (sem_not false rfl ?_)
     refine Run.go rfl rfl rfl (sem_move ((Value.bool true)) rfl ?_)
     refine Run.go rfl rfl rfl (sem_move ((Value.pointer none)) rfl ?_)
     refine Run.go rfl rfl rfl (sem_callL [(Value.pointer none), (Value.int .i64 (0)), (Value.int .u8 (0))] (TF.goes_31) rfl rfl (Spec.mono hS fun v h14 hv => ?_))
     obtain ⟨b15, rfl, hS⟩ := hv
     obtain ⟨hT, hF⟩ := hS
     cases b15
     ·have hS := hF rfl; clear hT hF
      refine Run.go rfl rfl rfl (sem_not false rfl ?_)
      refine Run.go rfl rfl rfl (sem_pick true ((Value.bool true)) rfl rfl ?_)
      refine Run.go rfl rfl rfl (sem_move ((Value.bool true)) rfl ?_)
      refine Run.go rfl rfl rfl (sem_move ((Value.pointer none)) rfl ?_)
      refine Run.go rfl rfl rfl (sem_callL [(Value.pointer none), (Value.int .i64 (0))] (TF.goes_32) rfl rfl (Spec.mono hS fun v h16 hv => ?_))
      obtain ⟨b17, rfl, hS⟩ := hv
      obtain ⟨hT, hF⟩ := hS
      cases b17
      ·have hS := hF rfl; clear hT hF
       refine Run.go rfl rfl rfl (sem_not false rfl ?_)
       refine Run.go rfl rfl rfl (sem_pick true ((Value.bool true)) rfl rfl ?_)
       refine Run.go rfl rfl rfl (sem_move ((Value.bool true)) rfl ?_)
       refine Run.go rfl rfl rfl (sem_move ((Value.pointer none)) rfl ?_)
       refine Run.go rfl rfl rfl (sem_callL [(Value.pointer none), (Value.int .i64 (0)), (Value.int .i64 (0))] (TF.goes_33) rfl rfl (Spec.mono hS fun v h18 hv => ?_))
       obtain ⟨b19, rfl, hS⟩ := hv
       obtain ⟨hT, hF⟩ := hS
       cases b19
       ·have hS := hF rfl; clear hT hF
        refine Run.go rfl rfl rfl (sem_not false rfl ?_)
        refine Run.go rfl rfl rfl (sem_pick true ((Value.bool true)) rfl rfl ?_)
        refine Run.go rfl rfl rfl (sem_move ((Value.bool true)) rfl ?_)
        refine Run.go rfl rfl rfl (sem_move ((Value.pointer none)) rfl ?_)
        refine Run.go rfl rfl rfl (sem_callL [(Value.pointer none)] (TF.goes_28) rfl rfl (Spec.mono hS fun v h20 hv => ?_))
        obtain ⟨a21, n22, c23, rfl, hS⟩ := hv
        refine Run.go rfl rfl rfl (sem_lenSl a21 n22 c23 rfl TF.sl_25 ?_)
        refine Run.go rfl rfl rfl (sem_move ((Value.pointer none)) rfl ?_)
        refine Run.go rfl rfl rfl (sem_callL [(Value.pointer none)] (TF.goes_25) rfl rfl (Spec.mono hS fun v h24 hv => ?_))
        obtain ⟨a25, n26, c27, rfl, hS⟩ := hv
        refine Run.go rfl rfl rfl (sem_lenSl a25 n26 c27 rfl TF.sl_26 ?_)
        refine Run.go rfl rfl rfl (sem_binI .i64 ((n22 : Nat)) ((n26 : Nat)) ((Value.int .i64 (IntKind.wrap .i64 (((n22 : Nat)) + ((n26 : Nat)))))) rfl rfl rfl ?_)
        refine Run.go rfl rfl rfl (sem_move ((Value.pointer none)) rfl ?_)
        refine Run.go rfl rfl rfl (sem_callL [(Value.pointer none)] (TF.goes_29) rfl rfl (Spec.mono hS fun v h28 hv => ?_))
        obtain ⟨a29, n30, c31, rfl, hS⟩ := hv
        refine Run.go rfl rfl rfl (sem_lenSl a29 n30 c31 rfl TF.sl_27 ?_)
        refine Run.go rfl rfl rfl (sem_binI .i64 (IntKind.wrap .i64 (((n22 : Nat)) + ((n26 : Nat)))) ((n30 : Nat)) ((Value.int .i64 (IntKind.wrap .i64 ((IntKind.wrap .i64 (((n22 : Nat)) + ((n26 : Nat)))) + ((n30 : Nat)))))) rfl rfl rfl ?_)
        refine Run.go rfl rfl rfl (sem_move ((Value.pointer none)) rfl ?_)
        refine Run.go rfl rfl rfl (sem_callL [(Value.pointer none)] (TF.goes_23) rfl rfl (Spec.mono hS fun v h32 hv => ?_))
        obtain ⟨a33, n34, c35, rfl, hS⟩ := hv
        refine Run.go rfl rfl rfl (sem_lenSl a33 n34 c35 rfl TF.sl_25 ?_)
        refine Run.go rfl rfl rfl (sem_binI .i64 (IntKind.wrap .i64 ((IntKind.wrap .i64 (((n22 : Nat)) + ((n26 : Nat)))) + ((n30 : Nat)))) ((n34 : Nat)) ((Value.int .i64 (IntKind.wrap .i64 ((IntKind.wrap .i64 ((IntKind.wrap .i64 (((n22 : Nat)) + ((n26 : Nat)))) + ((n30 : Nat)))) + ((n34 : Nat)))))) rfl rfl rfl ?_)
        refine Run.go rfl rfl rfl (sem_move ((Value.pointer none)) rfl ?_)
        refine Run.go rfl rfl rfl (sem_buildAL [] [(Value.int .i64 (0)), (Value.int .i64 (0)), (Value.int .i64 (0)), (Value.int .i64 (0))] TF.zero_42 TF.arr_42 rfl rfl ?_)
        refine Run.go rfl rfl rfl (sem_callL [(Value.pointer none), (Value.agg #[(Value.int .i64 (0)), (Value.int .i64 (0)), (Value.int .i64 (0)), (Value.int .i64 (0))])] (TF.goes_20) rfl rfl (Spec.mono hS fun v h36 hv => ?_))
        obtain ⟨a37, n38, c39, rfl, hS⟩ := hv
        refine Run.go rfl rfl rfl (sem_lenSl a37 n38 c39 rfl TF.sl_27 ?_)
        refine Run.go rfl rfl rfl (sem_binI .i64 (IntKind.wrap .i64 ((IntKind.wrap .i64 ((IntKind.wrap .i64 (((n22 : Nat)) + ((n26 : Nat)))) + ((n30 : Nat)))) + ((n34 : Nat)))) ((n38 : Nat)) ((Value.int .i64 (IntKind.wrap .i64 ((IntKind.wrap .i64 ((IntKind.wrap .i64 ((IntKind.wrap .i64 (((n22 : Nat)) + ((n26 : Nat)))) + ((n30 : Nat)))) + ((n34 : Nat)))) + ((n38 : Nat)))))) rfl rfl rfl ?_)
        obtain ⟨hT, hF⟩ := hS
        by_cases hb40 : (IntKind.wrap .i64 ((IntKind.wrap .i64 ((IntKind.wrap .i64 ((IntKind.wrap .i64 (((n22 : Nat)) + ((n26 : Nat)))) + ((n30 : Nat)))) + ((n34 : Nat)))) + ((n38 : Nat))) : Int) = 0
        ·have hS := hT hb40; clear hT hF
         refine Run.go rfl rfl rfl (sem_binI .i64 (IntKind.wrap .i64 ((IntKind.wrap .i64 ((IntKind.wrap .i64 ((IntKind.wrap .i64 (((n22 : Nat)) + ((n26 : Nat)))) + ((n30 : Nat)))) + ((n34 : Nat)))) + ((n38 : Nat)))) (0) (.bool true) rfl rfl (binI_eql_t hb40) ?_)
         refine Run.go rfl rfl rfl (sem_pick true ((Value.bool true)) rfl rfl ?_)
         refine Run.go rfl rfl rfl (sem_move ((Value.bool true)) rfl ?_)
         refine Run.go rfl rfl rfl (sem_move ((Value.pointer none)) rfl ?_)
         refine Run.go rfl rfl rfl (sem_callL [(Value.pointer none)] (TF.goes_26) rfl rfl (Spec.mono hS fun v h41 hv => ?_))
         obtain ⟨i42, i43, i44, i45, rfl, hS⟩ := hv
         refine Run.go rfl rfl rfl (sem_buildAL [] [(Value.int .i64 (0)), (Value.int .i64 (0)), (Value.int .i64 (0)), (Value.int .i64 (0))] TF.zero_42 TF.arr_42 rfl rfl ?_)
         refine Run.go rfl rfl rfl (sem_aggEq [(Value.int .i64 (i42)), (Value.int .i64 (i43)), (Value.int .i64 (i44)), (Value.int .i64 (i45))] [(Value.int .i64 (0)), (Value.int .i64 (0)), (Value.int .i64 (0)), (Value.int .i64 (0))] _ ((decide (eqL [(Value.int .i64 (i42)), (Value.int .i64 (i43)), (Value.int .i64 (i44)), (Value.int .i64 (i45))] [(Value.int .i64 (0)), (Value.int .i64 (0)), (Value.int .i64 (0)), (Value.int .i64 (0))] = true))) (.inl rfl) rfl rfl TF.agg_42 TF.flat_42 TF.eqg_42 ⟨⟨_, rfl⟩, ⟨_, rfl⟩, ⟨_, rfl⟩, ⟨_, rfl⟩, trivial⟩ ⟨⟨_, rfl⟩, ⟨_, rfl⟩, ⟨_, rfl⟩, ⟨_, rfl⟩, trivial⟩ eqLV_eql ?_)
         refine Run.go rfl rfl rfl (sem_pick true ((Value.bool (decide (eqL [(Value.int .i64 (i42)), (Value.int .i64 (i43)), (Value.int .i64 (i44)), (Value.int .i64 (i45))] [(Value.int .i64 (0)), (Value.int .i64 (0)), (Value.int .i64 (0)), (Value.int .i64 (0))] = true)))) rfl rfl ?_)
         refine Run.go rfl rfl rfl (sem_assign ((Value.bool (decide (eqL [(Value.int .i64 (i42)), (Value.int .i64 (i43)), (Value.int .i64 (i44)), (Value.int .i64 (i45))] [(Value.int .i64 (0)), (Value.int .i64 (0)), (Value.int .i64 (0)), (Value.int .i64 (0))] = true)))) rfl ?_)
         refine Run.region_end ?_
         refine Run.ret ⟨.inr rfl, ?_⟩
         exact hS.imp fun h' hq => ⟨((decide (eqL [(Value.int .i64 (i42)), (Value.int .i64 (i43)), (Value.int .i64 (i44)), (Value.int .i64 (i45))] [(Value.int .i64 (0)), (Value.int .i64 (0)), (Value.int .i64 (0)), (Value.int .i64 (0))] = true))), rfl, hq⟩
        ·have hS := hF hb40; clear hT hF
         refine Run.go rfl rfl rfl (sem_binI .i64 (IntKind.wrap .i64 ((IntKind.wrap .i64 ((IntKind.wrap .i64 ((IntKind.wrap .i64 (((n22 : Nat)) + ((n26 : Nat)))) + ((n30 : Nat)))) + ((n34 : Nat)))) + ((n38 : Nat)))) (0) (.bool false) rfl rfl (binI_eql_f hb40) ?_)
         refine Run.go rfl rfl rfl (sem_pick true ((Value.bool false)) rfl rfl ?_)
         refine Run.go rfl rfl rfl (sem_move ((Value.bool false)) rfl ?_)
         refine Run.no rfl rfl rfl ?_
         refine Run.no rfl rfl rfl ?_
         refine Run.no rfl rfl rfl ?_
         refine Run.no rfl rfl rfl ?_
         refine Run.go rfl rfl rfl (sem_pick false ((Value.bool false)) rfl rfl ?_)
         refine Run.go rfl rfl rfl (sem_assign ((Value.bool false)) rfl ?_)
         refine Run.region_end ?_
         refine Run.ret ⟨.inr rfl, ?_⟩
         exact hS.imp fun h' hq => ⟨(false), rfl, hq⟩
       ·have hS := hT rfl; clear hT hF
        refine Run.go rfl rfl rfl (sem_not true rfl ?_)
        refine Run.go rfl rfl rfl (sem_pick true ((Value.bool false)) rfl rfl ?_)
        refine Run.go rfl rfl rfl (sem_move ((Value.bool false)) rfl ?_)
        refine Run.no rfl rfl rfl ?_
        refine Run.no rfl rfl rfl ?_
        refine Run.no rfl rfl rfl ?_
        refine Run.no rfl rfl rfl ?_
        refine Run.no rfl rfl rfl ?_
        refine Run.no rfl rfl rfl ?_
        refine Run.no rfl rfl rfl ?_
        refine Run.no rfl rfl rfl ?_
        refine Run.no rfl rfl rfl ?_
        refine Run.no rfl rfl rfl ?_
        refine Run.no rfl rfl rfl ?_
        refine Run.no rfl rfl rfl ?_
        refine Run.no rfl rfl rfl ?_
        refine Run.no rfl rfl rfl ?_
        refine Run.no rfl rfl rfl ?_
        refine Run.no rfl rfl rfl ?_
        refine Run.no rfl rfl rfl ?_
        refine Run.no rfl rfl rfl ?_
        refine Run.no rfl rfl rfl ?_
        refine Run.no rfl rfl rfl ?_
        refine Run.no rfl rfl rfl ?_
        refine Run.go rfl rfl rfl (sem_pick false ((Value.bool false)) rfl rfl ?_)
        refine Run.go rfl rfl rfl (sem_move ((Value.bool false)) rfl ?_)
        refine Run.no rfl rfl rfl ?_
        refine Run.no rfl rfl rfl ?_
        refine Run.no rfl rfl rfl ?_
        refine Run.no rfl rfl rfl ?_
        refine Run.go rfl rfl rfl (sem_pick false ((Value.bool false)) rfl rfl ?_)
        refine Run.go rfl rfl rfl (sem_assign ((Value.bool false)) rfl ?_)
        refine Run.region_end ?_
        refine Run.ret ⟨.inr rfl, ?_⟩
        exact hS.imp fun h' hq => ⟨(false), rfl, hq⟩
      ·have hS := hT rfl; clear hT hF
       refine Run.go rfl rfl rfl (sem_not true rfl ?_)
       refine Run.go rfl rfl rfl (sem_pick true ((Value.bool false)) rfl rfl ?_)
       refine Run.go rfl rfl rfl (sem_move ((Value.bool false)) rfl ?_)
       refine Run.no rfl rfl rfl ?_
       refine Run.no rfl rfl rfl ?_
       refine Run.no rfl rfl rfl ?_
       refine Run.go rfl rfl rfl (sem_pick false ((Value.bool false)) rfl rfl ?_)
       refine Run.go rfl rfl rfl (sem_move ((Value.bool false)) rfl ?_)
       refine Run.no rfl rfl rfl ?_
       refine Run.no rfl rfl rfl ?_
       refine Run.no rfl rfl rfl ?_
       refine Run.no rfl rfl rfl ?_
       refine Run.no rfl rfl rfl ?_
       refine Run.no rfl rfl rfl ?_
       refine Run.no rfl rfl rfl ?_
       refine Run.no rfl rfl rfl ?_
       refine Run.no rfl rfl rfl ?_
       refine Run.no rfl rfl rfl ?_
       refine Run.no rfl rfl rfl ?_
       refine Run.no rfl rfl rfl ?_
       refine Run.no rfl rfl rfl ?_
       refine Run.no rfl rfl rfl ?_
       refine Run.no rfl rfl rfl ?_
       refine Run.no rfl rfl rfl ?_
       refine Run.no rfl rfl rfl ?_
       refine Run.no rfl rfl rfl ?_
       refine Run.no rfl rfl rfl ?_
       refine Run.no rfl rfl rfl ?_
       refine Run.no rfl rfl rfl ?_
       refine Run.go rfl rfl rfl (sem_pick false ((Value.bool false)) rfl rfl ?_)
       refine Run.go rfl rfl rfl (sem_move ((Value.bool false)) rfl ?_)
       refine Run.no rfl rfl rfl ?_
       refine Run.no rfl rfl rfl ?_
       refine Run.no rfl rfl rfl ?_
       refine Run.no rfl rfl rfl ?_
       refine Run.go rfl rfl rfl (sem_pick false ((Value.bool false)) rfl rfl ?_)
       refine Run.go rfl rfl rfl (sem_assign ((Value.bool false)) rfl ?_)
       refine Run.region_end ?_
       refine Run.ret ⟨.inr rfl, ?_⟩
       exact hS.imp fun h' hq => ⟨(false), rfl, hq⟩
     ·have hS := hT rfl; clear hT hF
      refine Run.go rfl rfl rfl (sem_not true rfl ?_)
      refine Run.go rfl rfl rfl (sem_pick true ((Value.bool false)) rfl rfl ?_)
      refine Run.go rfl rfl rfl (sem_move ((Value.bool false)) rfl ?_)
      refine Run.no rfl rfl rfl ?_
      refine Run.no rfl rfl rfl ?_
      refine Run.no rfl rfl rfl ?_
      refine Run.go rfl rfl rfl (sem_pick false ((Value.bool false)) rfl rfl ?_)
      refine Run.go rfl rfl rfl (sem_move ((Value.bool false)) rfl ?_)
      refine Run.no rfl rfl rfl ?_
      refine Run.no rfl rfl rfl ?_
      refine Run.no rfl rfl rfl ?_
      refine Run.go rfl rfl rfl (sem_pick false ((Value.bool false)) rfl rfl ?_)
      refine Run.go rfl rfl rfl (sem_move ((Value.bool false)) rfl ?_)
      refine Run.no rfl rfl rfl ?_
      refine Run.no rfl rfl rfl ?_
      refine Run.no rfl rfl rfl ?_
      refine Run.no rfl rfl rfl ?_
      refine Run.no rfl rfl rfl ?_
      refine Run.no rfl rfl rfl ?_
      refine Run.no rfl rfl rfl ?_
      refine Run.no rfl rfl rfl ?_
      refine Run.no rfl rfl rfl ?_
      refine Run.no rfl rfl rfl ?_
      refine Run.no rfl rfl rfl ?_
      refine Run.no rfl rfl rfl ?_
      refine Run.no rfl rfl rfl ?_
      refine Run.no rfl rfl rfl ?_
      refine Run.no rfl rfl rfl ?_
      refine Run.no rfl rfl rfl ?_
      refine Run.no rfl rfl rfl ?_
      refine Run.no rfl rfl rfl ?_
      refine Run.no rfl rfl rfl ?_
      refine Run.no rfl rfl rfl ?_
      refine Run.no rfl rfl rfl ?_
      refine Run.go rfl rfl rfl (sem_pick false ((Value.bool false)) rfl rfl ?_)
      refine Run.go rfl rfl rfl (sem_move ((Value.bool false)) rfl ?_)
      refine Run.no rfl rfl rfl ?_
      refine Run.no rfl rfl rfl ?_
      refine Run.no rfl rfl rfl ?_
      refine Run.no rfl rfl rfl ?_
      refine Run.go rfl rfl rfl (sem_pick false ((Value.bool false)) rfl rfl ?_)
      refine Run.go rfl rfl rfl (sem_assign ((Value.bool false)) rfl ?_)
      refine Run.region_end ?_
      refine Run.ret ⟨.inr rfl, ?_⟩
      exact hS.imp fun h' hq => ⟨(false), rfl, hq⟩
    ·have hS := hT rfl; clear hT hF
     refine Run.go rfl rfl rfl (sem_not true rfl ?_)
     refine Run.go rfl rfl rfl (sem_move ((Value.bool false)) rfl ?_)
     refine Run.no rfl rfl rfl ?_
     refine Run.no rfl rfl rfl ?_
     refine Run.no rfl rfl rfl ?_
     refine Run.go rfl rfl rfl (sem_pick false ((Value.bool false)) rfl rfl ?_)
     refine Run.go rfl rfl rfl (sem_move ((Value.bool false)) rfl ?_)
     refine Run.no rfl rfl rfl ?_
     refine Run.no rfl rfl rfl ?_
     refine Run.no rfl rfl rfl ?_
     refine Run.go rfl rfl rfl (sem_pick false ((Value.bool false)) rfl rfl ?_)
     refine Run.go rfl rfl rfl (sem_move ((Value.bool false)) rfl ?_)
     refine Run.no rfl rfl rfl ?_
     refine Run.no rfl rfl rfl ?_
     refine Run.no rfl rfl rfl ?_
     refine Run.go rfl rfl rfl (sem_pick false ((Value.bool false)) rfl rfl ?_)
     refine Run.go rfl rfl rfl (sem_move ((Value.bool false)) rfl ?_)
     refine Run.no rfl rfl rfl ?_
     refine Run.no rfl rfl rfl ?_
     refine Run.no rfl rfl rfl ?_
     refine Run.no rfl rfl rfl ?_
     refine Run.no rfl rfl rfl ?_
     refine Run.no rfl rfl rfl ?_
     refine Run.no rfl rfl rfl ?_
     refine Run.no rfl rfl rfl ?_
     refine Run.no rfl rfl rfl ?_
     refine Run.no rfl rfl rfl ?_
     refine Run.no rfl rfl rfl ?_
     refine Run.no rfl rfl rfl ?_
     refine Run.no rfl rfl rfl ?_
     refine Run.no rfl rfl rfl ?_
     refine Run.no rfl rfl rfl ?_
     refine Run.no rfl rfl rfl ?_
     refine Run.no rfl rfl rfl ?_
     refine Run.no rfl rfl rfl ?_
     refine Run.no rfl rfl rfl ?_
     refine Run.no rfl rfl rfl ?_
     refine Run.no rfl rfl rfl ?_
     refine Run.go rfl rfl rfl (sem_pick false ((Value.bool false)) rfl rfl ?_)
     refine Run.go rfl rfl rfl (sem_move ((Value.bool false)) rfl ?_)
     refine Run.no rfl rfl rfl ?_
     refine Run.no rfl rfl rfl ?_
     refine Run.no rfl rfl rfl ?_
     refine Run.no rfl rfl rfl ?_
     refine Run.go rfl rfl rfl (sem_pick false ((Value.bool false)) rfl rfl ?_)
     refine Run.go rfl rfl rfl (sem_assign ((Value.bool false)) rfl ?_)
     refine Run.region_end ?_
     refine Run.ret ⟨.inr rfl, ?_⟩
     exact hS.imp fun h' hq => ⟨(false), rfl, hq⟩
   refine Run.seq ?_
   refine Run.ops0 (idx := [0, 1, 2]) rfl ?_
   refine Run.go rfl rfl rfl (sem_move ((Value.slice a1 n2 c3)) rfl ?_)
   refine Run.go rfl rfl rfl (sem_lenSl a1 n2 c3 rfl TF.sl_22 ?_)
   refine Run.go rfl rfl rfl (sem_move ((Value.int .i64 (0))) rfl ?_)
   refine Run.region_end ?_
   refine Run.block ?_
   obtain ⟨J54, m52, h0, hS⟩ := hS
   refine Run.of_fin (h0.imp fun h' h0 => ?_)
   refine Run.loop (σ := (Option Addr) × Nat × Nat × Int × Nat) (fun x e h => J54 x.1 x.2.1 x.2.2.1 x.2.2.2.1 x.2.2.2.2 h ∧ Agree [(3, (Value.pointer (some ⟨k8, 0, none⟩))), (4, (Value.slice x.1 x.2.1 x.2.2.1)), (22, (Value.slice a1 n2 c3)), (23, (Value.int .i64 ((n2 : Nat)))), (24, (Value.int .i64 (x.2.2.2.1)))] e) (fun x => x.2.2.2.2) (none, 0, 0, (0), m52) ⟨h0, ⟨rfl, rfl, rfl, rfl, rfl, trivial⟩⟩ ?_; clear h0
   rintro ⟨a46, n47, c48, i49, m51⟩ e h50 ⟨hJ, hag⟩ ih53
   have hS := hS a46 n47 c48 i49 m51 h50 hJ; clear hJ
   refine Run.env hag ?_; clear hag
   refine Run.seq ?_
   refine Run.ops0 (idx := [0]) rfl ?_
   obtain ⟨hT, hF⟩ := hS
   by_cases hb55 : (i49 : Int) < ((n2 : Nat))
   ·have hS := hT hb55; clear hT hF
    refine Run.go rfl rfl rfl (sem_binI .i64 (i49) ((n2 : Nat)) (.bool true) rfl rfl (binI_lss_t hb55) ?_)
    refine Run.region_end ?_
    refine Run.seq ?_
    refine Run.condT rfl ?_
    refine Run.skip ?_
    refine Run.seq ?_
    refine Run.block ?_
    refine Run.seq ?_
    refine Run.ops0 (idx := [0, 1, 2, 3]) rfl ?_
    obtain ⟨A56, e57, hi0, hi1, hS⟩ := hS
    refine Run.go rfl rfl rfl (sem_indexAddrS A56 n2 c3 .i64 (i49) (congrArg (fun a => Value.slice a n2 c3) e57) rfl TF.slc_22 hi0 hi1 ?_)
    obtain ⟨i58, i59, i60, i61, i62, i63, i64, hl, hS⟩ := hS
    refine Run.go rfl rfl rfl (sem_loadN (Addr.add A56 (Int.toNat (i49) * 7)) [(Value.int .i64 (i58)), (Value.int .i64 (i59)), (Value.int .i64 (i60)), (Value.int .i64 (i61)), (Value.int .i64 (i62)), (Value.int .i64 (i63)), (Value.int .i64 (i64))] rfl TF.agg_35 TF.sz_35 hl ?_)
    refine Run.go rfl rfl rfl (sem_allocN [(Value.int .i64 (0)), (Value.int .i64 (0)), (Value.int .i64 (0)), (Value.int .i64 (0)), (Value.int .i64 (0)), (Value.int .i64 (0)), (Value.int .i64 (0))] TF.zero_35 (fun k65 hb1 hb2 h66 hb3 => ?_))
    have hS := hS k65 hb1 hb2 h66 hb3
    obtain ⟨h67, hst, hS⟩ := hS
    refine Run.go rfl rfl rfl (sem_storeN ⟨k65, 0, none⟩ [(Value.int .i64 (i58)), (Value.int .i64 (i59)), (Value.int .i64 (i60)), (Value.int .i64 (i61)), (Value.int .i64 (i62)), (Value.int .i64 (i63)), (Value.int .i64 (i64))] h67 rfl rfl TF.sz_35 hst ?_)
    refine Run.region_end ?_
    refine Run.seqJ (fun e h72 => ∃ a69 : Option Addr, ∃ n70 : Nat, ∃ c71 : Nat, Agree [(3, (Value.pointer (some ⟨k8, 0, none⟩))), (4, (Value.slice a69 n70 c71)), (22, (Value.slice a1 n2 c3)), (23, (Value.int .i64 ((n2 : Nat)))), (24, (Value.int .i64 (i49)))] e ∧ S_countermandlaw16_ActsDoes_J2 B a1 n2 c3 k8 i49 m51 J54 i64 a69 n70 c71 h72 Q) ?_ fun j68 => ?_
    ·rintro e h72 ⟨a69, n70, c71, hag, hS⟩
     refine Run.env hag ?_; clear hag
     refine Run.seq ?_
     refine Run.ops0 (idx := [0, 1, 2]) rfl ?_
     refine Run.go rfl rfl rfl (sem_move ((Value.slice a69 n70 c71)) rfl ?_)
     refine Run.go rfl rfl rfl (sem_callL [(Value.slice a69 n70 c71), (Value.int .i64 (2))] (TF.goes_24) rfl rfl (Spec.mono hS fun v h73 hv => ?_))
     obtain ⟨a74, n75, c76, rfl, hS⟩ := hv
     refine Run.go rfl rfl rfl (sem_assign ((Value.slice a74 n75 c76)) rfl ?_)
     refine Run.region_end ?_
     refine Run.seq ?_
     refine Run.ops0 (idx := [0, 1, 2]) rfl ?_
     refine Run.go rfl rfl rfl (sem_move ((Value.pointer (some ⟨k8, 0, none⟩))) rfl ?_)
     refine Run.go rfl rfl rfl (sem_callL [(Value.pointer (some ⟨k8, 0, none⟩))] (TF.goes_25) rfl rfl (Spec.mono hS fun v h77 hv => ?_))
     obtain ⟨a78, n79, c80, rfl, hS⟩ := hv
     refine Run.go rfl rfl rfl (sem_assign ((Value.slice a78 n79 c80)) rfl ?_)
     refine Run.region_end ?_
     refine Run.seqJ (fun e h82 => Agree [(3, (Value.pointer (some ⟨k8, 0, none⟩))), (4, (Value.slice a69 n70 c71)), (11, (Value.slice a74 n75 c76)), (12, (Value.slice a78 n79 c80)), (22, (Value.slice a1 n2 c3)), (23, (Value.int .i64 ((n2 : Nat)))), (24, (Value.int .i64 (i49)))] e ∧ S_countermandlaw16_ActsDoes_J3 B a1 n2 c3 k8 i49 m51 J54 i64 a69 n70 c71 a74 n75 c76 a78 n79 c80 h82 Q) ?_ fun j81 => ?_
     ·rintro e h82 ⟨hag, hS⟩
      refine Run.env hag ?_; clear hag
      refine Run.seqJ (fun e h84 => Agree [(3, (Value.pointer (some ⟨k8, 0, none⟩))), (4, (Value.slice a69 n70 c71)), (22, (Value.slice a1 n2 c3)), (23, (Value.int .i64 ((n2 : Nat)))), (24, (Value.int .i64 (i49)))] e ∧ S_countermandlaw16_ActsDoes_J4 B a1 n2 c3 k8 i49 m51 J54 i64 a69 n70 c71 h84 Q) ?_ fun j83 => ?_
      ·rintro e h84 ⟨hag, hS⟩
       refine Run.env hag ?_; clear hag
       refine Run.seq ?_
       refine Run.ops0 (idx := [0, 1, 2, 3, 4, 5, 6, 7, 8, 9, 10, 11, 12, 13, 14, 15, 16]) rfl ?_
       refine Run.go rfl rfl rfl (sem_move ((Value.pointer (some ⟨k8, 0, none⟩))) rfl ?_)
       refine Run.go rfl rfl rfl (sem_callL [(Value.pointer (some ⟨k8, 0, none⟩))] (TF.goes_28) rfl rfl (Spec.mono hS fun v h85 hv => ?_))
       obtain ⟨a86, n87, c88, rfl, hS⟩ := hv
       refine Run.go rfl rfl rfl (sem_move ((Value.slice a69 n70 c71)) rfl ?_)
       refine Run.go rfl rfl rfl (sem_callL [(Value.slice a69 n70 c71), (Value.int .i64 (0))] (TF.goes_24) rfl rfl (Spec.mono hS fun v h89 hv => ?_))
       obtain ⟨a90, n91, c92, rfl, hS⟩ := hv
       refine Run.go rfl rfl rfl (sem_move ((Value.slice a69 n70 c71)) rfl ?_)
       refine Run.go rfl rfl rfl (sem_callL [(Value.slice a69 n70 c71), (Value.int .i64 (1))] (TF.goes_24) rfl rfl (Spec.mono hS fun v h93 hv => ?_))
       obtain ⟨a94, n95, c96, rfl, hS⟩ := hv
       refine Run.go rfl rfl rfl (sem_appendL [(Value.slice a90 n91 c92), (Value.slice a94 n95 c96)] rfl (semH_mono (fun v h97 hv => ?_) hS))
       obtain ⟨a98, n99, c100, rfl, hS⟩ := hv
       refine Run.go rfl rfl rfl (sem_callL [(Value.slice a86 n87 c88), (Value.slice a98 n99 c100)] (TF.goes_22) rfl rfl (Spec.mono hS fun v h101 hv => ?_))
       obtain ⟨b102, rfl, hS⟩ := hv
       obtain ⟨hT, hF⟩ := hS
       cases b102
       ·have hS := hF rfl; clear hT hF
        refine Run.go rfl rfl rfl (sem_not false rfl ?_)
        refine Run.go rfl rfl rfl (sem_move ((Value.bool true)) rfl ?_)
        refine Run.no rfl rfl rfl ?_
        refine Run.no rfl rfl rfl ?_
        refine Run.no rfl rfl rfl ?_
        refine Run.no rfl rfl rfl ?_
        refine Run.no rfl rfl rfl ?_
        refine Run.no rfl rfl rfl ?_
        refine Run.go rfl rfl rfl (sem_pick true ((Value.bool true)) rfl rfl ?_)
        refine Run.region_end ?_
        refine Run.condT rfl ?_
        refine Run.seq ?_
        refine Run.ops0 (idx := [0]) rfl ?_
        refine Run.go rfl rfl rfl (sem_assign ((Value.bool false)) rfl ?_)
        refine Run.region_end ?_
        refine Run.ret ⟨.inr rfl, ?_⟩
        exact hS.imp fun h' hq => ⟨(false), rfl, hq⟩
       ·have hS := hT rfl; clear hT hF
        refine Run.go rfl rfl rfl (sem_not true rfl ?_)
        refine Run.go rfl rfl rfl (sem_move ((Value.bool false)) rfl ?_)
        refine Run.go rfl rfl rfl (sem_move ((Value.pointer (some ⟨k8, 0, none⟩))) rfl ?_)
        refine Run.go rfl rfl rfl (sem_callL [(Value.pointer (some ⟨k8, 0, none⟩))] (TF.goes_29) rfl rfl (Spec.mono hS fun v h103 hv => ?_))
        obtain ⟨a104, n105, c106, rfl, hS⟩ := hv
        refine Run.go rfl rfl rfl (sem_move ((Value.slice a69 n70 c71)) rfl ?_)
        refine Run.go rfl rfl rfl (sem_callL [(Value.slice a69 n70 c71)] (TF.goes_21) rfl rfl (Spec.mono hS fun v h107 hv => ?_))
        obtain ⟨a108, n109, c110, rfl, hS⟩ := hv
        refine Run.go rfl rfl rfl (sem_callL [(Value.slice a104 n105 c106), (Value.slice a108 n109 c110)] (TF.goes_19) rfl rfl (Spec.mono hS fun v h111 hv => ?_))
        obtain ⟨b112, rfl, hS⟩ := hv
        obtain ⟨hT, hF⟩ := hS
        cases b112
        ·have hS := hF rfl; clear hT hF
         refine Run.go rfl rfl rfl (sem_not false rfl ?_)
         refine Run.go rfl rfl rfl (sem_pick false ((Value.bool true)) rfl rfl ?_)
         refine Run.region_end ?_
         refine Run.condT rfl ?_
         refine Run.seq ?_
         refine Run.ops0 (idx := [0]) rfl ?_
         refine Run.go rfl rfl rfl (sem_assign ((Value.bool false)) rfl ?_)
         refine Run.region_end ?_
         refine Run.ret ⟨.inr rfl, ?_⟩
         exact hS.imp fun h' hq => ⟨(false), rfl, hq⟩
        ·have hS := hT rfl; clear hT hF
         refine Run.go rfl rfl rfl (sem_not true rfl ?_)
         refine Run.go rfl rfl rfl (sem_pick false ((Value.bool false)) rfl rfl ?_)
         refine Run.region_end ?_
         refine Run.condF rfl ?_
         refine Run.skip ?_
         refine Run.inBlock ?_
         refine Run.ops0 (idx := [0, 1]) rfl ?_
         refine Run.go rfl rfl rfl (sem_binI .i64 (i49) (1) ((Value.int .i64 (IntKind.wrap .i64 ((i49) + (1))))) rfl rfl rfl ?_)
         refine Run.go rfl rfl rfl (sem_move ((Value.int .i64 (IntKind.wrap .i64 ((i49) + (1))))) rfl ?_)
         refine Run.region_end ?_
         exact Run.of_fin (hS.imp fun h' ⟨m', hm, hS⟩ => ih53 (a69, n70, c71, (IntKind.wrap .i64 ((i49) + (1))), m') _ _ ⟨hS, ⟨rfl, rfl, rfl, rfl, rfl, trivial⟩⟩ hm)
      refine Run.seq ?_
      refine Run.ops0 (idx := [0, 1, 2]) rfl ?_
      refine Run.go rfl rfl rfl (sem_move ((Value.slice a78 n79 c80)) rfl ?_)
      refine Run.go rfl rfl rfl (sem_lenSl a78 n79 c80 rfl TF.sl_26 ?_)
      refine Run.go rfl rfl rfl (sem_move ((Value.int .i64 (0))) rfl ?_)
      refine Run.region_end ?_
      refine Run.block ?_
      obtain ⟨J118, m116, h0, hS⟩ := hS
      refine Run.of_fin (h0.imp fun h' h0 => ?_)
      refine Run.loop (σ := Int × Nat) (fun x e h => J118 x.1 x.2 h ∧ Agree [(3, (Value.pointer (some ⟨k8, 0, none⟩))), (4, (Value.slice a69 n70 c71)), (11, (Value.slice a74 n75 c76)), (12, (Value.slice a78 n79 c80)), (22, (Value.slice a1 n2 c3)), (23, (Value.int .i64 ((n2 : Nat)))), (24, (Value.int .i64 (i49))), (111, (Value.int .i64 ((n79 : Nat)))), (112, (Value.int .i64 (x.1)))] e) (fun x => x.2) ((0), m116) ⟨h0, ⟨rfl, rfl, rfl, rfl, rfl, rfl, rfl, rfl, rfl, trivial⟩⟩ ?_; clear h0
      rintro ⟨i113, m115⟩ e h114 ⟨hJ, hag⟩ ih117
      have hS := hS i113 m115 h114 hJ; clear hJ
      refine Run.env hag ?_; clear hag
      refine Run.seq ?_
      refine Run.ops0 (idx := [0]) rfl ?_
      obtain ⟨hT, hF⟩ := hS
      by_cases hb119 : (i113 : Int) < ((n79 : Nat))
      ·have hS := hT hb119; clear hT hF
       refine Run.go rfl rfl rfl (sem_binI .i64 (i113) ((n79 : Nat)) (.bool true) rfl rfl (binI_lss_t hb119) ?_)
       refine Run.region_end ?_
       refine Run.seq ?_
       refine Run.condT rfl ?_
       refine Run.skip ?_
       refine Run.seq ?_
       refine Run.block ?_
       refine Run.seq ?_
       refine Run.ops0 (idx := [0, 1]) rfl ?_
       refine Run.go rfl rfl rfl (sem_move ((Value.int .i64 (i113))) rfl ?_)
       refine Run.go rfl rfl rfl (sem_assign ((Value.int .i64 (i113))) rfl ?_)
       refine Run.region_end ?_
       refine Run.seq ?_
       refine Run.drawM (fun h' => h' = h114) [] ⟨[0, 0, 3, 4, 0, 0, 48, 64, 128, 264], [1023, 1023, 1020, 1019, 1023, 1023, 975, 959, 895, 759], [0, 0, 0, 0, 0, 0, 0, 0, 0, 0], 0⟩ (.q 0 (.q 1 (.q 2 (.q 3 (.q 4 (.q 5 (.q 6 (.q 7 (.q 8 (.q 9 .nil)))))))))) TF.mixed (by kernel_rfl) rfl ?_
       refine RunT.quiet rfl rfl rfl (quiet_eq (sem_move ((Value.slice a78 n79 c80)) rfl ⟨rfl, rfl⟩)) ?_
       refine RunT.quiet rfl rfl rfl (quiet_eq (sem_move ((Value.int .i64 (i113))) rfl ⟨rfl, rfl⟩)) ?_
       obtain ⟨A120, e121, hi0, hi1, hS⟩ := hS
       refine RunT.quiet rfl rfl rfl (quiet_eq (sem_indexAddrS A120 n79 c80 .i64 (i113) (congrArg (fun a => Value.slice a n79 c80) e121) rfl TF.slc_26 hi0 hi1 ⟨rfl, rfl⟩)) ?_
       obtain ⟨i122, hl, hS⟩ := hS
       refine RunT.quiet rfl rfl rfl (quiet_eq (sem_load1 (Addr.add A120 (Int.toNat (i113) * 1)) ((Value.int .i64 (i122))) rfl TF.agg_3 hl ⟨rfl, rfl⟩)) ?_
       refine RunT.quiet rfl rfl rfl (quiet_eq (sem_move ((Value.slice a74 n75 c76)) rfl ⟨rfl, rfl⟩)) ?_
       refine RunT.quiet rfl rfl rfl (quiet_eq (sem_move ((Value.int .i64 (i113))) rfl ⟨rfl, rfl⟩)) ?_
       obtain ⟨A123, e124, hi0, hi1, hS⟩ := hS
       refine RunT.quiet rfl rfl rfl (quiet_eq (sem_indexAddrS A123 n75 c76 .i64 (i113) (congrArg (fun a => Value.slice a n75 c76) e124) rfl TF.slc_30 hi0 hi1 ⟨rfl, rfl⟩)) ?_
       refine RunT.quiet rfl rfl rfl (quiet_eq (sem_fieldAddr (Addr.add A123 (Int.toNat (i113) * 3)) 1 rfl TF.fld_32_1 ⟨rfl, rfl⟩)) ?_
       obtain ⟨i125, hl, hS⟩ := hS
       refine RunT.quiet rfl rfl rfl (quiet_eq (sem_load1 (Addr.add (Addr.add A123 (Int.toNat (i113) * 3)) 1) ((Value.int .i64 (i125))) rfl TF.agg_3 hl ⟨rfl, rfl⟩)) ?_
       obtain ⟨hT, hF⟩ := hS
       by_cases hb126 : (i122 : Int) = i125
       ·have hS := hT hb126; clear hT hF
        refine RunT.quiet rfl rfl rfl (quiet_eq (sem_binI .i64 (i122) (i125) (.bool false) rfl rfl (binI_neq_t hb126) ⟨rfl, rfl⟩)) ?_
        refine Run.condF rfl ?_
        refine Run.skip ?_
        refine Run.inBlock ?_
        refine Run.ops0 (idx := [0, 1]) rfl ?_
        refine Run.go rfl rfl rfl (sem_binI .i64 (i113) (1) ((Value.int .i64 (IntKind.wrap .i64 ((i113) + (1))))) rfl rfl rfl ?_)
        refine Run.go rfl rfl rfl (sem_move ((Value.int .i64 (IntKind.wrap .i64 ((i113) + (1))))) rfl ?_)
        refine Run.region_end ?_
        exact Run.of_fin (hS.imp fun h' ⟨m', hm, hS⟩ => ih117 ((IntKind.wrap .i64 ((i113) + (1))), m') _ _ ⟨hS, ⟨rfl, rfl, rfl, rfl, rfl, rfl, rfl, rfl, rfl, trivial⟩⟩ hm)
       ·have hS := hF hb126; clear hT hF
        refine RunT.quiet rfl rfl rfl (quiet_eq (sem_binI .i64 (i122) (i125) (.bool true) rfl rfl (binI_neq_f hb126) ⟨rfl, rfl⟩)) ?_
        refine Run.condT rfl ?_
        refine Run.seq ?_
        refine Run.ops0 (idx := [0]) rfl ?_
        refine Run.go rfl rfl rfl (sem_assign ((Value.bool false)) rfl ?_)
        refine Run.region_end ?_
        refine Run.ret ⟨.inr rfl, ?_⟩
        exact hS.imp fun h' hq => ⟨(false), rfl, hq⟩
      ·have hS := hF hb119; clear hT hF
       refine Run.go rfl rfl rfl (sem_binI .i64 (i113) ((n79 : Nat)) (.bool false) rfl rfl (binI_lss_f hb119) ?_)
       refine Run.region_end ?_
       refine Run.seq ?_
       refine Run.condF rfl ?_
       refine Run.exit rfl ?_
       exact Run.of_fin (hS.imp fun h' hS => j83 _ _ ⟨⟨rfl, rfl, rfl, rfl, rfl, trivial⟩, hS⟩)
     refine Run.seq ?_
     refine Run.ops0 (idx := [0, 1, 2, 3, 4, 5, 6, 7, 8, 9, 10, 11]) rfl ?_
     refine Run.go rfl rfl rfl (sem_move ((Value.slice a78 n79 c80)) rfl ?_)
     refine Run.go rfl rfl rfl (sem_lenSl a78 n79 c80 rfl TF.sl_26 ?_)
     refine Run.go rfl rfl rfl (sem_move ((Value.slice a74 n75 c76)) rfl ?_)
     refine Run.go rfl rfl rfl (sem_lenSl a74 n75 c76 rfl TF.sl_30 ?_)
     obtain ⟨hT, hF⟩ := hS
     by_cases hb127 : ((n79 : Nat) : Int) = (n75 : Nat)
     ·have hS := hT hb127; clear hT hF
      refine Run.go rfl rfl rfl (sem_binI .i64 ((n79 : Nat)) ((n75 : Nat)) (.bool false) rfl rfl (binI_neq_t hb127) ?_)
      refine Run.go rfl rfl rfl (sem_move ((Value.bool false)) rfl ?_)
      refine Run.go rfl rfl rfl (sem_move ((Value.pointer (some ⟨k8, 0, none⟩))) rfl ?_)
      refine Run.go rfl rfl rfl (sem_callL [(Value.pointer (some ⟨k8, 0, none⟩))] (TF.goes_26) rfl rfl (Spec.mono hS fun v h128 hv => ?_))
      obtain ⟨i129, i130, i131, i132, rfl, hS⟩ := hv
      refine Run.go rfl rfl rfl (sem_move ((Value.slice a69 n70 c71)) rfl ?_)
      refine Run.go rfl rfl rfl (sem_callL [(Value.slice a69 n70 c71)] (TF.goes_27) rfl rfl (Spec.mono hS fun v h133 hv => ?_))
      obtain ⟨i134, i135, i136, i137, rfl, hS⟩ := hv
      obtain ⟨hT, hF⟩ := hS
      by_cases hb138 : eqL [(Value.int .i64 (i129)), (Value.int .i64 (i130)), (Value.int .i64 (i131)), (Value.int .i64 (i132))] [(Value.int .i64 (i134)), (Value.int .i64 (i135)), (Value.int .i64 (i136)), (Value.int .i64 (i137))] = true
      ·have hS := hT hb138; clear hT hF
       refine Run.go rfl rfl rfl (sem_aggEq [(Value.int .i64 (i129)), (Value.int .i64 (i130)), (Value.int .i64 (i131)), (Value.int .i64 (i132))] [(Value.int .i64 (i134)), (Value.int .i64 (i135)), (Value.int .i64 (i136)), (Value.int .i64 (i137))] _ (false) (.inr rfl) rfl rfl TF.agg_42 TF.flat_42 TF.eqg_42 ⟨⟨_, rfl⟩, ⟨_, rfl⟩, ⟨_, rfl⟩, ⟨_, rfl⟩, trivial⟩ ⟨⟨_, rfl⟩, ⟨_, rfl⟩, ⟨_, rfl⟩, ⟨_, rfl⟩, trivial⟩ (eqLT_neq hb138) ?_)
       refine Run.go rfl rfl rfl (sem_pick false ((Value.bool false)) rfl rfl ?_)
       refine Run.region_end ?_
       refine Run.condF rfl ?_
       refine Run.skip ?_
       exact Run.of_fin (hS.imp fun h' hS => j81 _ _ ⟨⟨rfl, rfl, rfl, rfl, rfl, rfl, rfl, trivial⟩, hS⟩)
      ·have hS := hF hb138; clear hT hF
       refine Run.go rfl rfl rfl (sem_aggEq [(Value.int .i64 (i129)), (Value.int .i64 (i130)), (Value.int .i64 (i131)), (Value.int .i64 (i132))] [(Value.int .i64 (i134)), (Value.int .i64 (i135)), (Value.int .i64 (i136)), (Value.int .i64 (i137))] _ (true) (.inr rfl) rfl rfl TF.agg_42 TF.flat_42 TF.eqg_42 ⟨⟨_, rfl⟩, ⟨_, rfl⟩, ⟨_, rfl⟩, ⟨_, rfl⟩, trivial⟩ ⟨⟨_, rfl⟩, ⟨_, rfl⟩, ⟨_, rfl⟩, ⟨_, rfl⟩, trivial⟩ (eqLF_neq hb138) ?_)
       refine Run.go rfl rfl rfl (sem_pick false ((Value.bool true)) rfl rfl ?_)
       refine Run.region_end ?_
       refine Run.condT rfl ?_
       refine Run.seq ?_
       refine Run.ops0 (idx := [0]) rfl ?_
       refine Run.go rfl rfl rfl (sem_assign ((Value.bool false)) rfl ?_)
       refine Run.region_end ?_
       refine Run.ret ⟨.inr rfl, ?_⟩
       exact hS.imp fun h' hq => ⟨(false), rfl, hq⟩
     ·have hS := hF hb127; clear hT hF
      refine Run.go rfl rfl rfl (sem_binI .i64 ((n79 : Nat)) ((n75 : Nat)) (.bool true) rfl rfl (binI_neq_f hb127) ?_)
      refine Run.go rfl rfl rfl (sem_move ((Value.bool true)) rfl ?_)
      refine Run.no rfl rfl rfl ?_
      refine Run.no rfl rfl rfl ?_
      refine Run.no rfl rfl rfl ?_
      refine Run.no rfl rfl rfl ?_
      refine Run.no rfl rfl rfl ?_
      refine Run.go rfl rfl rfl (sem_pick true ((Value.bool true)) rfl rfl ?_)
      refine Run.region_end ?_
      refine Run.condT rfl ?_
      refine Run.seq ?_
      refine Run.ops0 (idx := [0]) rfl ?_
      refine Run.go rfl rfl rfl (sem_assign ((Value.bool false)) rfl ?_)
      refine Run.region_end ?_
      refine Run.ret ⟨.inr rfl, ?_⟩
      exact hS.imp fun h' hq => ⟨(false), rfl, hq⟩
    refine Run.seq ?_
    refine Run.ops0 (idx := [0, 1, 2]) rfl ?_
    refine Run.go rfl rfl rfl (sem_fieldAddr ⟨k65, 0, none⟩ 0 rfl TF.fld_35_0 ?_)
    refine Run.go rfl rfl rfl (sem_fieldAddr ⟨k65, 0, none⟩ 0 rfl TF.fld_32_0 ?_)
    obtain ⟨i139, hl, hS⟩ := hS
    refine Run.go rfl rfl rfl (sem_load1 ⟨k65, 0, none⟩ ((Value.int .i64 (i139))) rfl TF.agg_3 hl ?_)
    refine Run.region_end ?_
    refine Run.block ?_
    refine Run.seqJ (fun e h142 => ∃ b141 : Bool, Agree [(3, (Value.pointer (some ⟨k8, 0, none⟩))), (4, (Value.slice a46 n47 c48)), (6, (Value.pointer (some ⟨k65, 0, none⟩))), (22, (Value.slice a1 n2 c3)), (23, (Value.int .i64 ((n2 : Nat)))), (24, (Value.int .i64 (i49))), (30, (Value.int .i64 (i139))), (31, (Value.bool b141))] e ∧ S_countermandlaw16_ActsDoes_J5 B a1 n2 c3 k8 a46 n47 c48 i49 m51 J54 i64 k65 i139 b141 h142 Q) ?_ fun j140 => ?_
    ·rintro e h142 ⟨b141, hag, hS⟩
     refine Run.env hag ?_; clear hag
     obtain ⟨hT, hF⟩ := hS
     cases b141
     ·have hS := hF rfl; clear hT hF
      refine Run.condF rfl ?_
      refine Run.seq ?_
      refine Run.ops0 (idx := [0, 1]) rfl ?_
      obtain ⟨hT, hF⟩ := hS
      by_cases hb143 : (i139 : Int) = 4
      ·have hS := hT hb143; clear hT hF
       refine Run.go rfl rfl rfl (sem_binI .i64 (i139) (4) (.bool true) rfl rfl (binI_eql_t hb143) ?_)
       refine Run.go rfl rfl rfl (sem_assign ((Value.bool true)) rfl ?_)
       refine Run.region_end ?_
       refine Run.condT rfl ?_
       refine Run.seqJ (fun e h145 => Agree [(3, (Value.pointer (some ⟨k8, 0, none⟩))), (4, (Value.slice a46 n47 c48)), (6, (Value.pointer (some ⟨k65, 0, none⟩))), (22, (Value.slice a1 n2 c3)), (23, (Value.int .i64 ((n2 : Nat)))), (24, (Value.int .i64 (i49)))] e ∧ S_countermandlaw16_ActsDoes_J6 B a1 n2 c3 k8 a46 n47 c48 i49 m51 J54 i64 k65 h145 Q) ?_ fun j144 => ?_
       ·rintro e h145 ⟨hag, hS⟩
        refine Run.env hag ?_; clear hag
        refine Run.seq ?_
        refine Run.ops0 (idx := [0, 1, 2, 3, 4, 5, 6, 7, 8]) rfl ?_
        refine Run.go rfl rfl rfl (sem_move ((Value.slice a46 n47 c48)) rfl ?_)
        refine Run.go rfl rfl rfl (sem_fieldAddr ⟨k65, 0, none⟩ 3 rfl TF.fld_35_1 ?_)
        obtain ⟨i146, i147, i148, i149, hl, hS⟩ := hS
        refine Run.go rfl rfl rfl (sem_loadN ⟨k65, 3, none⟩ [(Value.int .i64 (i146)), (Value.int .i64 (i147)), (Value.int .i64 (i148)), (Value.int .i64 (i149))] rfl TF.agg_33 TF.sz_33 hl ?_)
        refine Run.go rfl rfl rfl (sem_callL [(Value.slice a46 n47 c48), (Value.agg #[(Value.int .i64 (i146)), (Value.int .i64 (i147)), (Value.int .i64 (i148)), (Value.int .i64 (i149))])] (TF.goes_18) rfl rfl (Spec.mono hS fun v h150 hv => ?_))
        obtain ⟨a151, n152, c153, a154, n155, c156, rfl, hS⟩ := hv
        refine Run.go rfl rfl rfl (sem_move ((Value.tuple #[(Value.slice a151 n152 c153), (Value.slice a154 n155 c156)])) rfl ?_)
        refine Run.go rfl rfl rfl (sem_extract #[(Value.slice a151 n152 c153), (Value.slice a154 n155 c156)] ((Value.slice a151 n152 c153)) rfl rfl ?_)
        refine Run.go rfl rfl rfl (sem_extract #[(Value.slice a151 n152 c153), (Value.slice a154 n155 c156)] ((Value.slice a154 n155 c156)) rfl rfl ?_)
        refine Run.go rfl rfl rfl (sem_assign ((Value.slice a151 n152 c153)) rfl ?_)
        refine Run.go rfl rfl rfl (sem_assign ((Value.slice a154 n155 c156)) rfl ?_)
        refine Run.region_end ?_
        refine Run.seq ?_
        refine Run.seq ?_
        refine Run.ops0 (idx := [0, 1, 2, 3, 4, 5, 6, 7]) rfl ?_
        refine Run.go rfl rfl rfl (sem_move ((Value.pointer (some ⟨k8, 0, none⟩))) rfl ?_)
        refine Run.go rfl rfl rfl (sem_fieldAddr ⟨k65, 0, none⟩ 3 rfl TF.fld_35_1 ?_)
        obtain ⟨i157, i158, i159, i160, hl, hS⟩ := hS
        refine Run.go rfl rfl rfl (sem_loadN ⟨k65, 3, none⟩ [(Value.int .i64 (i157)), (Value.int .i64 (i158)), (Value.int .i64 (i159)), (Value.int .i64 (i160))] rfl TF.agg_33 TF.sz_33 hl ?_)
        refine Run.go rfl rfl rfl (sem_callL [(Value.pointer (some ⟨k8, 0, none⟩)), (Value.agg #[(Value.int .i64 (i157)), (Value.int .i64 (i158)), (Value.int .i64 (i159)), (Value.int .i64 (i160))])] (TF.goes_20) rfl rfl (Spec.mono hS fun v h161 hv => ?_))
        obtain ⟨a162, n163, c164, rfl, hS⟩ := hv
        refine Run.go rfl rfl rfl (sem_move ((Value.slice a154 n155 c156)) rfl ?_)
        refine Run.go rfl rfl rfl (sem_callL [(Value.slice a154 n155 c156)] (TF.goes_21) rfl rfl (Spec.mono hS fun v h165 hv => ?_))
        obtain ⟨a166, n167, c168, rfl, hS⟩ := hv
        refine Run.go rfl rfl rfl (sem_callL [(Value.slice a162 n163 c164), (Value.slice a166 n167 c168)] (TF.goes_19) rfl rfl (Spec.mono hS fun v h169 hv => ?_))
        obtain ⟨b170, rfl, hS⟩ := hv
        obtain ⟨hT, hF⟩ := hS
        cases b170
        ·have hS := hF rfl; clear hT hF
         refine Run.go rfl rfl rfl (sem_not false rfl ?_)
         refine Run.region_end ?_
         refine Run.condT rfl ?_
         refine Run.seq ?_
         refine Run.ops0 (idx := [0]) rfl ?_
         refine Run.go rfl rfl rfl (sem_assign ((Value.bool false)) rfl ?_)
         refine Run.region_end ?_
         refine Run.ret ⟨.inr rfl, ?_⟩
         exact hS.imp fun h' hq => ⟨(false), rfl, hq⟩
        ·have hS := hT rfl; clear hT hF
         refine Run.go rfl rfl rfl (sem_not true rfl ?_)
         refine Run.region_end ?_
         refine Run.condF rfl ?_
         refine Run.skip ?_
         refine Run.ops0 (idx := [0, 1]) rfl ?_
         refine Run.go rfl rfl rfl (sem_move ((Value.slice a151 n152 c153)) rfl ?_)
         refine Run.go rfl rfl rfl (sem_assign ((Value.slice a151 n152 c153)) rfl ?_)
         refine Run.region_end ?_
         refine Run.inBlock ?_
         exact Run.of_fin (hS.imp fun h' hS => j68 _ _ ⟨a151, n152, c153, ⟨rfl, rfl, rfl, rfl, rfl, trivial⟩, hS⟩)
       refine Run.seq ?_
       refine Run.ops0 (idx := [0, 1, 2]) rfl ?_
       refine Run.go rfl rfl rfl (sem_fieldAddr ⟨k65, 0, none⟩ 3 rfl TF.fld_35_1 ?_)
       obtain ⟨i171, i172, i173, i174, hl, hS⟩ := hS
       refine Run.go rfl rfl rfl (sem_loadN ⟨k65, 3, none⟩ [(Value.int .i64 (i171)), (Value.int .i64 (i172)), (Value.int .i64 (i173)), (Value.int .i64 (i174))] rfl TF.agg_33 TF.sz_33 hl ?_)
       refine Run.go rfl rfl rfl (sem_move ((Value.int .i64 (0))) rfl ?_)
       refine Run.region_end ?_
       refine Run.block ?_
       obtain ⟨J180, m178, h0, hS⟩ := hS
       refine Run.of_fin (h0.imp fun h' h0 => ?_)
       refine Run.loop (σ := Int × Nat) (fun x e h => J180 x.1 x.2 h ∧ Agree [(3, (Value.pointer (some ⟨k8, 0, none⟩))), (4, (Value.slice a46 n47 c48)), (6, (Value.pointer (some ⟨k65, 0, none⟩))), (22, (Value.slice a1 n2 c3)), (23, (Value.int .i64 ((n2 : Nat)))), (24, (Value.int .i64 (i49))), (55, (Value.agg #[(Value.int .i64 (i171)), (Value.int .i64 (i172)), (Value.int .i64 (i173)), (Value.int .i64 (i174))])), (56, (Value.int .i64 (x.1)))] e) (fun x => x.2) ((0), m178) ⟨h0, ⟨rfl, rfl, rfl, rfl, rfl, rfl, rfl, rfl, trivial⟩⟩ ?_; clear h0
       rintro ⟨i175, m177⟩ e h176 ⟨hJ, hag⟩ ih179
       have hS := hS i175 m177 h176 hJ; clear hJ
       refine Run.env hag ?_; clear hag
       refine Run.seq ?_
       refine Run.ops0 (idx := [0]) rfl ?_
       obtain ⟨hT, hF⟩ := hS
       by_cases hb181 : (i175 : Int) < (4)
       ·have hS := hT hb181; clear hT hF
        refine Run.go rfl rfl rfl (sem_binI .i64 (i175) (4) (.bool true) rfl rfl (binI_lss_t hb181) ?_)
        refine Run.region_end ?_
        refine Run.seq ?_
        refine Run.condT rfl ?_
        refine Run.skip ?_
        refine Run.seq ?_
        refine Run.block ?_
        refine Run.seq ?_
        refine Run.ops0 (idx := [0, 1]) rfl ?_
        obtain ⟨hi0, hi1, i182, hix, hS⟩ := hS
        refine Run.go rfl rfl rfl (sem_indexArr #[(Value.int .i64 (i171)), (Value.int .i64 (i172)), (Value.int .i64 (i173)), (Value.int .i64 (i174))] (Value.int .i64 (i182)) .i64 (i175) rfl rfl TF.arr_33 hi0 hi1 hix ?_)
        refine Run.go rfl rfl rfl (sem_assign ((Value.int .i64 (i182))) rfl ?_)
        refine Run.region_end ?_
        refine Run.seq ?_
        refine Run.ops0 (idx := [0, 1]) rfl ?_
        refine Run.go rfl rfl rfl (sem_move ((Value.int .i64 (i182))) rfl ?_)
        obtain ⟨hT, hF⟩ := hS
        by_cases hb183 : (i182 : Int) < (0)
        ·have hS := hT hb183; clear hT hF
         refine Run.go rfl rfl rfl (sem_binI .i64 (i182) (0) (.bool true) rfl rfl (binI_lss_t hb183) ?_)
         refine Run.region_end ?_
         refine Run.condT rfl ?_
         refine Run.seq ?_
         refine Run.ops0 (idx := [0]) rfl ?_
         refine Run.go rfl rfl rfl (sem_assign ((Value.bool true)) rfl ?_)
         refine Run.region_end ?_
         refine Run.ret ⟨.inr rfl, ?_⟩
         exact hS.imp fun h' hq => ⟨(true), rfl, hq⟩
        ·have hS := hF hb183; clear hT hF
         refine Run.go rfl rfl rfl (sem_binI .i64 (i182) (0) (.bool false) rfl rfl (binI_lss_f hb183) ?_)
         refine Run.region_end ?_
         refine Run.condF rfl ?_
         refine Run.skip ?_
         refine Run.inBlock ?_
         refine Run.ops0 (idx := [0, 1]) rfl ?_
         refine Run.go rfl rfl rfl (sem_binI .i64 (i175) (1) ((Value.int .i64 (IntKind.wrap .i64 ((i175) + (1))))) rfl rfl rfl ?_)
         refine Run.go rfl rfl rfl (sem_move ((Value.int .i64 (IntKind.wrap .i64 ((i175) + (1))))) rfl ?_)
         refine Run.region_end ?_
         exact Run.of_fin (hS.imp fun h' ⟨m', hm, hS⟩ => ih179 ((IntKind.wrap .i64 ((i175) + (1))), m') _ _ ⟨hS, ⟨rfl, rfl, rfl, rfl, rfl, rfl, rfl, rfl, trivial⟩⟩ hm)
       ·have hS := hF hb181; clear hT hF
        refine Run.go rfl rfl rfl (sem_binI .i64 (i175) (4) (.bool false) rfl rfl (binI_lss_f hb181) ?_)
        refine Run.region_end ?_
        refine Run.seq ?_
        refine Run.condF rfl ?_
        refine Run.exit rfl ?_
        exact Run.of_fin (hS.imp fun h' hS => j144 _ _ ⟨⟨rfl, rfl, rfl, rfl, rfl, rfl, trivial⟩, hS⟩)
      ·have hS := hF hb143; clear hT hF
       refine Run.go rfl rfl rfl (sem_binI .i64 (i139) (4) (.bool false) rfl rfl (binI_eql_f hb143) ?_)
       refine Run.go rfl rfl rfl (sem_assign ((Value.bool false)) rfl ?_)
       refine Run.region_end ?_
       refine Run.condF rfl ?_
       refine Run.seq ?_
       refine Run.ops0 (idx := [0, 1]) rfl ?_
       obtain ⟨hT, hF⟩ := hS
       by_cases hb184 : (i139 : Int) = 5
       ·have hS := hT hb184; clear hT hF
        refine Run.go rfl rfl rfl (sem_binI .i64 (i139) (5) (.bool true) rfl rfl (binI_eql_t hb184) ?_)
        refine Run.go rfl rfl rfl (sem_assign ((Value.bool true)) rfl ?_)
        refine Run.region_end ?_
        refine Run.condT rfl ?_
        refine Run.seq ?_
        refine Run.seq ?_
        refine Run.ops0 (idx := [0, 1, 2, 3, 4, 5]) rfl ?_
        refine Run.go rfl rfl rfl (sem_move ((Value.pointer (some ⟨k8, 0, none⟩))) rfl ?_)
        refine Run.go rfl rfl rfl (sem_callL [(Value.pointer (some ⟨k8, 0, none⟩))] (TF.goes_23) rfl rfl (Spec.mono hS fun v h185 hv => ?_))
        obtain ⟨a186, n187, c188, rfl, hS⟩ := hv
        refine Run.go rfl rfl rfl (sem_move ((Value.slice a46 n47 c48)) rfl ?_)
        refine Run.go rfl rfl rfl (sem_callL [(Value.slice a46 n47 c48), (Value.int .i64 (0))] (TF.goes_24) rfl rfl (Spec.mono hS fun v h189 hv => ?_))
        obtain ⟨a190, n191, c192, rfl, hS⟩ := hv
        refine Run.go rfl rfl rfl (sem_callL [(Value.slice a186 n187 c188), (Value.slice a190 n191 c192)] (TF.goes_22) rfl rfl (Spec.mono hS fun v h193 hv => ?_))
        obtain ⟨b194, rfl, hS⟩ := hv
        obtain ⟨hT, hF⟩ := hS
        cases b194
        ·have hS := hF rfl; clear hT hF
         refine Run.go rfl rfl rfl (sem_not false rfl ?_)
         refine Run.region_end ?_
         refine Run.condT rfl ?_
         refine Run.seq ?_
         refine Run.ops0 (idx := [0]) rfl ?_
         refine Run.go rfl rfl rfl (sem_assign ((Value.bool false)) rfl ?_)
         refine Run.region_end ?_
         refine Run.ret ⟨.inr rfl, ?_⟩
         exact hS.imp fun h' hq => ⟨(false), rfl, hq⟩
        ·have hS := hT rfl; clear hT hF
         refine Run.go rfl rfl rfl (sem_not true rfl ?_)
         refine Run.region_end ?_
         refine Run.condF rfl ?_
         refine Run.skip ?_
         refine Run.ops0 (idx := [0, 1, 2, 3, 4, 5, 6, 7, 8]) rfl ?_
         refine Run.go rfl rfl rfl (sem_move ((Value.slice a46 n47 c48)) rfl ?_)
         refine Run.go rfl rfl rfl (sem_move ((Value.slice a46 n47 c48)) rfl ?_)
         refine Run.go rfl rfl rfl (sem_lenSl a46 n47 c48 rfl TF.sl_30 ?_)
         refine Run.go rfl rfl rfl (sem_buildAL [(0, (Value.int .i64 ((n47 : Nat)))), (1, (Value.int .i64 (0))), (2, (Value.int .i64 (0))), (3, (Value.int .i64 (0)))] [(Value.int .i64 ((n47 : Nat))), (Value.int .i64 (0)), (Value.int .i64 (0)), (Value.int .i64 (0))] TF.zero_33 TF.arr_33 rfl rfl ?_)
         refine Run.go rfl rfl rfl (sem_callL [(Value.slice a46 n47 c48), (Value.agg #[(Value.int .i64 ((n47 : Nat))), (Value.int .i64 (0)), (Value.int .i64 (0)), (Value.int .i64 (0))])] (TF.goes_18) rfl rfl (Spec.mono hS fun v h195 hv => ?_))
         obtain ⟨a196, n197, c198, a199, n200, c201, rfl, hS⟩ := hv
         refine Run.go rfl rfl rfl (sem_move ((Value.tuple #[(Value.slice a196 n197 c198), (Value.slice a199 n200 c201)])) rfl ?_)
         refine Run.go rfl rfl rfl (sem_extract #[(Value.slice a196 n197 c198), (Value.slice a199 n200 c201)] ((Value.slice a196 n197 c198)) rfl rfl ?_)
         refine Run.go rfl rfl rfl (sem_extract #[(Value.slice a196 n197 c198), (Value.slice a199 n200 c201)] ((Value.slice a199 n200 c201)) rfl rfl ?_)
         refine Run.go rfl rfl rfl (sem_assign ((Value.slice a199 n200 c201)) rfl ?_)
         refine Run.region_end ?_
         refine Run.inBlock ?_
         exact Run.of_fin (hS.imp fun h' hS => j68 _ _ ⟨a199, n200, c201, ⟨rfl, rfl, rfl, rfl, rfl, trivial⟩, hS⟩)
       ·have hS := hF hb184; clear hT hF
        refine Run.go rfl rfl rfl (sem_binI .i64 (i139) (5) (.bool false) rfl rfl (binI_eql_f hb184) ?_)
        refine Run.go rfl rfl rfl (sem_assign ((Value.bool false)) rfl ?_)
        refine Run.region_end ?_
        refine Run.condF rfl ?_
        refine Run.seq ?_
        refine Run.ops0 (idx := [0]) rfl ?_
        refine Run.go rfl rfl rfl (sem_assign ((Value.bool true)) rfl ?_)
        refine Run.region_end ?_
        refine Run.ret ⟨.inr rfl, ?_⟩
        exact hS.imp fun h' hq => ⟨(true), rfl, hq⟩
     ·have hS := hT rfl; clear hT hF
      refine Run.condT rfl ?_
      refine Run.seq ?_
      refine Run.seq ?_
      skip
      skip
      obtain ⟨i204, i205, i206, hl, hS⟩ := hS
      have f207 := hl
      skip
      obtain ⟨i209, i210, i211, hl, hS⟩ := hS
      have f212 := hl
      refine Run.drawM (fun h' => CellsAt B h' ⟨k65, 0, none⟩ 0 [(Value.int .i64 (i204)), (Value.int .i64 (i205)), (Value.int .i64 (i206))] ∧ CellsAt B h' ⟨k65, 0, none⟩ 0 [(Value.int .i64 (i209)), (Value.int .i64 (i210)), (Value.int .i64 (i211))] ∧ True) [] ⟨[0, 0, 2, 5, 0, 16, 40, 72], [255, 255, 253, 250, 255, 239, 223, 183], [0, 0, 0, 0, 0, 0, 0, 0], 0⟩ (.q 0 (.q 1 (.q 2 (.q 4 (.q 5 (.x 3 (.x 6 (.q 7 .nil) .no) .no)))))) TF.mixed (by kernel_rfl) ⟨f207, f212, trivial⟩ ?_
      refine RunT.quiet rfl rfl rfl (fun h' hC => sem_move ((Value.pointer (some ⟨k8, 0, none⟩))) rfl ⟨rfl, rfl⟩) ?_
      refine RunT.quiet rfl rfl rfl (fun h' hC => sem_fieldAddr ⟨k65, 0, none⟩ 0 rfl TF.fld_35_0 ⟨rfl, rfl⟩) ?_
      refine RunT.quiet rfl rfl rfl (fun h' hC => sem_loadN ⟨k65, 0, none⟩ [(Value.int .i64 (i204)), (Value.int .i64 (i205)), (Value.int .i64 (i206))] rfl TF.agg_32 TF.sz_32 hC.1 ⟨rfl, rfl⟩) ?_
      refine RunT.quiet rfl rfl rfl (fun h' hC => sem_fieldAddr ⟨k65, 0, none⟩ 0 rfl TF.fld_35_0 ⟨rfl, rfl⟩) ?_
      refine RunT.quiet rfl rfl rfl (fun h' hC => sem_loadN ⟨k65, 0, none⟩ [(Value.int .i64 (i209)), (Value.int .i64 (i210)), (Value.int .i64 (i211))] rfl TF.agg_32 TF.sz_32 hC.2.1 ⟨rfl, rfl⟩) ?_
      refine ⟨?_, trivial⟩
      refine OpH.go rfl rfl rfl (sem_callL [(Value.pointer (some ⟨k8, 0, none⟩)), (Value.agg #[(Value.int .i64 (i204)), (Value.int .i64 (i205)), (Value.int .i64 (i206))])] (TF.goes_16) rfl rfl (Spec.mono hS fun v h213 hv => ?_))
      obtain ⟨b214, rfl, hS⟩ := hv
      obtain ⟨g215, g216, hS⟩ := hS
      refine ⟨fun _ => ⟨g215, g216, trivial⟩, ?_⟩
      refine ⟨?_, trivial⟩
      refine OpH.go rfl rfl rfl (sem_callL [(Value.agg #[(Value.int .i64 (i209)), (Value.int .i64 (i210)), (Value.int .i64 (i211))])] (TF.goes_17) rfl rfl (Spec.mono hS fun v h217 hv => ?_))
      obtain ⟨b218, rfl, hS⟩ := hv
      obtain ⟨g219, g220, hS⟩ := hS
      refine ⟨fun _ => ⟨g219, g220, trivial⟩, ?_⟩
      obtain ⟨hT, hF⟩ := hS
      by_cases hb221 : b214 = b218
      ·have hS := hT hb221; clear hT hF
       refine RunT.quiet rfl rfl rfl (fun h' hC => sem_boolEqT b214 b218 (.inr rfl) false rfl rfl TF.bool_4 hb221 rfl ⟨rfl, rfl⟩) ?_
       refine Run.condF rfl ?_
       refine Run.skip ?_
       refine Run.seq ?_
       refine Run.ops0 (idx := [0, 1, 2]) rfl ?_
       refine Run.go rfl rfl rfl (sem_fieldAddr ⟨k65, 0, none⟩ 0 rfl TF.fld_35_0 ?_)
       obtain ⟨i222, i223, i224, hl, hS⟩ := hS
       refine Run.go rfl rfl rfl (sem_loadN ⟨k65, 0, none⟩ [(Value.int .i64 (i222)), (Value.int .i64 (i223)), (Value.int .i64 (i224))] rfl TF.agg_32 TF.sz_32 hl ?_)
       refine Run.go rfl rfl rfl (sem_callL [(Value.agg #[(Value.int .i64 (i222)), (Value.int .i64 (i223)), (Value.int .i64 (i224))])] (TF.goes_17) rfl rfl (Spec.mono hS fun v h225 hv => ?_))
       obtain ⟨b226, rfl, hS⟩ := hv
       obtain ⟨hT, hF⟩ := hS
       cases b226
       ·have hS := hF rfl; clear hT hF
        refine Run.region_end ?_
        refine Run.condF rfl ?_
        refine Run.skip ?_
        refine Run.inBlock ?_
        exact Run.of_fin (hS.imp fun h' hS => j68 _ _ ⟨a46, n47, c48, ⟨rfl, rfl, rfl, rfl, rfl, trivial⟩, hS⟩)
       ·have hS := hT rfl; clear hT hF
        refine Run.region_end ?_
        refine Run.condT rfl ?_
        refine Run.ops0 (idx := [0, 1, 2, 3, 4, 5]) rfl ?_
        refine Run.go rfl rfl rfl (sem_move ((Value.slice a46 n47 c48)) rfl ?_)
        refine Run.go rfl rfl rfl (sem_fieldAddr ⟨k65, 0, none⟩ 0 rfl TF.fld_35_0 ?_)
        obtain ⟨i227, i228, i229, hl, hS⟩ := hS
        refine Run.go rfl rfl rfl (sem_loadN ⟨k65, 0, none⟩ [(Value.int .i64 (i227)), (Value.int .i64 (i228)), (Value.int .i64 (i229))] rfl TF.agg_32 TF.sz_32 hl ?_)
        refine Run.go rfl rfl rfl (sem_buildSliceL [(0, (Value.agg #[(Value.int .i64 (i227)), (Value.int .i64 (i228)), (Value.int .i64 (i229))]))] [(Value.int .i64 (i227)), (Value.int .i64 (i228)), (Value.int .i64 (i229))] TF.slc_30 TF.zero_32 rfl (by decide) (by decide) rfl rfl (fun k230 hb1 hb2 h231 hb3 => ?_))
        have hS := hS k230 hb1 hb2 h231 hb3
        refine Run.go rfl rfl rfl (sem_appendL [(Value.slice a46 n47 c48), (Value.slice (some ⟨k230, 0, none⟩) 1 1)] rfl (semH_mono (fun v h232 hv => ?_) hS))
        obtain ⟨a233, n234, c235, rfl, hS⟩ := hv
        refine Run.go rfl rfl rfl (sem_assign ((Value.slice a233 n234 c235)) rfl ?_)
        refine Run.region_end ?_
        refine Run.inBlock ?_
        exact Run.of_fin (hS.imp fun h' hS => j68 _ _ ⟨a233, n234, c235, ⟨rfl, rfl, rfl, rfl, rfl, trivial⟩, hS⟩)
      ·have hS := hF hb221; clear hT hF
       refine RunT.quiet rfl rfl rfl (fun h' hC => sem_boolEqF b214 b218 (.inr rfl) true rfl rfl TF.bool_4 hb221 rfl ⟨rfl, rfl⟩) ?_
       refine Run.condT rfl ?_
       refine Run.seq ?_
       refine Run.ops0 (idx := [0]) rfl ?_
       refine Run.go rfl rfl rfl (sem_assign ((Value.bool false)) rfl ?_)
       refine Run.region_end ?_
       refine Run.ret ⟨.inr rfl, ?_⟩
       exact hS.imp fun h' hq => ⟨(false), rfl, hq⟩
    refine Run.seq ?_
    refine Run.ops0 (idx := [0, 1]) rfl ?_
    obtain ⟨hT, hF⟩ := hS
    by_cases hb236 : (i139 : Int) = 0
    ·have hS := hT hb236; clear hT hF
     refine Run.go rfl rfl rfl (sem_binI .i64 (i139) (0) (.bool true) rfl rfl (binI_eql_t hb236) ?_)
     refine Run.go rfl rfl rfl (sem_assign ((Value.bool true)) rfl ?_)
     refine Run.region_end ?_
     refine Run.condT rfl ?_
     refine Run.skip ?_
     exact Run.of_fin (hS.imp fun h' hS => j140 _ _ ⟨(true), ⟨rfl, rfl, rfl, rfl, rfl, rfl, rfl, rfl, trivial⟩, hS⟩)
    ·have hS := hF hb236; clear hT hF
     refine Run.go rfl rfl rfl (sem_binI .i64 (i139) (0) (.bool false) rfl rfl (binI_eql_f hb236) ?_)
     refine Run.go rfl rfl rfl (sem_assign ((Value.bool false)) rfl ?_)
     refine Run.region_end ?_
     refine Run.condF rfl ?_
     refine Run.seq ?_
     refine Run.ops0 (idx := [0, 1]) rfl ?_
     obtain ⟨hT, hF⟩ := hS
     by_cases hb237 : (i139 : Int) = 1
     ·have hS := hT hb237; clear hT hF
      refine Run.go rfl rfl rfl (sem_binI .i64 (i139) (1) (.bool true) rfl rfl (binI_eql_t hb237) ?_)
      refine Run.go rfl rfl rfl (sem_assign ((Value.bool true)) rfl ?_)
      refine Run.region_end ?_
      refine Run.condT rfl ?_
      refine Run.skip ?_
      exact Run.of_fin (hS.imp fun h' hS => j140 _ _ ⟨(true), ⟨rfl, rfl, rfl, rfl, rfl, rfl, rfl, rfl, trivial⟩, hS⟩)
     ·have hS := hF hb237; clear hT hF
      refine Run.go rfl rfl rfl (sem_binI .i64 (i139) (1) (.bool false) rfl rfl (binI_eql_f hb237) ?_)
      refine Run.go rfl rfl rfl (sem_assign ((Value.bool false)) rfl ?_)
      refine Run.region_end ?_
      refine Run.condF rfl ?_
      refine Run.seq ?_
      refine Run.ops0 (idx := [0, 1]) rfl ?_
      obtain ⟨hT, hF⟩ := hS
      by_cases hb238 : (i139 : Int) = 2
      ·have hS := hT hb238; clear hT hF
       refine Run.go rfl rfl rfl (sem_binI .i64 (i139) (2) (.bool true) rfl rfl (binI_eql_t hb238) ?_)
       refine Run.go rfl rfl rfl (sem_assign ((Value.bool true)) rfl ?_)
       refine Run.region_end ?_
       refine Run.condT rfl ?_
       refine Run.skip ?_
       exact Run.of_fin (hS.imp fun h' hS => j140 _ _ ⟨(true), ⟨rfl, rfl, rfl, rfl, rfl, rfl, rfl, rfl, trivial⟩, hS⟩)
      ·have hS := hF hb238; clear hT hF
       refine Run.go rfl rfl rfl (sem_binI .i64 (i139) (2) (.bool false) rfl rfl (binI_eql_f hb238) ?_)
       refine Run.go rfl rfl rfl (sem_assign ((Value.bool false)) rfl ?_)
       refine Run.region_end ?_
       refine Run.condF rfl ?_
       refine Run.ops0 (idx := [0, 1]) rfl ?_
       obtain ⟨hT, hF⟩ := hS
       by_cases hb239 : (i139 : Int) = 3
       ·have hS := hT hb239; clear hT hF
        refine Run.go rfl rfl rfl (sem_binI .i64 (i139) (3) (.bool true) rfl rfl (binI_eql_t hb239) ?_)
        refine Run.go rfl rfl rfl (sem_assign ((Value.bool true)) rfl ?_)
        refine Run.region_end ?_
        exact Run.of_fin (hS.imp fun h' hS => j140 _ _ ⟨(true), ⟨rfl, rfl, rfl, rfl, rfl, rfl, rfl, rfl, trivial⟩, hS⟩)
       ·have hS := hF hb239; clear hT hF
        refine Run.go rfl rfl rfl (sem_binI .i64 (i139) (3) (.bool false) rfl rfl (binI_eql_f hb239) ?_)
        refine Run.go rfl rfl rfl (sem_assign ((Value.bool false)) rfl ?_)
        refine Run.region_end ?_
        exact Run.of_fin (hS.imp fun h' hS => j140 _ _ ⟨(false), ⟨rfl, rfl, rfl, rfl, rfl, rfl, rfl, rfl, trivial⟩, hS⟩)
   ·have hS := hF hb55; clear hT hF
    refine Run.go rfl rfl rfl (sem_binI .i64 (i49) ((n2 : Nat)) (.bool false) rfl rfl (binI_lss_f hb55) ?_)
    refine Run.region_end ?_
    refine Run.seq ?_
    refine Run.condF rfl ?_
    refine Run.exit rfl ?_
    exact Run.of_fin (hS.imp fun h' hS => j10 _ _ ⟨trivial, hS⟩)
set_option maxHeartbeats 4000000 in
theorem C_countermandlaw16_alive.of {B : RO} {h : Heap} {Q : Bool → Heap → Prop} (hS : S_countermandlaw16_alive B h Q) : C_countermandlaw16_alive B h Q := by
 unfold S_countermandlaw16_alive at hS
 unfold C_countermandlaw16_alive
 refine Spec.of_run Try.func15 (N := 25) (rs := [ResultVar.tmp 0]) rfl rfl rfl (Nat.le_of_ble_eq_true rfl) ?_
 refine Run.seq ?_
 refine Run.ops0 (idx := [0]) rfl ?_
 refine Run.go rfl rfl rfl (sem_assign ((Value.bool false)) rfl ?_)
 refine Run.region_end ?_
 refine Run.seq ?_
 refine Run.ops0 (idx := [0, 1, 2]) rfl ?_
 refine Run.go rfl rfl rfl (sem_buildSL [] [(Value.slice none 0 0), (Value.slice none 0 0), (Value.slice none 0 0), (Value.slice none 0 0)] TF.zero_29 TF.places_29 rfl rfl ?_)
 refine Run.go rfl rfl rfl (sem_boxNN [(Value.slice none 0 0), (Value.slice none 0 0), (Value.slice none 0 0), (Value.slice none 0 0)] rfl (fun k2 hb1 hb2 h3 hb3 => ?_))
 have hS := hS k2 hb1 hb2 h3 hb3
 refine Run.go rfl rfl rfl (sem_assign ((Value.pointer (some ⟨k2, 0, none⟩))) rfl ?_)
 refine Run.region_end ?_
 refine Run.seqJ (fun e h5 => Agree [(1, (Value.pointer (some ⟨k2, 0, none⟩)))] e ∧ S_countermandlaw16_alive_J1 B k2 h5 Q) ?_ fun j4 => ?_
 ·rintro e h5 ⟨hag, hS⟩
  refine Run.env hag ?_; clear hag
  refine Run.seq ?_
  refine Run.ops0 (idx := [0, 1, 2]) rfl ?_
  refine Run.go rfl rfl rfl (sem_move ((Value.pointer (some ⟨k2, 0, none⟩))) rfl ?_)
  refine Run.go rfl rfl rfl (sem_callL [(Value.pointer (some ⟨k2, 0, none⟩))] (TF.goes_29) rfl rfl (Spec.mono hS fun v h6 hv => ?_))
  obtain ⟨a7, n8, c9, rfl, hS⟩ := hv
  refine Run.go rfl rfl rfl (sem_assign ((Value.slice a7 n8 c9)) rfl ?_)
  refine Run.region_end ?_
  refine Run.seq ?_
  refine Run.ops0 (idx := [0, 1, 2, 3, 4, 5, 6, 7, 8, 9, 10]) rfl ?_
  refine Run.go rfl rfl rfl (sem_move ((Value.slice a7 n8 c9)) rfl ?_)
  refine Run.go rfl rfl rfl (sem_lenSl a7 n8 c9 rfl TF.sl_27 ?_)
  obtain ⟨hT, hF⟩ := hS
  by_cases hb10 : ((n8 : Nat) : Int) = 2
  ·have hS := hT hb10; clear hT hF
   refine Run.go rfl rfl rfl (sem_binI .i64 ((n8 : Nat)) (2) (.bool true) rfl rfl (binI_eql_t hb10) ?_)
   refine Run.go rfl rfl rfl (sem_move ((Value.bool true)) rfl ?_)
   refine Run.go rfl rfl rfl (sem_move ((Value.slice a7 n8 c9)) rfl ?_)
   obtain ⟨A11, e12, hi0, hi1, hS⟩ := hS
   refine Run.go rfl rfl rfl (sem_indexAddrS A11 n8 c9 .i64 (0) (congrArg (fun a => Value.slice a n8 c9) e12) rfl TF.slc_27 hi0 hi1 ?_)
   obtain ⟨i13, i14, hl, hS⟩ := hS
   refine Run.go rfl rfl rfl (sem_loadN (Addr.add A11 (Int.toNat (0) * 2)) [(Value.int .i64 (i13)), (Value.int .i64 (i14))] rfl TF.agg_160 TF.sz_160 hl ?_)
   refine Run.go rfl rfl rfl (sem_buildSL [(0, (Value.int .i64 (2))), (1, (Value.int .i64 ((-3))))] [(Value.int .i64 (2)), (Value.int .i64 ((-3)))] TF.zero_160 TF.places_160 rfl rfl ?_)
   refine Run.go rfl rfl rfl (sem_aggEq [(Value.int .i64 (i13)), (Value.int .i64 (i14))] [(Value.int .i64 (2)), (Value.int .i64 ((-3)))] _ ((decide (eqL [(Value.int .i64 (i13)), (Value.int .i64 (i14))] [(Value.int .i64 (2)), (Value.int .i64 ((-3)))] = true))) (.inl rfl) rfl rfl TF.agg_160 TF.flat_160 TF.eqg_160 ⟨⟨_, rfl⟩, ⟨_, rfl⟩, trivial⟩ ⟨⟨_, rfl⟩, ⟨_, rfl⟩, trivial⟩ eqLV_eql ?_)
   refine Run.go rfl rfl rfl (sem_pick true ((Value.bool (decide (eqL [(Value.int .i64 (i13)), (Value.int .i64 (i14))] [(Value.int .i64 (2)), (Value.int .i64 ((-3)))] = true)))) rfl rfl ?_)
   refine Run.go rfl rfl rfl (sem_assign ((Value.bool (decide (eqL [(Value.int .i64 (i13)), (Value.int .i64 (i14))] [(Value.int .i64 (2)), (Value.int .i64 ((-3)))] = true)))) rfl ?_)
   refine Run.region_end ?_
   refine Run.ret ⟨.inr rfl, ?_⟩
   exact hS.imp fun h' hq => ⟨((decide (eqL [(Value.int .i64 (i13)), (Value.int .i64 (i14))] [(Value.int .i64 (2)), (Value.int .i64 ((-3)))] = true))), rfl, hq⟩
  ·have hS := hF hb10; clear hT hF
   refine Run.go rfl rfl rfl (sem_binI .i64 ((n8 : Nat)) (2) (.bool false) rfl rfl (binI_eql_f hb10) ?_)
   refine Run.go rfl rfl rfl (sem_move ((Value.bool false)) rfl ?_)
   refine Run.no rfl rfl rfl ?_
   refine Run.no rfl rfl rfl ?_
   refine Run.no rfl rfl rfl ?_
   refine Run.no rfl rfl rfl ?_
   refine Run.no rfl rfl rfl ?_
   refine Run.go rfl rfl rfl (sem_pick false ((Value.bool false)) rfl rfl ?_)
   refine Run.go rfl rfl rfl (sem_assign ((Value.bool false)) rfl ?_)
   refine Run.region_end ?_
   refine Run.ret ⟨.inr rfl, ?_⟩
   exact hS.imp fun h' hq => ⟨(false), rfl, hq⟩
 refine Run.seq ?_
 refine Run.ops0 (idx := [0, 1, 2, 3, 4, 5, 6, 7]) rfl ?_
 refine Run.go rfl rfl rfl (sem_move ((Value.pointer (some ⟨k2, 0, none⟩))) rfl ?_)
 refine Run.go rfl rfl rfl (sem_callL [(Value.pointer (some ⟨k2, 0, none⟩)), (Value.int .i64 (1)), (Value.int .i64 (5))] (TF.goes_33) rfl rfl (Spec.mono hS fun v h15 hv => ?_))
 obtain ⟨b16, rfl, hS⟩ := hv
 obtain ⟨hT, hF⟩ := hS
 cases b16
 ·have hS := hF rfl; clear hT hF
  refine Run.go rfl rfl rfl (sem_not false rfl ?_)
  refine Run.go rfl rfl rfl (sem_move ((Value.bool true)) rfl ?_)
  refine Run.no rfl rfl rfl ?_
  refine Run.no rfl rfl rfl ?_
  refine Run.no rfl rfl rfl ?_
  refine Run.go rfl rfl rfl (sem_pick true ((Value.bool true)) rfl rfl ?_)
  refine Run.region_end ?_
  refine Run.condT rfl ?_
  refine Run.seq ?_
  refine Run.ops0 (idx := [0]) rfl ?_
  refine Run.go rfl rfl rfl (sem_assign ((Value.bool false)) rfl ?_)
  refine Run.region_end ?_
  refine Run.ret ⟨.inr rfl, ?_⟩
  exact hS.imp fun h' hq => ⟨(false), rfl, hq⟩
 ·have hS := hT rfl; clear hT hF
  refine Run.go rfl rfl rfl (sem_not true rfl ?_)
  refine Run.go rfl rfl rfl (sem_move ((Value.bool false)) rfl ?_)
  refine Run.go rfl rfl rfl (sem_move ((Value.pointer (some ⟨k2, 0, none⟩))) rfl ?_)
  refine Run.go rfl rfl rfl (sem_callL [(Value.pointer (some ⟨k2, 0, none⟩)), (Value.int .i64 (2)), (Value.int .i64 (3))] (TF.goes_33) rfl rfl (Spec.mono hS fun v h17 hv => ?_))
  obtain ⟨b18, rfl, hS⟩ := hv
  obtain ⟨hT, hF⟩ := hS
  cases b18
  ·have hS := hF rfl; clear hT hF
   refine Run.go rfl rfl rfl (sem_not false rfl ?_)
   refine Run.go rfl rfl rfl (sem_pick false ((Value.bool true)) rfl rfl ?_)
   refine Run.region_end ?_
   refine Run.condT rfl ?_
   refine Run.seq ?_
   refine Run.ops0 (idx := [0]) rfl ?_
   refine Run.go rfl rfl rfl (sem_assign ((Value.bool false)) rfl ?_)
   refine Run.region_end ?_
   refine Run.ret ⟨.inr rfl, ?_⟩
   exact hS.imp fun h' hq => ⟨(false), rfl, hq⟩
  ·have hS := hT rfl; clear hT hF
   refine Run.go rfl rfl rfl (sem_not true rfl ?_)
   refine Run.go rfl rfl rfl (sem_pick false ((Value.bool false)) rfl rfl ?_)
   refine Run.region_end ?_
   refine Run.condF rfl ?_
   refine Run.skip ?_
   exact Run.of_fin (hS.imp fun h' hS => j4 _ _ ⟨⟨rfl, trivial⟩, hS⟩)
set_option maxHeartbeats 4000000 in
theorem C_countermandlaw16_does.of {B : RO} {p1 : Option Addr} {i2 : Int} {i3 : Int} {i4 : Int} {h : Heap} {Q : Bool → Heap → Prop} (hS : S_countermandlaw16_does B p1 i2 i3 i4 h Q) : C_countermandlaw16_does B p1 i2 i3 i4 h Q := by
 unfold S_countermandlaw16_does at hS
 unfold C_countermandlaw16_does
 refine Spec.of_run Try.func16 (N := 37) (rs := [ResultVar.tmp 4]) rfl rfl rfl (Nat.le_of_ble_eq_true rfl) ?_
 refine Run.seq ?_
 refine Run.ops0 (idx := [0, 1]) rfl ?_
 refine Run.go rfl rfl rfl (sem_boxNN [(Value.int .i64 (i2)), (Value.int .i64 (i3)), (Value.int .i64 (i4))] rfl (fun k6 hb1 hb2 h7 hb3 => ?_))
 have hS := hS k6 hb1 hb2 h7 hb3
 refine Run.go rfl rfl rfl (sem_assign ((Value.bool false)) rfl ?_)
 refine Run.region_end ?_
 refine Run.seqJ (fun e h9 => Agree [(0, (Value.pointer p1)), (3, (Value.pointer (some ⟨k6, 0, none⟩)))] e ∧ S_countermandlaw16_does_J1 B p1 k6 h9 Q) ?_ fun j8 => ?_
 ·rintro e h9 ⟨hag, hS⟩
  refine Run.env hag ?_; clear hag
  refine Run.seq ?_
  refine Run.ops0 (idx := [0, 1, 2, 3, 4, 5, 6]) rfl ?_
  refine Run.go rfl rfl rfl (sem_move ((Value.pointer p1)) rfl ?_)
  refine Run.go rfl rfl rfl (sem_fieldAddr ⟨k6, 0, none⟩ 1 rfl TF.fld_32_1 ?_)
  obtain ⟨i10, hl, hS⟩ := hS
  refine Run.go rfl rfl rfl (sem_load1 ⟨k6, 1, none⟩ ((Value.int .i64 (i10))) rfl TF.agg_3 hl ?_)
  refine Run.go rfl rfl rfl (sem_fieldAddr ⟨k6, 0, none⟩ 2 rfl TF.fld_32_2 ?_)
  obtain ⟨i11, hl, hS⟩ := hS
  refine Run.go rfl rfl rfl (sem_load1 ⟨k6, 2, none⟩ ((Value.int .i64 (i11))) rfl TF.agg_3 hl ?_)
  refine Run.go rfl rfl rfl (sem_callL [(Value.pointer p1), (Value.int .i64 (i10)), (Value.int .i64 (i11))] (TF.goes_33) rfl rfl (Spec.mono hS fun v h12 hv => ?_))
  obtain ⟨b13, rfl, hS⟩ := hv
  refine Run.go rfl rfl rfl (sem_assign ((Value.bool b13)) rfl ?_)
  refine Run.region_end ?_
  refine Run.ret ⟨.inr rfl, ?_⟩
  exact hS.imp fun h' hq => ⟨(b13), rfl, hq⟩
 refine Run.seq ?_
 refine Run.ops0 (idx := [0, 1]) rfl ?_
 refine Run.go rfl rfl rfl (sem_fieldAddr ⟨k6, 0, none⟩ 0 rfl TF.fld_32_0 ?_)
 obtain ⟨i14, hl, hS⟩ := hS
 refine Run.go rfl rfl rfl (sem_load1 ⟨k6, 0, none⟩ ((Value.int .i64 (i14))) rfl TF.agg_3 hl ?_)
 refine Run.region_end ?_
 refine Run.block ?_
 refine Run.seq ?_
 refine Run.ops0 (idx := [0, 1]) rfl ?_
 obtain ⟨hT, hF⟩ := hS
 by_cases hb15 : (i14 : Int) = 0
 ·have hS := hT hb15; clear hT hF
  refine Run.go rfl rfl rfl (sem_binI .i64 (i14) (0) (.bool true) rfl rfl (binI_eql_t hb15) ?_)
  refine Run.go rfl rfl rfl (sem_assign ((Value.bool true)) rfl ?_)
  refine Run.region_end ?_
  refine Run.condT rfl ?_
  refine Run.seq ?_
  refine Run.ops0 (idx := [0, 1, 2, 3, 4, 5, 6, 7]) rfl ?_
  refine Run.go rfl rfl rfl (sem_move ((Value.pointer p1)) rfl ?_)
  refine Run.go rfl rfl rfl (sem_fieldAddr ⟨k6, 0, none⟩ 1 rfl TF.fld_32_1 ?_)
  obtain ⟨i16, hl, hS⟩ := hS
  refine Run.go rfl rfl rfl (sem_load1 ⟨k6, 1, none⟩ ((Value.int .i64 (i16))) rfl TF.agg_3 hl ?_)
  refine Run.go rfl rfl rfl (sem_fieldAddr ⟨k6, 0, none⟩ 2 rfl TF.fld_32_2 ?_)
  obtain ⟨i17, hl, hS⟩ := hS
  refine Run.go rfl rfl rfl (sem_load1 ⟨k6, 2, none⟩ ((Value.int .i64 (i17))) rfl TF.agg_3 hl ?_)
  refine Run.go rfl rfl rfl (sem_convI .i64 .u8 (i17) rfl TF.int_3 TF.int_5 ?_)
  refine Run.go rfl rfl rfl (sem_callL [(Value.pointer p1), (Value.int .i64 (i16)), (Value.int .u8 (IntKind.wrap .u8 (i17)))] (TF.goes_30) rfl rfl (Spec.mono hS fun v h18 hv => ?_))
  obtain ⟨b19, rfl, hS⟩ := hv
  refine Run.go rfl rfl rfl (sem_assign ((Value.bool b19)) rfl ?_)
  refine Run.region_end ?_
  refine Run.ret ⟨.inr rfl, ?_⟩
  exact hS.imp fun h' hq => ⟨(b19), rfl, hq⟩
 ·have hS := hF hb15; clear hT hF
  refine Run.go rfl rfl rfl (sem_binI .i64 (i14) (0) (.bool false) rfl rfl (binI_eql_f hb15) ?_)
  refine Run.go rfl rfl rfl (sem_assign ((Value.bool false)) rfl ?_)
  refine Run.region_end ?_
  refine Run.condF rfl ?_
  refine Run.seq ?_
  refine Run.ops0 (idx := [0, 1]) rfl ?_
  obtain ⟨hT, hF⟩ := hS
  by_cases hb20 : (i14 : Int) = 1
  ·have hS := hT hb20; clear hT hF
   refine Run.go rfl rfl rfl (sem_binI .i64 (i14) (1) (.bool true) rfl rfl (binI_eql_t hb20) ?_)
   refine Run.go rfl rfl rfl (sem_assign ((Value.bool true)) rfl ?_)
   refine Run.region_end ?_
   refine Run.condT rfl ?_
   refine Run.seq ?_
   refine Run.ops0 (idx := [0, 1, 2, 3, 4, 5, 6, 7]) rfl ?_
   refine Run.go rfl rfl rfl (sem_move ((Value.pointer p1)) rfl ?_)
   refine Run.go rfl rfl rfl (sem_fieldAddr ⟨k6, 0, none⟩ 1 rfl TF.fld_32_1 ?_)
   obtain ⟨i21, hl, hS⟩ := hS
   refine Run.go rfl rfl rfl (sem_load1 ⟨k6, 1, none⟩ ((Value.int .i64 (i21))) rfl TF.agg_3 hl ?_)
   refine Run.go rfl rfl rfl (sem_fieldAddr ⟨k6, 0, none⟩ 2 rfl TF.fld_32_2 ?_)
   obtain ⟨i22, hl, hS⟩ := hS
   refine Run.go rfl rfl rfl (sem_load1 ⟨k6, 2, none⟩ ((Value.int .i64 (i22))) rfl TF.agg_3 hl ?_)
   refine Run.go rfl rfl rfl (sem_convI .i64 .u8 (i22) rfl TF.int_3 TF.int_5 ?_)
   refine Run.go rfl rfl rfl (sem_callL [(Value.pointer p1), (Value.int .i64 (i21)), (Value.int .u8 (IntKind.wrap .u8 (i22)))] (TF.goes_31) rfl rfl (Spec.mono hS fun v h23 hv => ?_))
   obtain ⟨b24, rfl, hS⟩ := hv
   refine Run.go rfl rfl rfl (sem_assign ((Value.bool b24)) rfl ?_)
   refine Run.region_end ?_
   refine Run.ret ⟨.inr rfl, ?_⟩
   exact hS.imp fun h' hq => ⟨(b24), rfl, hq⟩
  ·have hS := hF hb20; clear hT hF
   refine Run.go rfl rfl rfl (sem_binI .i64 (i14) (1) (.bool false) rfl rfl (binI_eql_f hb20) ?_)
   refine Run.go rfl rfl rfl (sem_assign ((Value.bool false)) rfl ?_)
   refine Run.region_end ?_
   refine Run.condF rfl ?_
   refine Run.seq ?_
   refine Run.ops0 (idx := [0, 1]) rfl ?_
   obtain ⟨hT, hF⟩ := hS
   by_cases hb25 : (i14 : Int) = 2
   ·have hS := hT hb25; clear hT hF
    refine Run.go rfl rfl rfl (sem_binI .i64 (i14) (2) (.bool true) rfl rfl (binI_eql_t hb25) ?_)
    refine Run.go rfl rfl rfl (sem_assign ((Value.bool true)) rfl ?_)
    refine Run.region_end ?_
    refine Run.condT rfl ?_
    refine Run.seq ?_
    refine Run.ops0 (idx := [0, 1, 2, 3, 4]) rfl ?_
    refine Run.go rfl rfl rfl (sem_move ((Value.pointer p1)) rfl ?_)
    refine Run.go rfl rfl rfl (sem_fieldAddr ⟨k6, 0, none⟩ 1 rfl TF.fld_32_1 ?_)
    obtain ⟨i26, hl, hS⟩ := hS
    refine Run.go rfl rfl rfl (sem_load1 ⟨k6, 1, none⟩ ((Value.int .i64 (i26))) rfl TF.agg_3 hl ?_)
    refine Run.go rfl rfl rfl (sem_callL [(Value.pointer p1), (Value.int .i64 (i26))] (TF.goes_32) rfl rfl (Spec.mono hS fun v h27 hv => ?_))
    obtain ⟨b28, rfl, hS⟩ := hv
    refine Run.go rfl rfl rfl (sem_assign ((Value.bool b28)) rfl ?_)
    refine Run.region_end ?_
    refine Run.ret ⟨.inr rfl, ?_⟩
    exact hS.imp fun h' hq => ⟨(b28), rfl, hq⟩
   ·have hS := hF hb25; clear hT hF
    refine Run.go rfl rfl rfl (sem_binI .i64 (i14) (2) (.bool false) rfl rfl (binI_eql_f hb25) ?_)
    refine Run.go rfl rfl rfl (sem_assign ((Value.bool false)) rfl ?_)
    refine Run.region_end ?_
    refine Run.condF rfl ?_
    refine Run.skip ?_
    refine Run.inBlock ?_
    exact Run.of_fin (hS.imp fun h' hS => j8 _ _ ⟨⟨rfl, rfl, trivial⟩, hS⟩)
set_option maxHeartbeats 4000000 in
theorem C_countermandlaw16_good.of {B : RO} {i1 : Int} {i2 : Int} {i3 : Int} {h : Heap} {Q : Bool → Heap → Prop} (hS : S_countermandlaw16_good B i1 i2 i3 h Q) : C_countermandlaw16_good B i1 i2 i3 h Q := by
 unfold S_countermandlaw16_good at hS
 unfold C_countermandlaw16_good
 refine Spec.of_run Try.func17 (N := 31) (rs := [ResultVar.tmp 2]) rfl rfl rfl (Nat.le_of_ble_eq_true rfl) ?_
 refine Run.seq ?_
 refine Run.ops0 (idx := [0, 1]) rfl ?_
 refine Run.go rfl rfl rfl (sem_boxNN [(Value.int .i64 (i1)), (Value.int .i64 (i2)), (Value.int .i64 (i3))] rfl (fun k5 hb1 hb2 h6 hb3 => ?_))
 have hS := hS k5 hb1 hb2 h6 hb3
 refine Run.go rfl rfl rfl (sem_assign ((Value.bool false)) rfl ?_)
 refine Run.region_end ?_
 refine Run.seq ?_
 refine Run.ops0 (idx := [0, 1, 2, 3, 4, 5, 6, 7, 8, 9, 10, 11, 12, 13, 14, 15, 16, 17, 18, 19, 20, 21, 22, 23, 24, 25, 26, 27, 28]) rfl ?_
 refine Run.go rfl rfl rfl (sem_fieldAddr ⟨k5, 0, none⟩ 0 rfl TF.fld_32_0 ?_)
 obtain ⟨i7, hl, hS⟩ := hS
 refine Run.go rfl rfl rfl (sem_load1 ⟨k5, 0, none⟩ ((Value.int .i64 (i7))) rfl TF.agg_3 hl ?_)
 obtain ⟨hT, hF⟩ := hS
 by_cases hb8 : (i7 : Int) = 2
 ·have hS := hT hb8; clear hT hF
  refine Run.go rfl rfl rfl (sem_binI .i64 (i7) (2) (.bool true) rfl rfl (binI_eql_t hb8) ?_)
  refine Run.go rfl rfl rfl (sem_move ((Value.bool true)) rfl ?_)
  refine Run.no rfl rfl rfl ?_
  refine Run.no rfl rfl rfl ?_
  refine Run.no rfl rfl rfl ?_
  refine Run.no rfl rfl rfl ?_
  refine Run.no rfl rfl rfl ?_
  refine Run.no rfl rfl rfl ?_
  refine Run.no rfl rfl rfl ?_
  refine Run.no rfl rfl rfl ?_
  refine Run.no rfl rfl rfl ?_
  refine Run.no rfl rfl rfl ?_
  refine Run.no rfl rfl rfl ?_
  refine Run.no rfl rfl rfl ?_
  refine Run.no rfl rfl rfl ?_
  refine Run.no rfl rfl rfl ?_
  refine Run.no rfl rfl rfl ?_
  refine Run.no rfl rfl rfl ?_
  refine Run.no rfl rfl rfl ?_
  refine Run.no rfl rfl rfl ?_
  refine Run.no rfl rfl rfl ?_
  refine Run.no rfl rfl rfl ?_
  refine Run.no rfl rfl rfl ?_
  refine Run.no rfl rfl rfl ?_
  refine Run.no rfl rfl rfl ?_
  refine Run.go rfl rfl rfl (sem_pick true ((Value.bool true)) rfl rfl ?_)
  refine Run.go rfl rfl rfl (sem_assign ((Value.bool true)) rfl ?_)
  refine Run.region_end ?_
  refine Run.ret ⟨.inr rfl, ?_⟩
  exact hS.imp fun h' hq => ⟨(true), rfl, hq⟩
 ·have hS := hF hb8; clear hT hF
  refine Run.go rfl rfl rfl (sem_binI .i64 (i7) (2) (.bool false) rfl rfl (binI_eql_f hb8) ?_)
  refine Run.go rfl rfl rfl (sem_move ((Value.bool false)) rfl ?_)
  refine Run.go rfl rfl rfl (sem_fieldAddr ⟨k5, 0, none⟩ 1 rfl TF.fld_32_1 ?_)
  obtain ⟨i9, hl, hS⟩ := hS
  refine Run.go rfl rfl rfl (sem_load1 ⟨k5, 1, none⟩ ((Value.int .i64 (i9))) rfl TF.agg_3 hl ?_)
  obtain ⟨hT, hF⟩ := hS
  by_cases hb10 : (i9 : Int) ≥ (0)
  ·have hS := hT hb10; clear hT hF
   refine Run.go rfl rfl rfl (sem_binI .i64 (i9) (0) (.bool true) rfl rfl (binI_geq_t hb10) ?_)
   refine Run.go rfl rfl rfl (sem_move ((Value.bool true)) rfl ?_)
   refine Run.go rfl rfl rfl (sem_fieldAddr ⟨k5, 0, none⟩ 0 rfl TF.fld_32_0 ?_)
   obtain ⟨i11, hl, hS⟩ := hS
   refine Run.go rfl rfl rfl (sem_load1 ⟨k5, 0, none⟩ ((Value.int .i64 (i11))) rfl TF.agg_3 hl ?_)
   obtain ⟨hT, hF⟩ := hS
   by_cases hb12 : (i11 : Int) < (2)
   ·have hS := hT hb12; clear hT hF
    refine Run.go rfl rfl rfl (sem_binI .i64 (i11) (2) (.bool true) rfl rfl (binI_lss_t hb12) ?_)
    refine Run.go rfl rfl rfl (sem_move ((Value.bool true)) rfl ?_)
    refine Run.go rfl rfl rfl (sem_fieldAddr ⟨k5, 0, none⟩ 1 rfl TF.fld_32_1 ?_)
    obtain ⟨i13, hl, hS⟩ := hS
    refine Run.go rfl rfl rfl (sem_load1 ⟨k5, 1, none⟩ ((Value.int .i64 (i13))) rfl TF.agg_3 hl ?_)
    obtain ⟨hT, hF⟩ := hS
    by_cases hb14 : (i13 : Int) ≤ (2)
    ·have hS := hT hb14; clear hT hF
     refine Run.go rfl rfl rfl (sem_binI .i64 (i13) (2) (.bool true) rfl rfl (binI_leq_t hb14) ?_)
     refine Run.go rfl rfl rfl (sem_pick true ((Value.bool true)) rfl rfl ?_)
     refine Run.go rfl rfl rfl (sem_move ((Value.bool true)) rfl ?_)
     refine Run.no rfl rfl rfl ?_
     refine Run.no rfl rfl rfl ?_
     refine Run.no rfl rfl rfl ?_
     refine Run.no rfl rfl rfl ?_
     refine Run.no rfl rfl rfl ?_
     refine Run.no rfl rfl rfl ?_
     refine Run.no rfl rfl rfl ?_
     refine Run.no rfl rfl rfl ?_
     refine Run.go rfl rfl rfl (sem_pick true ((Value.bool true)) rfl rfl ?_)
     refine Run.go rfl rfl rfl (sem_pick true ((Value.bool true)) rfl rfl ?_)
     refine Run.go rfl rfl rfl (sem_pick false ((Value.bool true)) rfl rfl ?_)
     refine Run.go rfl rfl rfl (sem_assign ((Value.bool true)) rfl ?_)
     refine Run.region_end ?_
     refine Run.ret ⟨.inr rfl, ?_⟩
     exact hS.imp fun h' hq => ⟨(true), rfl, hq⟩
    ·have hS := hF hb14; clear hT hF
     refine Run.go rfl rfl rfl (sem_binI .i64 (i13) (2) (.bool false) rfl rfl (binI_leq_f hb14) ?_)
     refine Run.go rfl rfl rfl (sem_pick true ((Value.bool false)) rfl rfl ?_)
     refine Run.go rfl rfl rfl (sem_move ((Value.bool false)) rfl ?_)
     refine Run.go rfl rfl rfl (sem_fieldAddr ⟨k5, 0, none⟩ 0 rfl TF.fld_32_0 ?_)
     obtain ⟨i15, hl, hS⟩ := hS
     refine Run.go rfl rfl rfl (sem_load1 ⟨k5, 0, none⟩ ((Value.int .i64 (i15))) rfl TF.agg_3 hl ?_)
     obtain ⟨hT, hF⟩ := hS
     by_cases hb16 : (i15 : Int) = 3
     ·have hS := hT hb16; clear hT hF
      refine Run.go rfl rfl rfl (sem_binI .i64 (i15) (3) (.bool true) rfl rfl (binI_eql_t hb16) ?_)
      refine Run.go rfl rfl rfl (sem_move ((Value.bool true)) rfl ?_)
      refine Run.go rfl rfl rfl (sem_fieldAddr ⟨k5, 0, none⟩ 1 rfl TF.fld_32_1 ?_)
      obtain ⟨i17, hl, hS⟩ := hS
      refine Run.go rfl rfl rfl (sem_load1 ⟨k5, 1, none⟩ ((Value.int .i64 (i17))) rfl TF.agg_3 hl ?_)
      refine Run.go rfl rfl rfl (sem_binI .i64 (i17) (3) ((Value.bool (decide ((i17 : Int) ≤ (3))))) rfl rfl rfl ?_)
      refine Run.go rfl rfl rfl (sem_pick true ((Value.bool (decide ((i17 : Int) ≤ (3))))) rfl rfl ?_)
      refine Run.go rfl rfl rfl (sem_pick false ((Value.bool (decide ((i17 : Int) ≤ (3))))) rfl rfl ?_)
      refine Run.go rfl rfl rfl (sem_pick true ((Value.bool (decide ((i17 : Int) ≤ (3))))) rfl rfl ?_)
      refine Run.go rfl rfl rfl (sem_pick false ((Value.bool (decide ((i17 : Int) ≤ (3))))) rfl rfl ?_)
      refine Run.go rfl rfl rfl (sem_assign ((Value.bool (decide ((i17 : Int) ≤ (3))))) rfl ?_)
      refine Run.region_end ?_
      refine Run.ret ⟨.inr rfl, ?_⟩
      exact hS.imp fun h' hq => ⟨((decide ((i17 : Int) ≤ (3)))), rfl, hq⟩
     ·have hS := hF hb16; clear hT hF
      refine Run.go rfl rfl rfl (sem_binI .i64 (i15) (3) (.bool false) rfl rfl (binI_eql_f hb16) ?_)
      refine Run.go rfl rfl rfl (sem_move ((Value.bool false)) rfl ?_)
      refine Run.no rfl rfl rfl ?_
      refine Run.no rfl rfl rfl ?_
      refine Run.no rfl rfl rfl ?_
      refine Run.go rfl rfl rfl (sem_pick false ((Value.bool false)) rfl rfl ?_)
      refine Run.go rfl rfl rfl (sem_pick false ((Value.bool false)) rfl rfl ?_)
      refine Run.go rfl rfl rfl (sem_pick true ((Value.bool false)) rfl rfl ?_)
      refine Run.go rfl rfl rfl (sem_pick false ((Value.bool false)) rfl rfl ?_)
      refine Run.go rfl rfl rfl (sem_assign ((Value.bool false)) rfl ?_)
      refine Run.region_end ?_
      refine Run.ret ⟨.inr rfl, ?_⟩
      exact hS.imp fun h' hq => ⟨(false), rfl, hq⟩
   ·have hS := hF hb12; clear hT hF
    refine Run.go rfl rfl rfl (sem_binI .i64 (i11) (2) (.bool false) rfl rfl (binI_lss_f hb12) ?_)
    refine Run.go rfl rfl rfl (sem_move ((Value.bool false)) rfl ?_)
    refine Run.no rfl rfl rfl ?_
    refine Run.no rfl rfl rfl ?_
    refine Run.no rfl rfl rfl ?_
    refine Run.go rfl rfl rfl (sem_pick false ((Value.bool false)) rfl rfl ?_)
    refine Run.go rfl rfl rfl (sem_move ((Value.bool false)) rfl ?_)
    refine Run.go rfl rfl rfl (sem_fieldAddr ⟨k5, 0, none⟩ 0 rfl TF.fld_32_0 ?_)
    obtain ⟨i18, hl, hS⟩ := hS
    refine Run.go rfl rfl rfl (sem_load1 ⟨k5, 0, none⟩ ((Value.int .i64 (i18))) rfl TF.agg_3 hl ?_)
    obtain ⟨hT, hF⟩ := hS
    by_cases hb19 : (i18 : Int) = 3
    ·have hS := hT hb19; clear hT hF
     refine Run.go rfl rfl rfl (sem_binI .i64 (i18) (3) (.bool true) rfl rfl (binI_eql_t hb19) ?_)
     refine Run.go rfl rfl rfl (sem_move ((Value.bool true)) rfl ?_)
     refine Run.go rfl rfl rfl (sem_fieldAddr ⟨k5, 0, none⟩ 1 rfl TF.fld_32_1 ?_)
     obtain ⟨i20, hl, hS⟩ := hS
     refine Run.go rfl rfl rfl (sem_load1 ⟨k5, 1, none⟩ ((Value.int .i64 (i20))) rfl TF.agg_3 hl ?_)
     refine Run.go rfl rfl rfl (sem_binI .i64 (i20) (3) ((Value.bool (decide ((i20 : Int) ≤ (3))))) rfl rfl rfl ?_)
     refine Run.go rfl rfl rfl (sem_pick true ((Value.bool (decide ((i20 : Int) ≤ (3))))) rfl rfl ?_)
     refine Run.go rfl rfl rfl (sem_pick false ((Value.bool (decide ((i20 : Int) ≤ (3))))) rfl rfl ?_)
     refine Run.go rfl rfl rfl (sem_pick true ((Value.bool (decide ((i20 : Int) ≤ (3))))) rfl rfl ?_)
     refine Run.go rfl rfl rfl (sem_pick false ((Value.bool (decide ((i20 : Int) ≤ (3))))) rfl rfl ?_)
     refine Run.go rfl rfl rfl (sem_assign ((Value.bool (decide ((i20 : Int) ≤ (3))))) rfl ?_)
     refine Run.region_end ?_
     refine Run.ret ⟨.inr rfl, ?_⟩
     exact hS.imp fun h' hq => ⟨((decide ((i20 : Int) ≤ (3)))), rfl, hq⟩
    ·have hS := hF hb19; clear hT hF
     refine Run.go rfl rfl rfl (sem_binI .i64 (i18) (3) (.bool false) rfl rfl (binI_eql_f hb19) ?_)
     refine Run.go rfl rfl rfl (sem_move ((Value.bool false)) rfl ?_)
     refine Run.no rfl rfl rfl ?_
     refine Run.no rfl rfl rfl ?_
     refine Run.no rfl rfl rfl ?_
     refine Run.go rfl rfl rfl (sem_pick false ((Value.bool false)) rfl rfl ?_)
     refine Run.go rfl rfl rfl (sem_pick false ((Value.bool false)) rfl rfl ?_)
     refine Run.go rfl rfl rfl (sem_pick true ((Value.bool false)) rfl rfl ?_)
     refine Run.go rfl rfl rfl (sem_pick false ((Value.bool false)) rfl rfl ?_)
     refine Run.go rfl rfl rfl (sem_assign ((Value.bool false)) rfl ?_)
     refine Run.region_end ?_
     refine Run.ret ⟨.inr rfl, ?_⟩
     exact hS.imp fun h' hq => ⟨(false), rfl, hq⟩
  ·have hS := hF hb10; clear hT hF
   refine Run.go rfl rfl rfl (sem_binI .i64 (i9) (0) (.bool false) rfl rfl (binI_geq_f hb10) ?_)
   refine Run.go rfl rfl rfl (sem_move ((Value.bool false)) rfl ?_)
   refine Run.no rfl rfl rfl ?_
   refine Run.no rfl rfl rfl ?_
   refine Run.no rfl rfl rfl ?_
   refine Run.no rfl rfl rfl ?_
   refine Run.no rfl rfl rfl ?_
   refine Run.no rfl rfl rfl ?_
   refine Run.no rfl rfl rfl ?_
   refine Run.no rfl rfl rfl ?_
   refine Run.no rfl rfl rfl ?_
   refine Run.no rfl rfl rfl ?_
   refine Run.no rfl rfl rfl ?_
   refine Run.no rfl rfl rfl ?_
   refine Run.no rfl rfl rfl ?_
   refine Run.no rfl rfl rfl ?_
   refine Run.no rfl rfl rfl ?_
   refine Run.no rfl rfl rfl ?_
   refine Run.no rfl rfl rfl ?_
   refine Run.no rfl rfl rfl ?_
   refine Run.go rfl rfl rfl (sem_pick false ((Value.bool false)) rfl rfl ?_)
   refine Run.go rfl rfl rfl (sem_pick false ((Value.bool false)) rfl rfl ?_)
   refine Run.go rfl rfl rfl (sem_assign ((Value.bool false)) rfl ?_)
   refine Run.region_end ?_
   refine Run.ret ⟨.inr rfl, ?_⟩
   exact hS.imp fun h' hq => ⟨(false), rfl, hq⟩
set_option maxHeartbeats 4000000 in
theorem C_countermandref16_First.of {B : RO} {a1 : Option Addr} {n2 : Nat} {c3 : Nat} {i4 : Int} {i5 : Int} {i6 : Int} {i7 : Int} {h : Heap} {Q : Option Addr → Nat → Nat → Option Addr → Nat → Nat → Heap → Prop} (hS : S_countermandref16_First B a1 n2 c3 i4 i5 i6 i7 h Q) : C_countermandref16_First B a1 n2 c3 i4 i5 i6 i7 h Q := by
 unfold S_countermandref16_First at hS
 unfold C_countermandref16_First
 refine Spec.of_run Try.func18 (N := 43) (rs := [ResultVar.tmp 4, ResultVar.tmp 5]) rfl rfl rfl (Nat.le_of_ble_eq_true rfl) ?_
 refine Run.seq ?_
 refine Run.ops0 (idx := [0, 1, 2]) rfl ?_
 refine Run.go rfl rfl rfl (sem_boxNN [(Value.int .i64 (i4)), (Value.int .i64 (i5)), (Value.int .i64 (i6)), (Value.int .i64 (i7))] rfl (fun k14 hb1 hb2 h15 hb3 => ?_))
 have hS := hS k14 hb1 hb2 h15 hb3
 refine Run.go rfl rfl rfl (sem_assign ((Value.slice none 0 0)) rfl ?_)
 refine Run.go rfl rfl rfl (sem_assign ((Value.slice none 0 0)) rfl ?_)
 refine Run.region_end ?_
 refine Run.seq ?_
 refine Run.ops0 (idx := [0]) rfl ?_
 refine Run.go rfl rfl rfl (sem_assign ((Value.slice none 0 0)) rfl ?_)
 refine Run.region_end ?_
 refine Run.seq ?_
 refine Run.ops0 (idx := [0]) rfl ?_
 refine Run.go rfl rfl rfl (sem_assign ((Value.slice none 0 0)) rfl ?_)
 refine Run.region_end ?_
 refine Run.seq ?_
 refine Run.ops0 (idx := [0]) rfl ?_
 refine Run.go rfl rfl rfl (sem_allocN [(Value.int .i64 (0)), (Value.int .i64 (0)), (Value.int .i64 (0)), (Value.int .i64 (0))] TF.zero_33 (fun k16 hb1 hb2 h17 hb3 => ?_))
 have hS := hS k16 hb1 hb2 h17 hb3
 refine Run.region_end ?_
 refine Run.seq ?_
 refine Run.seq ?_
 refine Run.ops0 (idx := [0, 1, 2]) rfl ?_
 refine Run.go rfl rfl rfl (sem_move ((Value.slice a1 n2 c3)) rfl ?_)
 refine Run.go rfl rfl rfl (sem_lenSl a1 n2 c3 rfl TF.sl_30 ?_)
 refine Run.go rfl rfl rfl (sem_move ((Value.int .i64 (0))) rfl ?_)
 refine Run.region_end ?_
 refine Run.block ?_
 obtain ⟨J29, m27, h0, hS⟩ := hS
 refine Run.of_fin (h0.imp fun h' h0 => ?_)
 refine Run.loop (σ := (Option Addr) × Nat × Nat × (Option Addr) × Nat × Nat × Int × Nat) (fun x e h => J29 x.1 x.2.1 x.2.2.1 x.2.2.2.1 x.2.2.2.2.1 x.2.2.2.2.2.1 x.2.2.2.2.2.2.1 x.2.2.2.2.2.2.2 h ∧ Agree [(3, (Value.pointer (some ⟨k14, 0, none⟩))), (6, (Value.slice x.1 x.2.1 x.2.2.1)), (7, (Value.slice x.2.2.2.1 x.2.2.2.2.1 x.2.2.2.2.2.1)), (8, (Value.pointer (some ⟨k16, 0, none⟩))), (11, (Value.slice a1 n2 c3)), (12, (Value.int .i64 ((n2 : Nat)))), (13, (Value.int .i64 (x.2.2.2.2.2.2.1)))] e) (fun x => x.2.2.2.2.2.2.2) (none, 0, 0, none, 0, 0, (0), m27) ⟨h0, ⟨rfl, rfl, rfl, rfl, rfl, rfl, rfl, trivial⟩⟩ ?_; clear h0
 rintro ⟨a18, n19, c20, a21, n22, c23, i24, m26⟩ e h25 ⟨hJ, hag⟩ ih28
 have hS := hS a18 n19 c20 a21 n22 c23 i24 m26 h25 hJ; clear hJ
 refine Run.env hag ?_; clear hag
 refine Run.seq ?_
 refine Run.ops0 (idx := [0]) rfl ?_
 obtain ⟨hT, hF⟩ := hS
 by_cases hb30 : (i24 : Int) < ((n2 : Nat))
 ·have hS := hT hb30; clear hT hF
  refine Run.go rfl rfl rfl (sem_binI .i64 (i24) ((n2 : Nat)) (.bool true) rfl rfl (binI_lss_t hb30) ?_)
  refine Run.region_end ?_
  refine Run.seq ?_
  refine Run.condT rfl ?_
  refine Run.skip ?_
  refine Run.seq ?_
  refine Run.block ?_
  refine Run.seq ?_
  refine Run.ops0 (idx := [0, 1, 2, 3]) rfl ?_
  obtain ⟨A31, e32, hi0, hi1, hS⟩ := hS
  refine Run.go rfl rfl rfl (sem_indexAddrS A31 n2 c3 .i64 (i24) (congrArg (fun a => Value.slice a n2 c3) e32) rfl TF.slc_30 hi0 hi1 ?_)
  obtain ⟨i33, i34, i35, hl, hS⟩ := hS
  refine Run.go rfl rfl rfl (sem_loadN (Addr.add A31 (Int.toNat (i24) * 3)) [(Value.int .i64 (i33)), (Value.int .i64 (i34)), (Value.int .i64 (i35))] rfl TF.agg_32 TF.sz_32 hl ?_)
  refine Run.go rfl rfl rfl (sem_allocN [(Value.int .i64 (0)), (Value.int .i64 (0)), (Value.int .i64 (0))] TF.zero_32 (fun k36 hb1 hb2 h37 hb3 => ?_))
  have hS := hS k36 hb1 hb2 h37 hb3
  obtain ⟨h38, hst, hS⟩ := hS
  refine Run.go rfl rfl rfl (sem_storeN ⟨k36, 0, none⟩ [(Value.int .i64 (i33)), (Value.int .i64 (i34)), (Value.int .i64 (i35))] h38 rfl rfl TF.sz_32 hst ?_)
  refine Run.region_end ?_
  refine Run.seqJ (fun e h46 => ∃ a40 : Option Addr, ∃ n41 : Nat, ∃ c42 : Nat, ∃ a43 : Option Addr, ∃ n44 : Nat, ∃ c45 : Nat, Agree [(3, (Value.pointer (some ⟨k14, 0, none⟩))), (6, (Value.slice a40 n41 c42)), (7, (Value.slice a43 n44 c45)), (8, (Value.pointer (some ⟨k16, 0, none⟩))), (10, (Value.pointer (some ⟨k36, 0, none⟩))), (11, (Value.slice a1 n2 c3)), (12, (Value.int .i64 ((n2 : Nat)))), (13, (Value.int .i64 (i24)))] e ∧ S_countermandref16_First_J1 B a1 n2 c3 k14 k16 i24 m26 J29 k36 a40 n41 c42 a43 n44 c45 h46 Q) ?_ fun j39 => ?_
  ·rintro e h46 ⟨a40, n41, c42, a43, n44, c45, hag, hS⟩
   refine Run.env hag ?_; clear hag
   refine Run.ops0 (idx := [0, 1, 2, 3, 4, 5, 6]) rfl ?_
   refine Run.go rfl rfl rfl (sem_fieldAddr ⟨k36, 0, none⟩ 0 rfl TF.fld_32_0 ?_)
   obtain ⟨i47, hl, hS⟩ := hS
   refine Run.go rfl rfl rfl (sem_load1 ⟨k36, 0, none⟩ ((Value.int .i64 (i47))) rfl TF.agg_3 hl ?_)
   obtain ⟨hi0, hi1, hS⟩ := hS
   refine Run.go rfl rfl rfl (sem_indexAddrA ⟨k16, 0, none⟩ .i64 (i47) rfl rfl TF.arr_33 hi0 hi1 ?_)
   obtain ⟨i48, hl, hS⟩ := hS
   refine Run.go rfl rfl rfl (sem_load1 (Addr.add ⟨k16, 0, none⟩ (Int.toNat (i47) * 1)) ((Value.int .i64 (i48))) rfl TF.agg_3 hl ?_)
   refine Run.go rfl rfl rfl (sem_binI .i64 (i48) (1) ((Value.int .i64 (IntKind.wrap .i64 ((i48) + (1))))) rfl rfl rfl ?_)
   obtain ⟨hi0, hi1, hS⟩ := hS
   refine Run.go rfl rfl rfl (sem_indexAddrA ⟨k16, 0, none⟩ .i64 (i47) rfl rfl TF.arr_33 hi0 hi1 ?_)
   obtain ⟨h49, hst, hS⟩ := hS
   refine Run.go rfl rfl rfl (sem_store1 (Addr.add ⟨k16, 0, none⟩ (Int.toNat (i47) * 1)) ((Value.int .i64 (IntKind.wrap .i64 ((i48) + (1))))) h49 rfl rfl rfl TF.sz_3 hst ?_)
   refine Run.region_end ?_
   refine Run.inBlock ?_
   refine Run.ops0 (idx := [0, 1]) rfl ?_
   refine Run.go rfl rfl rfl (sem_binI .i64 (i24) (1) ((Value.int .i64 (IntKind.wrap .i64 ((i24) + (1))))) rfl rfl rfl ?_)
   refine Run.go rfl rfl rfl (sem_move ((Value.int .i64 (IntKind.wrap .i64 ((i24) + (1))))) rfl ?_)
   refine Run.region_end ?_
   exact Run.of_fin (hS.imp fun h' ⟨m', hm, hS⟩ => ih28 (a40, n41, c42, a43, n44, c45, (IntKind.wrap .i64 ((i24) + (1))), m') _ _ ⟨hS, ⟨rfl, rfl, rfl, rfl, rfl, rfl, rfl, trivial⟩⟩ hm)
  refine Run.seq ?_
  refine Run.drawM (fun h' => h' = h38) [] ⟨[0, 1, 2, 4, 0, 16, 32, 64, 136], [511, 510, 509, 507, 511, 495, 479, 447, 375], [0, 0, 0, 0, 0, 0, 0, 0, 0], 0⟩ (.q 0 (.q 1 (.q 2 (.q 3 (.q 4 (.q 5 (.q 6 (.q 7 (.q 8 .nil))))))))) TF.mixed (by kernel_rfl) rfl ?_
  refine RunT.quiet rfl rfl rfl (quiet_eq (sem_fieldAddr ⟨k36, 0, none⟩ 0 rfl TF.fld_32_0 ⟨rfl, rfl⟩)) ?_
  obtain ⟨i50, hl, hS⟩ := hS
  refine RunT.quiet rfl rfl rfl (quiet_eq (sem_load1 ⟨k36, 0, none⟩ ((Value.int .i64 (i50))) rfl TF.agg_3 hl ⟨rfl, rfl⟩)) ?_
  obtain ⟨hi0, hi1, hS⟩ := hS
  refine RunT.quiet rfl rfl rfl (quiet_eq (sem_indexAddrA ⟨k16, 0, none⟩ .i64 (i50) rfl rfl TF.arr_33 hi0 hi1 ⟨rfl, rfl⟩)) ?_
  obtain ⟨i51, hl, hS⟩ := hS
  refine RunT.quiet rfl rfl rfl (quiet_eq (sem_load1 (Addr.add ⟨k16, 0, none⟩ (Int.toNat (i50) * 1)) ((Value.int .i64 (i51))) rfl TF.agg_3 hl ⟨rfl, rfl⟩)) ?_
  refine RunT.quiet rfl rfl rfl (quiet_eq (sem_fieldAddr ⟨k36, 0, none⟩ 0 rfl TF.fld_32_0 ⟨rfl, rfl⟩)) ?_
  obtain ⟨i52, hl, hS⟩ := hS
  refine RunT.quiet rfl rfl rfl (quiet_eq (sem_load1 ⟨k36, 0, none⟩ ((Value.int .i64 (i52))) rfl TF.agg_3 hl ⟨rfl, rfl⟩)) ?_
  obtain ⟨hi0, hi1, hS⟩ := hS
  refine RunT.quiet rfl rfl rfl (quiet_eq (sem_indexAddrA ⟨k14, 0, none⟩ .i64 (i52) rfl rfl TF.arr_33 hi0 hi1 ⟨rfl, rfl⟩)) ?_
  obtain ⟨i53, hl, hS⟩ := hS
  refine RunT.quiet rfl rfl rfl (quiet_eq (sem_load1 (Addr.add ⟨k14, 0, none⟩ (Int.toNat (i52) * 1)) ((Value.int .i64 (i53))) rfl TF.agg_3 hl ⟨rfl, rfl⟩)) ?_
  obtain ⟨hT, hF⟩ := hS
  by_cases hb54 : (i51 : Int) < (i53)
  ·have hS := hT hb54; clear hT hF
   refine RunT.quiet rfl rfl rfl (quiet_eq (sem_binI .i64 (i51) (i53) (.bool true) rfl rfl (binI_lss_t hb54) ⟨rfl, rfl⟩)) ?_
   refine Run.condT rfl ?_
   refine Run.ops0 (idx := [0, 1, 2, 3, 4]) rfl ?_
   refine Run.go rfl rfl rfl (sem_move ((Value.slice a18 n19 c20)) rfl ?_)
   obtain ⟨i55, i56, i57, hl, hS⟩ := hS
   refine Run.go rfl rfl rfl (sem_loadN ⟨k36, 0, none⟩ [(Value.int .i64 (i55)), (Value.int .i64 (i56)), (Value.int .i64 (i57))] rfl TF.agg_32 TF.sz_32 hl ?_)
   refine Run.go rfl rfl rfl (sem_buildSliceL [(0, (Value.agg #[(Value.int .i64 (i55)), (Value.int .i64 (i56)), (Value.int .i64 (i57))]))] [(Value.int .i64 (i55)), (Value.int .i64 (i56)), (Value.int .i64 (i57))] TF.slc_30 TF.zero_32 rfl (by decide) (by decide) rfl rfl (fun k58 hb1 hb2 h59 hb3 => ?_))
   have hS := hS k58 hb1 hb2 h59 hb3
   refine Run.go rfl rfl rfl (sem_appendL [(Value.slice a18 n19 c20), (Value.slice (some ⟨k58, 0, none⟩) 1 1)] rfl (semH_mono (fun v h60 hv => ?_) hS))
   obtain ⟨a61, n62, c63, rfl, hS⟩ := hv
   refine Run.go rfl rfl rfl (sem_assign ((Value.slice a61 n62 c63)) rfl ?_)
   refine Run.region_end ?_
   exact Run.of_fin (hS.imp fun h' hS => j39 _ _ ⟨a61, n62, c63, a21, n22, c23, ⟨rfl, rfl, rfl, rfl, rfl, rfl, rfl, rfl, trivial⟩, hS⟩)
  ·have hS := hF hb54; clear hT hF
   refine RunT.quiet rfl rfl rfl (quiet_eq (sem_binI .i64 (i51) (i53) (.bool false) rfl rfl (binI_lss_f hb54) ⟨rfl, rfl⟩)) ?_
   refine Run.condF rfl ?_
   refine Run.ops0 (idx := [0, 1, 2, 3, 4]) rfl ?_
   refine Run.go rfl rfl rfl (sem_move ((Value.slice a21 n22 c23)) rfl ?_)
   obtain ⟨i64, i65, i66, hl, hS⟩ := hS
   refine Run.go rfl rfl rfl (sem_loadN ⟨k36, 0, none⟩ [(Value.int .i64 (i64)), (Value.int .i64 (i65)), (Value.int .i64 (i66))] rfl TF.agg_32 TF.sz_32 hl ?_)
   refine Run.go rfl rfl rfl (sem_buildSliceL [(0, (Value.agg #[(Value.int .i64 (i64)), (Value.int .i64 (i65)), (Value.int .i64 (i66))]))] [(Value.int .i64 (i64)), (Value.int .i64 (i65)), (Value.int .i64 (i66))] TF.slc_30 TF.zero_32 rfl (by decide) (by decide) rfl rfl (fun k67 hb1 hb2 h68 hb3 => ?_))
   have hS := hS k67 hb1 hb2 h68 hb3
   refine Run.go rfl rfl rfl (sem_appendL [(Value.slice a21 n22 c23), (Value.slice (some ⟨k67, 0, none⟩) 1 1)] rfl (semH_mono (fun v h69 hv => ?_) hS))
   obtain ⟨a70, n71, c72, rfl, hS⟩ := hv
   refine Run.go rfl rfl rfl (sem_assign ((Value.slice a70 n71 c72)) rfl ?_)
   refine Run.region_end ?_
   exact Run.of_fin (hS.imp fun h' hS => j39 _ _ ⟨a18, n19, c20, a70, n71, c72, ⟨rfl, rfl, rfl, rfl, rfl, rfl, rfl, rfl, trivial⟩, hS⟩)
 ·have hS := hF hb30; clear hT hF
  refine Run.go rfl rfl rfl (sem_binI .i64 (i24) ((n2 : Nat)) (.bool false) rfl rfl (binI_lss_f hb30) ?_)
  refine Run.region_end ?_
  refine Run.seq ?_
  refine Run.condF rfl ?_
  refine Run.exit rfl ?_
  refine Run.seq ?_
  refine Run.ops0 (idx := [0, 1, 2, 3]) rfl ?_
  refine Run.go rfl rfl rfl (sem_move ((Value.slice a18 n19 c20)) rfl ?_)
  refine Run.go rfl rfl rfl (sem_move ((Value.slice a21 n22 c23)) rfl ?_)
  refine Run.go rfl rfl rfl (sem_assign ((Value.slice a18 n19 c20)) rfl ?_)
  refine Run.go rfl rfl rfl (sem_assign ((Value.slice a21 n22 c23)) rfl ?_)
  refine Run.region_end ?_
  refine Run.ret ⟨.inr rfl, ?_⟩
  exact hS.imp fun h' hq => ⟨a18, n19, c20, a21, n22, c23, rfl, hq⟩
set_option maxHeartbeats 4000000 in
theorem C_countermandlaw16_opens.of {B : RO} {a1 : Option Addr} {n2 : Nat} {c3 : Nat} {a4 : Option Addr} {n5 : Nat} {c6 : Nat} {h : Heap} {Q : Bool → Heap → Prop} (hS : S_countermandlaw16_opens B a1 n2 c3 a4 n5 c6 h Q) : C_countermandlaw16_opens B a1 n2 c3 a4 n5 c6 h Q := by
 unfold S_countermandlaw16_opens at hS
 unfold C_countermandlaw16_opens
 refine Spec.of_run Try.func19 (N := 38) (rs := [ResultVar.tmp 4]) rfl rfl rfl (Nat.le_of_ble_eq_true rfl) ?_
 refine Run.seq ?_
 refine Run.ops0 (idx := [0]) rfl ?_
 refine Run.go rfl rfl rfl (sem_assign ((Value.bool false)) rfl ?_)
 refine Run.region_end ?_
 refine Run.seq ?_
 refine Run.seq ?_
 refine Run.ops0 (idx := [0, 1, 2, 3, 4]) rfl ?_
 refine Run.go rfl rfl rfl (sem_move ((Value.slice a1 n2 c3)) rfl ?_)
 refine Run.go rfl rfl rfl (sem_lenSl a1 n2 c3 rfl TF.sl_27 ?_)
 refine Run.go rfl rfl rfl (sem_move ((Value.slice a4 n5 c6)) rfl ?_)
 refine Run.go rfl rfl rfl (sem_lenSl a4 n5 c6 rfl TF.sl_30 ?_)
 obtain ⟨hT, hF⟩ := hS
 by_cases hb8 : ((n2 : Nat) : Int) = (n5 : Nat)
 ·have hS := hT hb8; clear hT hF
  refine Run.go rfl rfl rfl (sem_binI .i64 ((n2 : Nat)) ((n5 : Nat)) (.bool false) rfl rfl (binI_neq_t hb8) ?_)
  refine Run.region_end ?_
  refine Run.condF rfl ?_
  refine Run.skip ?_
  refine Run.seq ?_
  refine Run.seq ?_
  refine Run.ops0 (idx := [0, 1, 2]) rfl ?_
  refine Run.go rfl rfl rfl (sem_move ((Value.slice a1 n2 c3)) rfl ?_)
  refine Run.go rfl rfl rfl (sem_lenSl a1 n2 c3 rfl TF.sl_27 ?_)
  refine Run.go rfl rfl rfl (sem_move ((Value.int .i64 (0))) rfl ?_)
  refine Run.region_end ?_
  refine Run.block ?_
  obtain ⟨J14, m12, h0, hS⟩ := hS
  refine Run.of_fin (h0.imp fun h' h0 => ?_)
  refine Run.loop (σ := Int × Nat) (fun x e h => J14 x.1 x.2 h ∧ Agree [(1, (Value.slice a4 n5 c6)), (12, (Value.slice a1 n2 c3)), (13, (Value.int .i64 ((n2 : Nat)))), (14, (Value.int .i64 (x.1)))] e) (fun x => x.2) ((0), m12) ⟨h0, ⟨rfl, rfl, rfl, rfl, trivial⟩⟩ ?_; clear h0
  rintro ⟨i9, m11⟩ e h10 ⟨hJ, hag⟩ ih13
  have hS := hS i9 m11 h10 hJ; clear hJ
  refine Run.env hag ?_; clear hag
  refine Run.seq ?_
  refine Run.ops0 (idx := [0]) rfl ?_
  obtain ⟨hT, hF⟩ := hS
  by_cases hb15 : (i9 : Int) < ((n2 : Nat))
  ·have hS := hT hb15; clear hT hF
   refine Run.go rfl rfl rfl (sem_binI .i64 (i9) ((n2 : Nat)) (.bool true) rfl rfl (binI_lss_t hb15) ?_)
   refine Run.region_end ?_
   refine Run.seq ?_
   refine Run.condT rfl ?_
   refine Run.skip ?_
   refine Run.seq ?_
   refine Run.block ?_
   refine Run.seq ?_
   refine Run.ops0 (idx := [0, 1, 2, 3, 4, 5]) rfl ?_
   refine Run.go rfl rfl rfl (sem_move ((Value.int .i64 (i9))) rfl ?_)
   obtain ⟨A16, e17, hi0, hi1, hS⟩ := hS
   refine Run.go rfl rfl rfl (sem_indexAddrS A16 n2 c3 .i64 (i9) (congrArg (fun a => Value.slice a n2 c3) e17) rfl TF.slc_27 hi0 hi1 ?_)
   obtain ⟨i18, i19, hl, hS⟩ := hS
   refine Run.go rfl rfl rfl (sem_loadN (Addr.add A16 (Int.toNat (i9) * 2)) [(Value.int .i64 (i18)), (Value.int .i64 (i19))] rfl TF.agg_160 TF.sz_160 hl ?_)
   refine Run.go rfl rfl rfl (sem_allocN [(Value.int .i64 (0)), (Value.int .i64 (0))] TF.zero_160 (fun k20 hb1 hb2 h21 hb3 => ?_))
   have hS := hS k20 hb1 hb2 h21 hb3
   refine Run.go rfl rfl rfl (sem_assign ((Value.int .i64 (i9))) rfl ?_)
   obtain ⟨h22, hst, hS⟩ := hS
   refine Run.go rfl rfl rfl (sem_storeN ⟨k20, 0, none⟩ [(Value.int .i64 (i18)), (Value.int .i64 (i19))] h22 rfl rfl TF.sz_160 hst ?_)
   refine Run.region_end ?_
   refine Run.seq ?_
   refine Run.drawM (fun h' => h' = h22) [] ⟨[0, 1, 0, 0, 12, 16, 32, 66, 128, 256, 768, 256, 256, 6400, 8448, 16640, 34048, 65792], [262143, 262142, 262143, 262143, 262131, 262127, 262111, 262077, 262015, 261887, 261375, 261887, 261887, 255743, 253695, 245503, 228095, 196351], [0, 0, 0, 0, 0, 0, 0, 0, 0, 0, 0, 0, 0, 0, 0, 0, 0, 0], 0⟩ (.q 0 (.q 1 (.q 2 (.q 3 (.q 4 (.q 5 (.q 6 (.q 7 (.q 8 (.q 9 (.q 10 (.q 11 (.q 12 (.q 13 (.q 14 (.q 15 (.q 16 (.q 17 .nil)))))))))))))))))) TF.mixed (by kernel_rfl) rfl ?_
   refine RunT.quiet rfl rfl rfl (quiet_eq (sem_fieldAddr ⟨k20, 0, none⟩ 0 rfl TF.fld_160_0 ⟨rfl, rfl⟩)) ?_
   obtain ⟨i23, hl, hS⟩ := hS
   refine RunT.quiet rfl rfl rfl (quiet_eq (sem_load1 ⟨k20, 0, none⟩ ((Value.int .i64 (i23))) rfl TF.agg_3 hl ⟨rfl, rfl⟩)) ?_
   refine RunT.quiet rfl rfl rfl (quiet_eq (sem_move ((Value.slice a4 n5 c6)) rfl ⟨rfl, rfl⟩)) ?_
   refine RunT.quiet rfl rfl rfl (quiet_eq (sem_move ((Value.int .i64 (i9))) rfl ⟨rfl, rfl⟩)) ?_
   obtain ⟨A24, e25, hi0, hi1, hS⟩ := hS
   refine RunT.quiet rfl rfl rfl (quiet_eq (sem_indexAddrS A24 n5 c6 .i64 (i9) (congrArg (fun a => Value.slice a n5 c6) e25) rfl TF.slc_30 hi0 hi1 ⟨rfl, rfl⟩)) ?_
   refine RunT.quiet rfl rfl rfl (quiet_eq (sem_fieldAddr (Addr.add A24 (Int.toNat (i9) * 3)) 1 rfl TF.fld_32_1 ⟨rfl, rfl⟩)) ?_
   obtain ⟨i26, hl, hS⟩ := hS
   refine RunT.quiet rfl rfl rfl (quiet_eq (sem_load1 (Addr.add (Addr.add A24 (Int.toNat (i9) * 3)) 1) ((Value.int .i64 (i26))) rfl TF.agg_3 hl ⟨rfl, rfl⟩)) ?_
   obtain ⟨hT, hF⟩ := hS
   by_cases hb27 : (i23 : Int) = i26
   ·have hS := hT hb27; clear hT hF
    refine RunT.quiet rfl rfl rfl (quiet_eq (sem_binI .i64 (i23) (i26) (.bool false) rfl rfl (binI_neq_t hb27) ⟨rfl, rfl⟩)) ?_
    refine RunT.quiet rfl rfl rfl (quiet_eq (sem_move ((Value.bool false)) rfl ⟨rfl, rfl⟩)) ?_
    refine RunT.quiet rfl rfl rfl (quiet_eq (sem_fieldAddr ⟨k20, 0, none⟩ 1 rfl TF.fld_160_1 ⟨rfl, rfl⟩)) ?_
    obtain ⟨i28, hl, hS⟩ := hS
    refine RunT.quiet rfl rfl rfl (quiet_eq (sem_load1 ⟨k20, 1, none⟩ ((Value.int .i64 (i28))) rfl TF.agg_3 hl ⟨rfl, rfl⟩)) ?_
    refine RunT.quiet rfl rfl rfl (quiet_eq (sem_move ((Value.slice a4 n5 c6)) rfl ⟨rfl, rfl⟩)) ?_
    refine RunT.quiet rfl rfl rfl (quiet_eq (sem_move ((Value.int .i64 (i9))) rfl ⟨rfl, rfl⟩)) ?_
    obtain ⟨A29, e30, hi0, hi1, hS⟩ := hS
    refine RunT.quiet rfl rfl rfl (quiet_eq (sem_indexAddrS A29 n5 c6 .i64 (i9) (congrArg (fun a => Value.slice a n5 c6) e30) rfl TF.slc_30 hi0 hi1 ⟨rfl, rfl⟩)) ?_
    refine RunT.quiet rfl rfl rfl (quiet_eq (sem_fieldAddr (Addr.add A29 (Int.toNat (i9) * 3)) 2 rfl TF.fld_32_2 ⟨rfl, rfl⟩)) ?_
    obtain ⟨i31, hl, hS⟩ := hS
    refine RunT.quiet rfl rfl rfl (quiet_eq (sem_load1 (Addr.add (Addr.add A29 (Int.toNat (i9) * 3)) 2) ((Value.int .i64 (i31))) rfl TF.agg_3 hl ⟨rfl, rfl⟩)) ?_
    obtain ⟨hT, hF⟩ := hS
    by_cases hb32 : (i28 : Int) = i31
    ·have hS := hT hb32; clear hT hF
     refine RunT.quiet rfl rfl rfl (quiet_eq (sem_binI .i64 (i28) (i31) (.bool false) rfl rfl (binI_neq_t hb32) ⟨rfl, rfl⟩)) ?_
     refine RunT.quiet rfl rfl rfl (quiet_eq (sem_pick false ((Value.bool false)) rfl rfl ⟨rfl, rfl⟩)) ?_
     refine Run.condF rfl ?_
     refine Run.skip ?_
     refine Run.inBlock ?_
     refine Run.ops0 (idx := [0, 1]) rfl ?_
     refine Run.go rfl rfl rfl (sem_binI .i64 (i9) (1) ((Value.int .i64 (IntKind.wrap .i64 ((i9) + (1))))) rfl rfl rfl ?_)
     refine Run.go rfl rfl rfl (sem_move ((Value.int .i64 (IntKind.wrap .i64 ((i9) + (1))))) rfl ?_)
     refine Run.region_end ?_
     exact Run.of_fin (hS.imp fun h' ⟨m', hm, hS⟩ => ih13 ((IntKind.wrap .i64 ((i9) + (1))), m') _ _ ⟨hS, ⟨rfl, rfl, rfl, rfl, trivial⟩⟩ hm)
    ·have hS := hF hb32; clear hT hF
     refine RunT.quiet rfl rfl rfl (quiet_eq (sem_binI .i64 (i28) (i31) (.bool true) rfl rfl (binI_neq_f hb32) ⟨rfl, rfl⟩)) ?_
     refine RunT.quiet rfl rfl rfl (quiet_eq (sem_pick false ((Value.bool true)) rfl rfl ⟨rfl, rfl⟩)) ?_
     refine Run.condT rfl ?_
     refine Run.seq ?_
     refine Run.ops0 (idx := [0]) rfl ?_
     refine Run.go rfl rfl rfl (sem_assign ((Value.bool false)) rfl ?_)
     refine Run.region_end ?_
     refine Run.ret ⟨.inr rfl, ?_⟩
     exact hS.imp fun h' hq => ⟨(false), rfl, hq⟩
   ·have hS := hF hb27; clear hT hF
    refine RunT.quiet rfl rfl rfl (quiet_eq (sem_binI .i64 (i23) (i26) (.bool true) rfl rfl (binI_neq_f hb27) ⟨rfl, rfl⟩)) ?_
    refine RunT.quiet rfl rfl rfl (quiet_eq (sem_move ((Value.bool true)) rfl ⟨rfl, rfl⟩)) ?_
    refine RunT.skip rfl rfl rfl ?_
    refine RunT.skip rfl rfl rfl ?_
    refine RunT.skip rfl rfl rfl ?_
    refine RunT.skip rfl rfl rfl ?_
    refine RunT.skip rfl rfl rfl ?_
    refine RunT.skip rfl rfl rfl ?_
    refine RunT.skip rfl rfl rfl ?_
    refine RunT.skip rfl rfl rfl ?_
    refine RunT.quiet rfl rfl rfl (quiet_eq (sem_pick true ((Value.bool true)) rfl rfl ⟨rfl, rfl⟩)) ?_
    refine Run.condT rfl ?_
    refine Run.seq ?_
    refine Run.ops0 (idx := [0]) rfl ?_
    refine Run.go rfl rfl rfl (sem_assign ((Value.bool false)) rfl ?_)
    refine Run.region_end ?_
    refine Run.ret ⟨.inr rfl, ?_⟩
    exact hS.imp fun h' hq => ⟨(false), rfl, hq⟩
  ·have hS := hF hb15; clear hT hF
   refine Run.go rfl rfl rfl (sem_binI .i64 (i9) ((n2 : Nat)) (.bool false) rfl rfl (binI_lss_f hb15) ?_)
   refine Run.region_end ?_
   refine Run.seq ?_
   refine Run.condF rfl ?_
   refine Run.exit rfl ?_
   refine Run.seq ?_
   refine Run.ops0 (idx := [0]) rfl ?_
   refine Run.go rfl rfl rfl (sem_assign ((Value.bool true)) rfl ?_)
   refine Run.region_end ?_
   refine Run.ret ⟨.inr rfl, ?_⟩
   exact hS.imp fun h' hq => ⟨(true), rfl, hq⟩
 ·have hS := hF hb8; clear hT hF
  refine Run.go rfl rfl rfl (sem_binI .i64 ((n2 : Nat)) ((n5 : Nat)) (.bool true) rfl rfl (binI_neq_f hb8) ?_)
  refine Run.region_end ?_
  refine Run.condT rfl ?_
  refine Run.seq ?_
  refine Run.ops0 (idx := [0]) rfl ?_
  refine Run.go rfl rfl rfl (sem_assign ((Value.bool false)) rfl ?_)
  refine Run.region_end ?_
  refine Run.ret ⟨.inr rfl, ?_⟩
  exact hS.imp fun h' hq => ⟨(false), rfl, hq⟩
set_option maxHeartbeats 4000000 in
theorem C_acts_Acts_Back.of {B : RO} {p1 : Option Addr} {i2 : Int} {i3 : Int} {i4 : Int} {i5 : Int} {h : Heap} {Q : Option Addr → Nat → Nat → Heap → Prop} (hS : S_acts_Acts_Back B p1 i2 i3 i4 i5 h Q) : C_acts_Acts_Back B p1 i2 i3 i4 i5 h Q := by
 unfold S_acts_Acts_Back at hS
 unfold C_acts_Acts_Back
 refine Spec.of_run Try.func20 (N := 59) (rs := [ResultVar.tmp 4]) rfl rfl rfl (Nat.le_of_ble_eq_true rfl) ?_
 refine Run.seq ?_
 refine Run.ops0 (idx := [0, 1]) rfl ?_
 refine Run.go rfl rfl rfl (sem_boxNN [(Value.int .i64 (i2)), (Value.int .i64 (i3)), (Value.int .i64 (i4)), (Value.int .i64 (i5))] rfl (fun k9 hb1 hb2 h10 hb3 => ?_))
 have hS := hS k9 hb1 hb2 h10 hb3
 refine Run.go rfl rfl rfl (sem_assign ((Value.slice none 0 0)) rfl ?_)
 refine Run.region_end ?_
 refine Run.seq ?_
 refine Run.seq ?_
 refine Run.ops0 (idx := [0, 1]) rfl ?_
 refine Run.go rfl rfl rfl (sem_move ((Value.pointer p1)) rfl ?_)
 obtain ⟨hT, hF⟩ := hS
 by_cases hb11 : p1 = none
 ·have hS := hT hb11; clear hT hF
  refine Run.go rfl rfl rfl (sem_ptrNilT p1 (.inl rfl) true rfl rfl TF.ptr_24 hb11 rfl ?_)
  refine Run.region_end ?_
  refine Run.condT rfl ?_
  refine Run.seq ?_
  refine Run.ops0 (idx := [0]) rfl ?_
  refine Run.go rfl rfl rfl (sem_assign ((Value.slice none 0 0)) rfl ?_)
  refine Run.region_end ?_
  refine Run.ret ⟨.inr rfl, ?_⟩
  exact hS.imp fun h' hq => ⟨none, 0, 0, rfl, hq⟩
 ·have hS := hF hb11; clear hT hF
  refine Run.go rfl rfl rfl (sem_ptrNilF p1 (.inl rfl) false rfl rfl TF.ptr_24 hb11 rfl ?_)
  refine Run.region_end ?_
  refine Run.condF rfl ?_
  refine Run.skip ?_
  refine Run.seq ?_
  skip
  skip
  obtain ⟨A14, e15, hS⟩ := hS
  skip
  skip
  obtain ⟨a18, n19, c20, hl, hS⟩ := hS
  have f21 := hl
  obtain ⟨hi0, hi1, hS⟩ := hS
  have f23 := hi0; have f24 := hi1
  obtain ⟨i25, hl, hS⟩ := hS
  have f26 := hl
  refine Run.drawM (fun h' => cellH B h' A14 = some (Value.slice a18 n19 c20) ∧ cellH B h' ⟨k9, 0, none⟩ = some (Value.int .i64 (i25)) ∧ True) [10] ⟨[0, 0, 2, 4, 8, 0, 32, 80, 255, 511, 767], [2047, 2047, 2045, 2043, 2039, 2047, 2015, 1967, 2046, 1791, 1407], [0, 0, 2, 6, 14, 0, 32, 126, 255, 511, 1023], 1024⟩ (.q 0 (.q 1 (.q 2 (.q 3 (.q 4 (.q 5 (.q 6 (.x 7 (.q 8 (.q 9 (.x 10 .nil .no))) .no)))))))) TF.mixed (by kernel_rfl) ⟨f21, f26, trivial⟩ ?_
  refine RunT.quiet rfl rfl rfl (fun h' hC => sem_move ((Value.pointer p1)) rfl ⟨rfl, rfl⟩) ?_
  refine RunT.quiet rfl rfl rfl (fun h' hC => sem_move ((Value.pointer p1)) rfl ⟨rfl, rfl⟩) ?_
  refine RunT.quiet rfl rfl rfl (fun h' hC => sem_nilCheck A14 (congrArg Value.pointer e15) ⟨rfl, rfl⟩) ?_
  refine RunT.quiet rfl rfl rfl (fun h' hC => sem_fieldAddr A14 0 rfl TF.fld_29_0 ⟨rfl, rfl⟩) ?_
  refine RunT.quiet rfl rfl rfl (fun h' hC => sem_load1 A14 ((Value.slice a18 n19 c20)) rfl TF.agg_25 hC.1 ⟨rfl, rfl⟩) ?_
  refine RunT.quiet rfl rfl rfl (fun h' hC => sem_indexAddrA ⟨k9, 0, none⟩ .i64 (0) rfl rfl TF.arr_42 f23 f24 ⟨rfl, rfl⟩) ?_
  refine RunT.quiet rfl rfl rfl (fun h' hC => sem_load1 ⟨k9, 0, none⟩ ((Value.int .i64 (i25))) rfl TF.agg_3 hC.2.1 ⟨rfl, rfl⟩) ?_
  refine ⟨?_, trivial⟩
  refine OpH.go rfl rfl rfl (sem_callL [(Value.slice a18 n19 c20), (Value.int .i64 (i25))] (TF.goes_83) rfl rfl (Spec.mono hS fun v h27 hv => ?_))
  obtain ⟨a28, n29, c30, rfl, hS⟩ := hv
  obtain ⟨g31, g32, hS⟩ := hS
  refine ⟨fun _ => ⟨g31, g32, trivial⟩, ?_⟩
  obtain ⟨A33, e34, hS⟩ := hS
  refine RunT.quiet rfl rfl rfl (fun h' hC => sem_nilCheck A33 (congrArg Value.pointer e34) ⟨rfl, rfl⟩) ?_
  refine RunT.quiet rfl rfl rfl (fun h' hC => sem_fieldAddr A33 0 rfl TF.fld_29_0 ⟨rfl, rfl⟩) ?_
  refine ⟨?_, trivial⟩
  obtain ⟨h35, hst, hS⟩ := hS
  refine OpH.go rfl rfl rfl (sem_store1 A33 ((Value.slice a28 n29 c30)) h35 rfl rfl rfl TF.sz_25 hst ?_)
  refine ⟨fun hz => Bool.noConfusion hz, ?_⟩
  refine Run.seq ?_
  skip
  skip
  obtain ⟨A38, e39, hS⟩ := hS
  skip
  skip
  obtain ⟨a42, n43, c44, hl, hS⟩ := hS
  have f45 := hl
  obtain ⟨hi0, hi1, hS⟩ := hS
  have f47 := hi0; have f48 := hi1
  obtain ⟨i49, hl, hS⟩ := hS
  have f50 := hl
  refine Run.drawM (fun h' => cellH B h' (Addr.add A38 1) = some (Value.slice a42 n43 c44) ∧ cellH B h' ⟨k9, 1, none⟩ = some (Value.int .i64 (i49)) ∧ True) [10] ⟨[0, 0, 2, 4, 8, 0, 32, 80, 255, 511, 767], [2047, 2047, 2045, 2043, 2039, 2047, 2015, 1967, 2046, 1791, 1407], [0, 0, 2, 6, 14, 0, 32, 126, 255, 511, 1023], 1024⟩ (.q 0 (.q 1 (.q 2 (.q 3 (.q 4 (.q 5 (.q 6 (.x 7 (.q 8 (.q 9 (.x 10 .nil .no))) .no)))))))) TF.mixed (by kernel_rfl) ⟨f45, f50, trivial⟩ ?_
  refine RunT.quiet rfl rfl rfl (fun h' hC => sem_move ((Value.pointer p1)) rfl ⟨rfl, rfl⟩) ?_
  refine RunT.quiet rfl rfl rfl (fun h' hC => sem_move ((Value.pointer p1)) rfl ⟨rfl, rfl⟩) ?_
  refine RunT.quiet rfl rfl rfl (fun h' hC => sem_nilCheck A38 (congrArg Value.pointer e39) ⟨rfl, rfl⟩) ?_
  refine RunT.quiet rfl rfl rfl (fun h' hC => sem_fieldAddr A38 1 rfl TF.fld_29_1 ⟨rfl, rfl⟩) ?_
  refine RunT.quiet rfl rfl rfl (fun h' hC => sem_load1 (Addr.add A38 1) ((Value.slice a42 n43 c44)) rfl TF.agg_25 hC.1 ⟨rfl, rfl⟩) ?_
  refine RunT.quiet rfl rfl rfl (fun h' hC => sem_indexAddrA ⟨k9, 0, none⟩ .i64 (1) rfl rfl TF.arr_42 f47 f48 ⟨rfl, rfl⟩) ?_
  refine RunT.quiet rfl rfl rfl (fun h' hC => sem_load1 ⟨k9, 1, none⟩ ((Value.int .i64 (i49))) rfl TF.agg_3 hC.2.1 ⟨rfl, rfl⟩) ?_
  refine ⟨?_, trivial⟩
  refine OpH.go rfl rfl rfl (sem_callL [(Value.slice a42 n43 c44), (Value.int .i64 (i49))] (TF.goes_83) rfl rfl (Spec.mono hS fun v h51 hv => ?_))
  obtain ⟨a52, n53, c54, rfl, hS⟩ := hv
  obtain ⟨g55, g56, hS⟩ := hS
  refine ⟨fun _ => ⟨g55, g56, trivial⟩, ?_⟩
  obtain ⟨A57, e58, hS⟩ := hS
  refine RunT.quiet rfl rfl rfl (fun h' hC => sem_nilCheck A57 (congrArg Value.pointer e58) ⟨rfl, rfl⟩) ?_
  refine RunT.quiet rfl rfl rfl (fun h' hC => sem_fieldAddr A57 1 rfl TF.fld_29_1 ⟨rfl, rfl⟩) ?_
  refine ⟨?_, trivial⟩
  obtain ⟨h59, hst, hS⟩ := hS
  refine OpH.go rfl rfl rfl (sem_store1 (Addr.add A57 1) ((Value.slice a52 n53 c54)) h59 rfl rfl rfl TF.sz_25 hst ?_)
  refine ⟨fun hz => Bool.noConfusion hz, ?_⟩
  refine Run.seq ?_
  skip
  skip
  obtain ⟨A62, e63, hS⟩ := hS
  skip
  skip
  obtain ⟨a66, n67, c68, hl, hS⟩ := hS
  have f69 := hl
  obtain ⟨hi0, hi1, hS⟩ := hS
  have f71 := hi0; have f72 := hi1
  obtain ⟨i73, hl, hS⟩ := hS
  have f74 := hl
  refine Run.drawM (fun h' => cellH B h' (Addr.add A62 2) = some (Value.slice a66 n67 c68) ∧ cellH B h' ⟨k9, 2, none⟩ = some (Value.int .i64 (i73)) ∧ True) [10] ⟨[0, 0, 2, 4, 8, 0, 32, 80, 255, 511, 767], [2047, 2047, 2045, 2043, 2039, 2047, 2015, 1967, 2046, 1791, 1407], [0, 0, 2, 6, 14, 0, 32, 126, 255, 511, 1023], 1024⟩ (.q 0 (.q 1 (.q 2 (.q 3 (.q 4 (.q 5 (.q 6 (.x 7 (.q 8 (.q 9 (.x 10 .nil .no))) .no)))))))) TF.mixed (by kernel_rfl) ⟨f69, f74, trivial⟩ ?_
  refine RunT.quiet rfl rfl rfl (fun h' hC => sem_move ((Value.pointer p1)) rfl ⟨rfl, rfl⟩) ?_
  refine RunT.quiet rfl rfl rfl (fun h' hC => sem_move ((Value.pointer p1)) rfl ⟨rfl, rfl⟩) ?_
  refine RunT.quiet rfl rfl rfl (fun h' hC => sem_nilCheck A62 (congrArg Value.pointer e63) ⟨rfl, rfl⟩) ?_
  refine RunT.quiet rfl rfl rfl (fun h' hC => sem_fieldAddr A62 2 rfl TF.fld_29_2 ⟨rfl, rfl⟩) ?_
  refine RunT.quiet rfl rfl rfl (fun h' hC => sem_load1 (Addr.add A62 2) ((Value.slice a66 n67 c68)) rfl TF.agg_26 hC.1 ⟨rfl, rfl⟩) ?_
  refine RunT.quiet rfl rfl rfl (fun h' hC => sem_indexAddrA ⟨k9, 0, none⟩ .i64 (2) rfl rfl TF.arr_42 f71 f72 ⟨rfl, rfl⟩) ?_
  refine RunT.quiet rfl rfl rfl (fun h' hC => sem_load1 ⟨k9, 2, none⟩ ((Value.int .i64 (i73))) rfl TF.agg_3 hC.2.1 ⟨rfl, rfl⟩) ?_
  refine ⟨?_, trivial⟩
  refine OpH.go rfl rfl rfl (sem_callL [(Value.slice a66 n67 c68), (Value.int .i64 (i73))] (TF.goes_84) rfl rfl (Spec.mono hS fun v h75 hv => ?_))
  obtain ⟨a76, n77, c78, rfl, hS⟩ := hv
  obtain ⟨g79, g80, hS⟩ := hS
  refine ⟨fun _ => ⟨g79, g80, trivial⟩, ?_⟩
  obtain ⟨A81, e82, hS⟩ := hS
  refine RunT.quiet rfl rfl rfl (fun h' hC => sem_nilCheck A81 (congrArg Value.pointer e82) ⟨rfl, rfl⟩) ?_
  refine RunT.quiet rfl rfl rfl (fun h' hC => sem_fieldAddr A81 2 rfl TF.fld_29_2 ⟨rfl, rfl⟩) ?_
  refine ⟨?_, trivial⟩
  obtain ⟨h83, hst, hS⟩ := hS
  refine OpH.go rfl rfl rfl (sem_store1 (Addr.add A81 2) ((Value.slice a76 n77 c78)) h83 rfl rfl rfl TF.sz_26 hst ?_)
  refine ⟨fun hz => Bool.noConfusion hz, ?_⟩
  refine Run.seq ?_
  skip
  obtain ⟨A85, e86, hS⟩ := hS
  skip
  skip
  obtain ⟨a89, n90, c91, hl, hS⟩ := hS
  have f92 := hl
  obtain ⟨hi0, hi1, hS⟩ := hS
  have f94 := hi0; have f95 := hi1
  obtain ⟨i96, hl, hS⟩ := hS
  have f97 := hl
  refine Run.drawM (fun h' => cellH B h' (Addr.add A85 3) = some (Value.slice a89 n90 c91) ∧ cellH B h' ⟨k9, 3, none⟩ = some (Value.int .i64 (i96)) ∧ True) [] ⟨[0, 1, 2, 4, 0, 16, 40, 127], [255, 254, 253, 251, 255, 239, 215, 191], [0, 0, 0, 0, 0, 0, 0, 0], 0⟩ (.q 0 (.q 1 (.q 2 (.q 3 (.q 4 (.q 5 (.x 6 (.q 7 .nil) .no))))))) TF.mixed (by kernel_rfl) ⟨f92, f97, trivial⟩ ?_
  refine RunT.quiet rfl rfl rfl (fun h' hC => sem_move ((Value.pointer p1)) rfl ⟨rfl, rfl⟩) ?_
  refine RunT.quiet rfl rfl rfl (fun h' hC => sem_nilCheck A85 (congrArg Value.pointer e86) ⟨rfl, rfl⟩) ?_
  refine RunT.quiet rfl rfl rfl (fun h' hC => sem_fieldAddr A85 3 rfl TF.fld_29_3 ⟨rfl, rfl⟩) ?_
  refine RunT.quiet rfl rfl rfl (fun h' hC => sem_load1 (Addr.add A85 3) ((Value.slice a89 n90 c91)) rfl TF.agg_27 hC.1 ⟨rfl, rfl⟩) ?_
  refine RunT.quiet rfl rfl rfl (fun h' hC => sem_indexAddrA ⟨k9, 0, none⟩ .i64 (3) rfl rfl TF.arr_42 f94 f95 ⟨rfl, rfl⟩) ?_
  refine RunT.quiet rfl rfl rfl (fun h' hC => sem_load1 ⟨k9, 3, none⟩ ((Value.int .i64 (i96))) rfl TF.agg_3 hC.2.1 ⟨rfl, rfl⟩) ?_
  refine ⟨?_, trivial⟩
  refine OpH.go rfl rfl rfl (sem_callL [(Value.slice a89 n90 c91), (Value.int .i64 (i96))] (TF.goes_85) rfl rfl (Spec.mono hS fun v h98 hv => ?_))
  obtain ⟨a99, n100, c101, rfl, hS⟩ := hv
  obtain ⟨g102, g103, hS⟩ := hS
  refine ⟨fun _ => ⟨g102, g103, trivial⟩, ?_⟩
  refine RunT.quiet rfl rfl rfl (fun h' hC => sem_assign ((Value.slice a99 n100 c101)) rfl ⟨rfl, rfl⟩) ?_
  refine Run.seq ?_
  refine Run.ops0 (idx := [0, 1, 2, 3, 4, 5, 6, 7, 8]) rfl ?_
  refine Run.go rfl rfl rfl (sem_move ((Value.pointer p1)) rfl ?_)
  obtain ⟨A104, e105, hS⟩ := hS
  refine Run.go rfl rfl rfl (sem_nilCheck A104 (congrArg Value.pointer e105) ?_)
  refine Run.go rfl rfl rfl (sem_fieldAddr A104 3 rfl TF.fld_29_3 ?_)
  refine Run.ldSl hS fun a106 n107 c108 h109 hl hS => ?_
  refine Run.go rfl rfl rfl (sem_load1 (Addr.add A104 3) ((Value.slice a106 n107 c108)) rfl TF.agg_27 hl ?_)
  refine Run.go rfl rfl rfl (sem_move ((Value.slice a99 n100 c101)) rfl ?_)
  refine Run.go rfl rfl rfl (sem_lenSl a99 n100 c101 rfl TF.sl_27 ?_)
  obtain ⟨hi0, hi1, hi2, hS⟩ := hS
  refine Run.go rfl rfl rfl (sem_sliceSlI a106 n107 c108 ((n100 : Nat)) ((n107 : Nat)) rfl TF.slc_27 ⟨_, rfl⟩ rfl hi0 hi1 hi2 ?_)
  refine Run.go rfl rfl rfl (sem_callL [(Value.slice (if c108 = Int.toNat ((n100 : Nat)) then a106 else Option.map (·.add (Int.toNat ((n100 : Nat)) * 2)) a106) (Int.toNat ((n107 : Nat)) - Int.toNat ((n100 : Nat))) (c108 - Int.toNat ((n100 : Nat))))] (TF.goes_86) rfl rfl (Spec.mono hS fun v h110 hv => ?_))
  obtain ⟨a111, n112, c113, rfl, hS⟩ := hv
  refine Run.go rfl rfl rfl (sem_assign ((Value.slice a111 n112 c113)) rfl ?_)
  refine Run.region_end ?_
  refine Run.seq ?_
  refine Run.ops0 (idx := [0, 1, 2, 3, 4]) rfl ?_
  refine Run.go rfl rfl rfl (sem_move ((Value.pointer p1)) rfl ?_)
  refine Run.go rfl rfl rfl (sem_move ((Value.slice a99 n100 c101)) rfl ?_)
  obtain ⟨A114, e115, hS⟩ := hS
  refine Run.go rfl rfl rfl (sem_nilCheck A114 (congrArg Value.pointer e115) ?_)
  refine Run.go rfl rfl rfl (sem_fieldAddr A114 3 rfl TF.fld_29_3 ?_)
  obtain ⟨h116, hst, hS⟩ := hS
  refine Run.go rfl rfl rfl (sem_store1 (Addr.add A114 3) ((Value.slice a99 n100 c101)) h116 rfl rfl rfl TF.sz_27 hst ?_)
  refine Run.region_end ?_
  refine Run.seq ?_
  refine Run.ops0 (idx := [0, 1]) rfl ?_
  refine Run.go rfl rfl rfl (sem_move ((Value.slice a111 n112 c113)) rfl ?_)
  refine Run.go rfl rfl rfl (sem_assign ((Value.slice a111 n112 c113)) rfl ?_)
  refine Run.region_end ?_
  refine Run.ret ⟨.inr rfl, ?_⟩
  exact hS.imp fun h' hq => ⟨a111, n112, c113, rfl, hq⟩
set_option maxHeartbeats 4000000 in
theorem C_countermandref16_Undo.of {B : RO} {a1 : Option Addr} {n2 : Nat} {c3 : Nat} {h : Heap} {Q : Option Addr → Nat → Nat → Heap → Prop} (hS : S_countermandref16_Undo B a1 n2 c3 h Q) : C_countermandref16_Undo B a1 n2 c3 h Q := by
 unfold S_countermandref16_Undo at hS
 unfold C_countermandref16_Undo
 refine Spec.of_run Try.func21 (N := 24) (rs := [ResultVar.tmp 2]) rfl rfl rfl (Nat.le_of_ble_eq_true rfl) ?_
 refine Run.seq ?_
 refine Run.ops0 (idx := [0]) rfl ?_
 refine Run.go rfl rfl rfl (sem_assign ((Value.slice none 0 0)) rfl ?_)
 refine Run.region_end ?_
 refine Run.seq ?_
 refine Run.ops0 (idx := [0]) rfl ?_
 refine Run.go rfl rfl rfl (sem_assign ((Value.slice none 0 0)) rfl ?_)
 refine Run.region_end ?_
 refine Run.seq ?_
 refine Run.seq ?_
 refine Run.ops0 (idx := [0, 1, 2, 3]) rfl ?_
 refine Run.go rfl rfl rfl (sem_move ((Value.slice a1 n2 c3)) rfl ?_)
 refine Run.go rfl rfl rfl (sem_callL [(Value.slice a1 n2 c3), (Value.int .i64 (3))] (TF.goes_24) rfl rfl (Spec.mono hS fun v h7 hv => ?_))
 obtain ⟨a8, n9, c10, rfl, hS⟩ := hv
 refine Run.go rfl rfl rfl (sem_lenSl a8 n9 c10 rfl TF.sl_30 ?_)
 refine Run.go rfl rfl rfl (sem_move ((Value.int .i64 (0))) rfl ?_)
 refine Run.region_end ?_
 refine Run.block ?_
 obtain ⟨J19, m17, h0, hS⟩ := hS
 refine Run.of_fin (h0.imp fun h' h0 => ?_)
 refine Run.loop (σ := (Option Addr) × Nat × Nat × Int × Nat) (fun x e h => J19 x.1 x.2.1 x.2.2.1 x.2.2.2.1 x.2.2.2.2 h ∧ Agree [(3, (Value.slice x.1 x.2.1 x.2.2.1)), (7, (Value.slice a8 n9 c10)), (8, (Value.int .i64 ((n9 : Nat)))), (9, (Value.int .i64 (x.2.2.2.1)))] e) (fun x => x.2.2.2.2) (none, 0, 0, (0), m17) ⟨h0, ⟨rfl, rfl, rfl, rfl, trivial⟩⟩ ?_; clear h0
 rintro ⟨a11, n12, c13, i14, m16⟩ e h15 ⟨hJ, hag⟩ ih18
 have hS := hS a11 n12 c13 i14 m16 h15 hJ; clear hJ
 refine Run.env hag ?_; clear hag
 refine Run.seq ?_
 refine Run.ops0 (idx := [0]) rfl ?_
 obtain ⟨hT, hF⟩ := hS
 by_cases hb20 : (i14 : Int) < ((n9 : Nat))
 ·have hS := hT hb20; clear hT hF
  refine Run.go rfl rfl rfl (sem_binI .i64 (i14) ((n9 : Nat)) (.bool true) rfl rfl (binI_lss_t hb20) ?_)
  refine Run.region_end ?_
  refine Run.seq ?_
  refine Run.condT rfl ?_
  refine Run.skip ?_
  refine Run.seq ?_
  refine Run.block ?_
  refine Run.seq ?_
  refine Run.ops0 (idx := [0, 1, 2, 3]) rfl ?_
  obtain ⟨A21, e22, hi0, hi1, hS⟩ := hS
  refine Run.go rfl rfl rfl (sem_indexAddrS A21 n9 c10 .i64 (i14) (congrArg (fun a => Value.slice a n9 c10) e22) rfl TF.slc_30 hi0 hi1 ?_)
  obtain ⟨i23, i24, i25, hl, hS⟩ := hS
  refine Run.go rfl rfl rfl (sem_loadN (Addr.add A21 (Int.toNat (i14) * 3)) [(Value.int .i64 (i23)), (Value.int .i64 (i24)), (Value.int .i64 (i25))] rfl TF.agg_32 TF.sz_32 hl ?_)
  refine Run.go rfl rfl rfl (sem_allocN [(Value.int .i64 (0)), (Value.int .i64 (0)), (Value.int .i64 (0))] TF.zero_32 (fun k26 hb1 hb2 h27 hb3 => ?_))
  have hS := hS k26 hb1 hb2 h27 hb3
  obtain ⟨h28, hst, hS⟩ := hS
  refine Run.go rfl rfl rfl (sem_storeN ⟨k26, 0, none⟩ [(Value.int .i64 (i23)), (Value.int .i64 (i24)), (Value.int .i64 (i25))] h28 rfl rfl TF.sz_32 hst ?_)
  refine Run.region_end ?_
  refine Run.ops0 (idx := [0, 1, 2, 3, 4, 5, 6, 7, 8, 9]) rfl ?_
  refine Run.go rfl rfl rfl (sem_fieldAddr ⟨k26, 0, none⟩ 1 rfl TF.fld_32_1 ?_)
  obtain ⟨i29, hl, hS⟩ := hS
  refine Run.go rfl rfl rfl (sem_load1 ⟨k26, 1, none⟩ ((Value.int .i64 (i29))) rfl TF.agg_3 hl ?_)
  refine Run.go rfl rfl rfl (sem_fieldAddr ⟨k26, 0, none⟩ 2 rfl TF.fld_32_2 ?_)
  obtain ⟨i30, hl, hS⟩ := hS
  refine Run.go rfl rfl rfl (sem_load1 ⟨k26, 2, none⟩ ((Value.int .i64 (i30))) rfl TF.agg_3 hl ?_)
  refine Run.go rfl rfl rfl (sem_neg .i64 (i30) rfl ?_)
  refine Run.go rfl rfl rfl (sem_buildSL [(0, (Value.int .i64 (3))), (1, (Value.int .i64 (i29))), (2, (Value.int .i64 (IntKind.wrap .i64 (0 - (i30)))))] [(Value.int .i64 (3)), (Value.int .i64 (i29)), (Value.int .i64 (IntKind.wrap .i64 (0 - (i30))))] TF.zero_32 TF.places_32 rfl rfl ?_)
  refine Run.go rfl rfl rfl (sem_buildSliceL [(0, (Value.agg #[(Value.int .i64 (3)), (Value.int .i64 (i29)), (Value.int .i64 (IntKind.wrap .i64 (0 - (i30))))]))] [(Value.int .i64 (3)), (Value.int .i64 (i29)), (Value.int .i64 (IntKind.wrap .i64 (0 - (i30))))] TF.slc_30 TF.zero_32 rfl (by decide) (by decide) rfl rfl (fun k31 hb1 hb2 h32 hb3 => ?_))
  have hS := hS k31 hb1 hb2 h32 hb3
  refine Run.go rfl rfl rfl (sem_move ((Value.slice a11 n12 c13)) rfl ?_)
  refine Run.go rfl rfl rfl (sem_appendL [(Value.slice (some ⟨k31, 0, none⟩) 1 1), (Value.slice a11 n12 c13)] rfl (semH_mono (fun v h33 hv => ?_) hS))
  obtain ⟨a34, n35, c36, rfl, hS⟩ := hv
  refine Run.go rfl rfl rfl (sem_assign ((Value.slice a34 n35 c36)) rfl ?_)
  refine Run.region_end ?_
  refine Run.inBlock ?_
  refine Run.ops0 (idx := [0, 1]) rfl ?_
  refine Run.go rfl rfl rfl (sem_binI .i64 (i14) (1) ((Value.int .i64 (IntKind.wrap .i64 ((i14) + (1))))) rfl rfl rfl ?_)
  refine Run.go rfl rfl rfl (sem_move ((Value.int .i64 (IntKind.wrap .i64 ((i14) + (1))))) rfl ?_)
  refine Run.region_end ?_
  exact Run.of_fin (hS.imp fun h' ⟨m', hm, hS⟩ => ih18 (a34, n35, c36, (IntKind.wrap .i64 ((i14) + (1))), m') _ _ ⟨hS, ⟨rfl, rfl, rfl, rfl, trivial⟩⟩ hm)
 ·have hS := hF hb20; clear hT hF
  refine Run.go rfl rfl rfl (sem_binI .i64 (i14) ((n9 : Nat)) (.bool false) rfl rfl (binI_lss_f hb20) ?_)
  refine Run.region_end ?_
  refine Run.seq ?_
  refine Run.condF rfl ?_
  refine Run.exit rfl ?_
  refine Run.seq ?_
  refine Run.ops0 (idx := [0, 1]) rfl ?_
  refine Run.go rfl rfl rfl (sem_move ((Value.slice a11 n12 c13)) rfl ?_)
  refine Run.go rfl rfl rfl (sem_assign ((Value.slice a11 n12 c13)) rfl ?_)
  refine Run.region_end ?_
  refine Run.ret ⟨.inr rfl, ?_⟩
  exact hS.imp fun h' hq => ⟨a11, n12, c13, rfl, hq⟩
set_option maxHeartbeats 4000000 in
theorem C_countermandlaw16_outs.of {B : RO} {a1 : Option Addr} {n2 : Nat} {c3 : Nat} {a4 : Option Addr} {n5 : Nat} {c6 : Nat} {h : Heap} {Q : Bool → Heap → Prop} (hS : S_countermandlaw16_outs B a1 n2 c3 a4 n5 c6 h Q) : C_countermandlaw16_outs B a1 n2 c3 a4 n5 c6 h Q := by
 unfold S_countermandlaw16_outs at hS
 unfold C_countermandlaw16_outs
 refine Spec.of_run Try.func22 (N := 39) (rs := [ResultVar.tmp 4]) rfl rfl rfl (Nat.le_of_ble_eq_true rfl) ?_
 refine Run.seq ?_
 refine Run.ops0 (idx := [0]) rfl ?_
 refine Run.go rfl rfl rfl (sem_assign ((Value.bool false)) rfl ?_)
 refine Run.region_end ?_
 refine Run.seq ?_
 refine Run.seq ?_
 refine Run.ops0 (idx := [0, 1, 2, 3, 4]) rfl ?_
 refine Run.go rfl rfl rfl (sem_move ((Value.slice a1 n2 c3)) rfl ?_)
 refine Run.go rfl rfl rfl (sem_lenSl a1 n2 c3 rfl TF.sl_25 ?_)
 refine Run.go rfl rfl rfl (sem_move ((Value.slice a4 n5 c6)) rfl ?_)
 refine Run.go rfl rfl rfl (sem_lenSl a4 n5 c6 rfl TF.sl_30 ?_)
 obtain ⟨hT, hF⟩ := hS
 by_cases hb8 : ((n2 : Nat) : Int) = (n5 : Nat)
 ·have hS := hT hb8; clear hT hF
  refine Run.go rfl rfl rfl (sem_binI .i64 ((n2 : Nat)) ((n5 : Nat)) (.bool false) rfl rfl (binI_neq_t hb8) ?_)
  refine Run.region_end ?_
  refine Run.condF rfl ?_
  refine Run.skip ?_
  refine Run.seq ?_
  refine Run.seq ?_
  refine Run.ops0 (idx := [0, 1, 2]) rfl ?_
  refine Run.go rfl rfl rfl (sem_move ((Value.slice a1 n2 c3)) rfl ?_)
  refine Run.go rfl rfl rfl (sem_lenSl a1 n2 c3 rfl TF.sl_25 ?_)
  refine Run.go rfl rfl rfl (sem_move ((Value.int .i64 (0))) rfl ?_)
  refine Run.region_end ?_
  refine Run.block ?_
  obtain ⟨J14, m12, h0, hS⟩ := hS
  refine Run.of_fin (h0.imp fun h' h0 => ?_)
  refine Run.loop (σ := Int × Nat) (fun x e h => J14 x.1 x.2 h ∧ Agree [(1, (Value.slice a4 n5 c6)), (12, (Value.slice a1 n2 c3)), (13, (Value.int .i64 ((n2 : Nat)))), (14, (Value.int .i64 (x.1)))] e) (fun x => x.2) ((0), m12) ⟨h0, ⟨rfl, rfl, rfl, rfl, trivial⟩⟩ ?_; clear h0
  rintro ⟨i9, m11⟩ e h10 ⟨hJ, hag⟩ ih13
  have hS := hS i9 m11 h10 hJ; clear hJ
  refine Run.env hag ?_; clear hag
  refine Run.seq ?_
  refine Run.ops0 (idx := [0]) rfl ?_
  obtain ⟨hT, hF⟩ := hS
  by_cases hb15 : (i9 : Int) < ((n2 : Nat))
  ·have hS := hT hb15; clear hT hF
   refine Run.go rfl rfl rfl (sem_binI .i64 (i9) ((n2 : Nat)) (.bool true) rfl rfl (binI_lss_t hb15) ?_)
   refine Run.region_end ?_
   refine Run.seq ?_
   refine Run.condT rfl ?_
   refine Run.skip ?_
   refine Run.seq ?_
   refine Run.block ?_
   refine Run.seq ?_
   refine Run.ops0 (idx := [0, 1, 2, 3, 4, 5]) rfl ?_
   refine Run.go rfl rfl rfl (sem_move ((Value.int .i64 (i9))) rfl ?_)
   obtain ⟨A16, e17, hi0, hi1, hS⟩ := hS
   refine Run.go rfl rfl rfl (sem_indexAddrS A16 n2 c3 .i64 (i9) (congrArg (fun a => Value.slice a n2 c3) e17) rfl TF.slc_25 hi0 hi1 ?_)
   obtain ⟨i18, i19, hl, hS⟩ := hS
   refine Run.go rfl rfl rfl (sem_loadN (Addr.add A16 (Int.toNat (i9) * 2)) [(Value.int .i64 (i18)), (Value.int .u8 (i19))] rfl TF.agg_163 TF.sz_163 hl ?_)
   refine Run.go rfl rfl rfl (sem_allocN [(Value.int .i64 (0)), (Value.int .u8 (0))] TF.zero_163 (fun k20 hb1 hb2 h21 hb3 => ?_))
   have hS := hS k20 hb1 hb2 h21 hb3
   refine Run.go rfl rfl rfl (sem_assign ((Value.int .i64 (i9))) rfl ?_)
   obtain ⟨h22, hst, hS⟩ := hS
   refine Run.go rfl rfl rfl (sem_storeN ⟨k20, 0, none⟩ [(Value.int .i64 (i18)), (Value.int .u8 (i19))] h22 rfl rfl TF.sz_163 hst ?_)
   refine Run.region_end ?_
   refine Run.seq ?_
   refine Run.drawM (fun h' => h' = h22) [] ⟨[0, 1, 0, 0, 12, 16, 32, 66, 128, 256, 768, 256, 256, 6400, 8448, 16640, 33024, 66816, 131328], [524287, 524286, 524287, 524287, 524275, 524271, 524255, 524221, 524159, 524031, 523519, 524031, 524031, 517887, 515839, 507647, 491263, 457471, 392959], [0, 0, 0, 0, 0, 0, 0, 0, 0, 0, 0, 0, 0, 0, 0, 0, 0, 0, 0], 0⟩ (.q 0 (.q 1 (.q 2 (.q 3 (.q 4 (.q 5 (.q 6 (.q 7 (.q 8 (.q 9 (.q 10 (.q 11 (.q 12 (.q 13 (.q 14 (.q 15 (.q 16 (.q 17 (.q 18 .nil))))))))))))))))))) TF.mixed (by kernel_rfl) rfl ?_
   refine RunT.quiet rfl rfl rfl (quiet_eq (sem_fieldAddr ⟨k20, 0, none⟩ 0 rfl TF.fld_163_0 ⟨rfl, rfl⟩)) ?_
   obtain ⟨i23, hl, hS⟩ := hS
   refine RunT.quiet rfl rfl rfl (quiet_eq (sem_load1 ⟨k20, 0, none⟩ ((Value.int .i64 (i23))) rfl TF.agg_3 hl ⟨rfl, rfl⟩)) ?_
   refine RunT.quiet rfl rfl rfl (quiet_eq (sem_move ((Value.slice a4 n5 c6)) rfl ⟨rfl, rfl⟩)) ?_
   refine RunT.quiet rfl rfl rfl (quiet_eq (sem_move ((Value.int .i64 (i9))) rfl ⟨rfl, rfl⟩)) ?_
   obtain ⟨A24, e25, hi0, hi1, hS⟩ := hS
   refine RunT.quiet rfl rfl rfl (quiet_eq (sem_indexAddrS A24 n5 c6 .i64 (i9) (congrArg (fun a => Value.slice a n5 c6) e25) rfl TF.slc_30 hi0 hi1 ⟨rfl, rfl⟩)) ?_
   refine RunT.quiet rfl rfl rfl (quiet_eq (sem_fieldAddr (Addr.add A24 (Int.toNat (i9) * 3)) 1 rfl TF.fld_32_1 ⟨rfl, rfl⟩)) ?_
   obtain ⟨i26, hl, hS⟩ := hS
   refine RunT.quiet rfl rfl rfl (quiet_eq (sem_load1 (Addr.add (Addr.add A24 (Int.toNat (i9) * 3)) 1) ((Value.int .i64 (i26))) rfl TF.agg_3 hl ⟨rfl, rfl⟩)) ?_
   obtain ⟨hT, hF⟩ := hS
   by_cases hb27 : (i23 : Int) = i26
   ·have hS := hT hb27; clear hT hF
    refine RunT.quiet rfl rfl rfl (quiet_eq (sem_binI .i64 (i23) (i26) (.bool false) rfl rfl (binI_neq_t hb27) ⟨rfl, rfl⟩)) ?_
    refine RunT.quiet rfl rfl rfl (quiet_eq (sem_move ((Value.bool false)) rfl ⟨rfl, rfl⟩)) ?_
    refine RunT.quiet rfl rfl rfl (quiet_eq (sem_fieldAddr ⟨k20, 0, none⟩ 1 rfl TF.fld_163_1 ⟨rfl, rfl⟩)) ?_
    obtain ⟨i28, hl, hS⟩ := hS
    refine RunT.quiet rfl rfl rfl (quiet_eq (sem_load1 ⟨k20, 1, none⟩ ((Value.int .u8 (i28))) rfl TF.agg_5 hl ⟨rfl, rfl⟩)) ?_
    refine RunT.quiet rfl rfl rfl (quiet_eq (sem_move ((Value.slice a4 n5 c6)) rfl ⟨rfl, rfl⟩)) ?_
    refine RunT.quiet rfl rfl rfl (quiet_eq (sem_move ((Value.int .i64 (i9))) rfl ⟨rfl, rfl⟩)) ?_
    obtain ⟨A29, e30, hi0, hi1, hS⟩ := hS
    refine RunT.quiet rfl rfl rfl (quiet_eq (sem_indexAddrS A29 n5 c6 .i64 (i9) (congrArg (fun a => Value.slice a n5 c6) e30) rfl TF.slc_30 hi0 hi1 ⟨rfl, rfl⟩)) ?_
    refine RunT.quiet rfl rfl rfl (quiet_eq (sem_fieldAddr (Addr.add A29 (Int.toNat (i9) * 3)) 2 rfl TF.fld_32_2 ⟨rfl, rfl⟩)) ?_
    obtain ⟨i31, hl, hS⟩ := hS
    refine RunT.quiet rfl rfl rfl (quiet_eq (sem_load1 (Addr.add (Addr.add A29 (Int.toNat (i9) * 3)) 2) ((Value.int .i64 (i31))) rfl TF.agg_3 hl ⟨rfl, rfl⟩)) ?_
    refine RunT.quiet rfl rfl rfl (quiet_eq (sem_convI .i64 .u8 (i31) rfl TF.int_3 TF.int_5 ⟨rfl, rfl⟩)) ?_
    obtain ⟨hT, hF⟩ := hS
    by_cases hb32 : (i28 : Int) = IntKind.wrap .u8 (i31)
    ·have hS := hT hb32; clear hT hF
     refine RunT.quiet rfl rfl rfl (quiet_eq (sem_binI .u8 (i28) (IntKind.wrap .u8 (i31)) (.bool false) rfl rfl (binI_neq_t hb32) ⟨rfl, rfl⟩)) ?_
     refine RunT.quiet rfl rfl rfl (quiet_eq (sem_pick false ((Value.bool false)) rfl rfl ⟨rfl, rfl⟩)) ?_
     refine Run.condF rfl ?_
     refine Run.skip ?_
     refine Run.inBlock ?_
     refine Run.ops0 (idx := [0, 1]) rfl ?_
     refine Run.go rfl rfl rfl (sem_binI .i64 (i9) (1) ((Value.int .i64 (IntKind.wrap .i64 ((i9) + (1))))) rfl rfl rfl ?_)
     refine Run.go rfl rfl rfl (sem_move ((Value.int .i64 (IntKind.wrap .i64 ((i9) + (1))))) rfl ?_)
     refine Run.region_end ?_
     exact Run.of_fin (hS.imp fun h' ⟨m', hm, hS⟩ => ih13 ((IntKind.wrap .i64 ((i9) + (1))), m') _ _ ⟨hS, ⟨rfl, rfl, rfl, rfl, trivial⟩⟩ hm)
    ·have hS := hF hb32; clear hT hF
     refine RunT.quiet rfl rfl rfl (quiet_eq (sem_binI .u8 (i28) (IntKind.wrap .u8 (i31)) (.bool true) rfl rfl (binI_neq_f hb32) ⟨rfl, rfl⟩)) ?_
     refine RunT.quiet rfl rfl rfl (quiet_eq (sem_pick false ((Value.bool true)) rfl rfl ⟨rfl, rfl⟩)) ?_
     refine Run.condT rfl ?_
     refine Run.seq ?_
     refine Run.ops0 (idx := [0]) rfl ?_
     refine Run.go rfl rfl rfl (sem_assign ((Value.bool false)) rfl ?_)
     refine Run.region_end ?_
     refine Run.ret ⟨.inr rfl, ?_⟩
     exact hS.imp fun h' hq => ⟨(false), rfl, hq⟩
   ·have hS := hF hb27; clear hT hF
    refine RunT.quiet rfl rfl rfl (quiet_eq (sem_binI .i64 (i23) (i26) (.bool true) rfl rfl (binI_neq_f hb27) ⟨rfl, rfl⟩)) ?_
    refine RunT.quiet rfl rfl rfl (quiet_eq (sem_move ((Value.bool true)) rfl ⟨rfl, rfl⟩)) ?_
    refine RunT.skip rfl rfl rfl ?_
    refine RunT.skip rfl rfl rfl ?_
    refine RunT.skip rfl rfl rfl ?_
    refine RunT.skip rfl rfl rfl ?_
    refine RunT.skip rfl rfl rfl ?_
    refine RunT.skip rfl rfl rfl ?_
    refine RunT.skip rfl rfl rfl ?_
    refine RunT.skip rfl rfl rfl ?_
    refine RunT.skip rfl rfl rfl ?_
    refine RunT.quiet rfl rfl rfl (quiet_eq (sem_pick true ((Value.bool true)) rfl rfl ⟨rfl, rfl⟩)) ?_
    refine Run.condT rfl ?_
    refine Run.seq ?_
    refine Run.ops0 (idx := [0]) rfl ?_
    refine Run.go rfl rfl rfl (sem_assign ((Value.bool false)) rfl ?_)
    refine Run.region_end ?_
    refine Run.ret ⟨.inr rfl, ?_⟩
    exact hS.imp fun h' hq => ⟨(false), rfl, hq⟩
  ·have hS := hF hb15; clear hT hF
   refine Run.go rfl rfl rfl (sem_binI .i64 (i9) ((n2 : Nat)) (.bool false) rfl rfl (binI_lss_f hb15) ?_)
   refine Run.region_end ?_
   refine Run.seq ?_
   refine Run.condF rfl ?_
   refine Run.exit rfl ?_
   refine Run.seq ?_
   refine Run.ops0 (idx := [0]) rfl ?_
   refine Run.go rfl rfl rfl (sem_assign ((Value.bool true)) rfl ?_)
   refine Run.region_end ?_
   refine Run.ret ⟨.inr rfl, ?_⟩
   exact hS.imp fun h' hq => ⟨(true), rfl, hq⟩
 ·have hS := hF hb8; clear hT hF
  refine Run.go rfl rfl rfl (sem_binI .i64 ((n2 : Nat)) ((n5 : Nat)) (.bool true) rfl rfl (binI_neq_f hb8) ?_)
  refine Run.region_end ?_
  refine Run.condT rfl ?_
  refine Run.seq ?_
  refine Run.ops0 (idx := [0]) rfl ?_
  refine Run.go rfl rfl rfl (sem_assign ((Value.bool false)) rfl ?_)
  refine Run.region_end ?_
  refine Run.ret ⟨.inr rfl, ?_⟩
  exact hS.imp fun h' hq => ⟨(false), rfl, hq⟩
set_option maxHeartbeats 4000000 in
theorem C_acts_Acts_Flush.of {B : RO} {p1 : Option Addr} {h : Heap} {Q : Option Addr → Nat → Nat → Heap → Prop} (hS : S_acts_Acts_Flush B p1 h Q) : C_acts_Acts_Flush B p1 h Q := by
 unfold S_acts_Acts_Flush at hS
 unfold C_acts_Acts_Flush
 refine Spec.of_run Try.func23 (N := 14) (rs := [ResultVar.tmp 2]) rfl rfl rfl (Nat.le_of_ble_eq_true rfl) ?_
 refine Run.seq ?_
 refine Run.ops0 (idx := [0]) rfl ?_
 refine Run.go rfl rfl rfl (sem_assign ((Value.slice none 0 0)) rfl ?_)
 refine Run.region_end ?_
 refine Run.seq ?_
 refine Run.seq ?_
 refine Run.ops0 (idx := [0, 1]) rfl ?_
 refine Run.go rfl rfl rfl (sem_move ((Value.pointer p1)) rfl ?_)
 obtain ⟨hT, hF⟩ := hS
 by_cases hb5 : p1 = none
 ·have hS := hT hb5; clear hT hF
  refine Run.go rfl rfl rfl (sem_ptrNilT p1 (.inl rfl) true rfl rfl TF.ptr_24 hb5 rfl ?_)
  refine Run.region_end ?_
  refine Run.condT rfl ?_
  refine Run.seq ?_
  refine Run.ops0 (idx := [0]) rfl ?_
  refine Run.go rfl rfl rfl (sem_assign ((Value.slice none 0 0)) rfl ?_)
  refine Run.region_end ?_
  refine Run.ret ⟨.inr rfl, ?_⟩
  exact hS.imp fun h' hq => ⟨none, 0, 0, rfl, hq⟩
 ·have hS := hF hb5; clear hT hF
  refine Run.go rfl rfl rfl (sem_ptrNilF p1 (.inl rfl) false rfl rfl TF.ptr_24 hb5 rfl ?_)
  refine Run.region_end ?_
  refine Run.condF rfl ?_
  refine Run.skip ?_
  refine Run.seq ?_
  refine Run.ops0 (idx := [0, 1, 2, 3, 4]) rfl ?_
  refine Run.go rfl rfl rfl (sem_move ((Value.pointer p1)) rfl ?_)
  obtain ⟨A6, e7, hS⟩ := hS
  refine Run.go rfl rfl rfl (sem_nilCheck A6 (congrArg Value.pointer e7) ?_)
  refine Run.go rfl rfl rfl (sem_fieldAddr A6 0 rfl TF.fld_29_0 ?_)
  refine Run.ldSl hS fun a8 n9 c10 h11 hl hS => ?_
  refine Run.go rfl rfl rfl (sem_load1 A6 ((Value.slice a8 n9 c10)) rfl TF.agg_25 hl ?_)
  refine Run.go rfl rfl rfl (sem_assign ((Value.slice a8 n9 c10)) rfl ?_)
  refine Run.region_end ?_
  refine Run.seq ?_
  refine Run.ops0 (idx := [0, 1, 2, 3]) rfl ?_
  refine Run.go rfl rfl rfl (sem_move ((Value.pointer p1)) rfl ?_)
  obtain ⟨A12, e13, hS⟩ := hS
  refine Run.go rfl rfl rfl (sem_nilCheck A12 (congrArg Value.pointer e13) ?_)
  refine Run.go rfl rfl rfl (sem_fieldAddr A12 0 rfl TF.fld_29_0 ?_)
  obtain ⟨h14, hst, hS⟩ := hS
  refine Run.go rfl rfl rfl (sem_store1 A12 ((Value.slice none 0 0)) h14 rfl rfl rfl TF.sz_25 hst ?_)
  refine Run.region_end ?_
  refine Run.seq ?_
  refine Run.ops0 (idx := [0, 1]) rfl ?_
  refine Run.go rfl rfl rfl (sem_move ((Value.slice a8 n9 c10)) rfl ?_)
  refine Run.go rfl rfl rfl (sem_assign ((Value.slice a8 n9 c10)) rfl ?_)
  refine Run.region_end ?_
  refine Run.ret ⟨.inr rfl, ?_⟩
  exact hS.imp fun h' hq => ⟨a8, n9, c10, rfl, hq⟩
set_option maxHeartbeats 4000000 in
theorem C_countermandref16_Of.of {B : RO} {a1 : Option Addr} {n2 : Nat} {c3 : Nat} {i4 : Int} {h : Heap} {Q : Option Addr → Nat → Nat → Heap → Prop} (hS : S_countermandref16_Of B a1 n2 c3 i4 h Q) : C_countermandref16_Of B a1 n2 c3 i4 h Q := by
 unfold S_countermandref16_Of at hS
 unfold C_countermandref16_Of
 refine Spec.of_run Try.func24 (N := 24) (rs := [ResultVar.tmp 4]) rfl rfl rfl (Nat.le_of_ble_eq_true rfl) ?_
 refine Run.seq ?_
 refine Run.ops0 (idx := [0]) rfl ?_
 refine Run.go rfl rfl rfl (sem_assign ((Value.slice none 0 0)) rfl ?_)
 refine Run.region_end ?_
 refine Run.seq ?_
 refine Run.ops0 (idx := [0]) rfl ?_
 refine Run.go rfl rfl rfl (sem_assign ((Value.slice none 0 0)) rfl ?_)
 refine Run.region_end ?_
 refine Run.seq ?_
 refine Run.seq ?_
 refine Run.ops0 (idx := [0, 1, 2]) rfl ?_
 refine Run.go rfl rfl rfl (sem_move ((Value.slice a1 n2 c3)) rfl ?_)
 refine Run.go rfl rfl rfl (sem_lenSl a1 n2 c3 rfl TF.sl_30 ?_)
 refine Run.go rfl rfl rfl (sem_move ((Value.int .i64 (0))) rfl ?_)
 refine Run.region_end ?_
 refine Run.block ?_
 obtain ⟨J16, m14, h0, hS⟩ := hS
 refine Run.of_fin (h0.imp fun h' h0 => ?_)
 refine Run.loop (σ := (Option Addr) × Nat × Nat × Int × Nat) (fun x e h => J16 x.1 x.2.1 x.2.2.1 x.2.2.2.1 x.2.2.2.2 h ∧ Agree [(1, (Value.int .i64 (i4))), (5, (Value.slice x.1 x.2.1 x.2.2.1)), (8, (Value.slice a1 n2 c3)), (9, (Value.int .i64 ((n2 : Nat)))), (10, (Value.int .i64 (x.2.2.2.1)))] e) (fun x => x.2.2.2.2) (none, 0, 0, (0), m14) ⟨h0, ⟨rfl, rfl, rfl, rfl, rfl, trivial⟩⟩ ?_; clear h0
 rintro ⟨a8, n9, c10, i11, m13⟩ e h12 ⟨hJ, hag⟩ ih15
 have hS := hS a8 n9 c10 i11 m13 h12 hJ; clear hJ
 refine Run.env hag ?_; clear hag
 refine Run.seq ?_
 refine Run.ops0 (idx := [0]) rfl ?_
 obtain ⟨hT, hF⟩ := hS
 by_cases hb17 : (i11 : Int) < ((n2 : Nat))
 ·have hS := hT hb17; clear hT hF
  refine Run.go rfl rfl rfl (sem_binI .i64 (i11) ((n2 : Nat)) (.bool true) rfl rfl (binI_lss_t hb17) ?_)
  refine Run.region_end ?_
  refine Run.seq ?_
  refine Run.condT rfl ?_
  refine Run.skip ?_
  refine Run.seq ?_
  refine Run.block ?_
  refine Run.seq ?_
  refine Run.ops0 (idx := [0, 1, 2, 3]) rfl ?_
  obtain ⟨A18, e19, hi0, hi1, hS⟩ := hS
  refine Run.go rfl rfl rfl (sem_indexAddrS A18 n2 c3 .i64 (i11) (congrArg (fun a => Value.slice a n2 c3) e19) rfl TF.slc_30 hi0 hi1 ?_)
  obtain ⟨i20, i21, i22, hl, hS⟩ := hS
  refine Run.go rfl rfl rfl (sem_loadN (Addr.add A18 (Int.toNat (i11) * 3)) [(Value.int .i64 (i20)), (Value.int .i64 (i21)), (Value.int .i64 (i22))] rfl TF.agg_32 TF.sz_32 hl ?_)
  refine Run.go rfl rfl rfl (sem_allocN [(Value.int .i64 (0)), (Value.int .i64 (0)), (Value.int .i64 (0))] TF.zero_32 (fun k23 hb1 hb2 h24 hb3 => ?_))
  have hS := hS k23 hb1 hb2 h24 hb3
  obtain ⟨h25, hst, hS⟩ := hS
  refine Run.go rfl rfl rfl (sem_storeN ⟨k23, 0, none⟩ [(Value.int .i64 (i20)), (Value.int .i64 (i21)), (Value.int .i64 (i22))] h25 rfl rfl TF.sz_32 hst ?_)
  refine Run.region_end ?_
  refine Run.seq ?_
  refine Run.ops0 (idx := [0, 1, 2, 3]) rfl ?_
  refine Run.go rfl rfl rfl (sem_fieldAddr ⟨k23, 0, none⟩ 0 rfl TF.fld_32_0 ?_)
  obtain ⟨i26, hl, hS⟩ := hS
  refine Run.go rfl rfl rfl (sem_load1 ⟨k23, 0, none⟩ ((Value.int .i64 (i26))) rfl TF.agg_3 hl ?_)
  refine Run.go rfl rfl rfl (sem_move ((Value.int .i64 (i4))) rfl ?_)
  obtain ⟨hT, hF⟩ := hS
  by_cases hb27 : (i26 : Int) = i4
  ·have hS := hT hb27; clear hT hF
   refine Run.go rfl rfl rfl (sem_binI .i64 (i26) (i4) (.bool true) rfl rfl (binI_eql_t hb27) ?_)
   refine Run.region_end ?_
   refine Run.condT rfl ?_
   refine Run.ops0 (idx := [0, 1, 2, 3, 4]) rfl ?_
   refine Run.go rfl rfl rfl (sem_move ((Value.slice a8 n9 c10)) rfl ?_)
   obtain ⟨i28, i29, i30, hl, hS⟩ := hS
   refine Run.go rfl rfl rfl (sem_loadN ⟨k23, 0, none⟩ [(Value.int .i64 (i28)), (Value.int .i64 (i29)), (Value.int .i64 (i30))] rfl TF.agg_32 TF.sz_32 hl ?_)
   refine Run.go rfl rfl rfl (sem_buildSliceL [(0, (Value.agg #[(Value.int .i64 (i28)), (Value.int .i64 (i29)), (Value.int .i64 (i30))]))] [(Value.int .i64 (i28)), (Value.int .i64 (i29)), (Value.int .i64 (i30))] TF.slc_30 TF.zero_32 rfl (by decide) (by decide) rfl rfl (fun k31 hb1 hb2 h32 hb3 => ?_))
   have hS := hS k31 hb1 hb2 h32 hb3
   refine Run.go rfl rfl rfl (sem_appendL [(Value.slice a8 n9 c10), (Value.slice (some ⟨k31, 0, none⟩) 1 1)] rfl (semH_mono (fun v h33 hv => ?_) hS))
   obtain ⟨a34, n35, c36, rfl, hS⟩ := hv
   refine Run.go rfl rfl rfl (sem_assign ((Value.slice a34 n35 c36)) rfl ?_)
   refine Run.region_end ?_
   refine Run.inBlock ?_
   refine Run.ops0 (idx := [0, 1]) rfl ?_
   refine Run.go rfl rfl rfl (sem_binI .i64 (i11) (1) ((Value.int .i64 (IntKind.wrap .i64 ((i11) + (1))))) rfl rfl rfl ?_)
   refine Run.go rfl rfl rfl (sem_move ((Value.int .i64 (IntKind.wrap .i64 ((i11) + (1))))) rfl ?_)
   refine Run.region_end ?_
   exact Run.of_fin (hS.imp fun h' ⟨m', hm, hS⟩ => ih15 (a34, n35, c36, (IntKind.wrap .i64 ((i11) + (1))), m') _ _ ⟨hS, ⟨rfl, rfl, rfl, rfl, rfl, trivial⟩⟩ hm)
  ·have hS := hF hb27; clear hT hF
   refine Run.go rfl rfl rfl (sem_binI .i64 (i26) (i4) (.bool false) rfl rfl (binI_eql_f hb27) ?_)
   refine Run.region_end ?_
   refine Run.condF rfl ?_
   refine Run.skip ?_
   refine Run.inBlock ?_
   refine Run.ops0 (idx := [0, 1]) rfl ?_
   refine Run.go rfl rfl rfl (sem_binI .i64 (i11) (1) ((Value.int .i64 (IntKind.wrap .i64 ((i11) + (1))))) rfl rfl rfl ?_)
   refine Run.go rfl rfl rfl (sem_move ((Value.int .i64 (IntKind.wrap .i64 ((i11) + (1))))) rfl ?_)
   refine Run.region_end ?_
   exact Run.of_fin (hS.imp fun h' ⟨m', hm, hS⟩ => ih15 (a8, n9, c10, (IntKind.wrap .i64 ((i11) + (1))), m') _ _ ⟨hS, ⟨rfl, rfl, rfl, rfl, rfl, trivial⟩⟩ hm)
 ·have hS := hF hb17; clear hT hF
  refine Run.go rfl rfl rfl (sem_binI .i64 (i11) ((n2 : Nat)) (.bool false) rfl rfl (binI_lss_f hb17) ?_)
  refine Run.region_end ?_
  refine Run.seq ?_
  refine Run.condF rfl ?_
  refine Run.exit rfl ?_
  refine Run.seq ?_
  refine Run.ops0 (idx := [0, 1]) rfl ?_
  refine Run.go rfl rfl rfl (sem_move ((Value.slice a8 n9 c10)) rfl ?_)
  refine Run.go rfl rfl rfl (sem_assign ((Value.slice a8 n9 c10)) rfl ?_)
  refine Run.region_end ?_
  refine Run.ret ⟨.inr rfl, ?_⟩
  exact hS.imp fun h' hq => ⟨a8, n9, c10, rfl, hq⟩
set_option maxHeartbeats 4000000 in
theorem C_acts_Acts_Notes.of {B : RO} {p1 : Option Addr} {h : Heap} {Q : Option Addr → Nat → Nat → Heap → Prop} (hS : S_acts_Acts_Notes B p1 h Q) : C_acts_Acts_Notes B p1 h Q := by
 unfold S_acts_Acts_Notes at hS
 unfold C_acts_Acts_Notes
 refine Spec.of_run Try.func25 (N := 10) (rs := [ResultVar.tmp 2]) rfl rfl rfl (Nat.le_of_ble_eq_true rfl) ?_
 refine Run.seq ?_
 refine Run.ops0 (idx := [0]) rfl ?_
 refine Run.go rfl rfl rfl (sem_assign ((Value.slice none 0 0)) rfl ?_)
 refine Run.region_end ?_
 refine Run.seq ?_
 refine Run.seq ?_
 refine Run.ops0 (idx := [0, 1]) rfl ?_
 refine Run.go rfl rfl rfl (sem_move ((Value.pointer p1)) rfl ?_)
 obtain ⟨hT, hF⟩ := hS
 by_cases hb5 : p1 = none
 ·have hS := hT hb5; clear hT hF
  refine Run.go rfl rfl rfl (sem_ptrNilT p1 (.inl rfl) true rfl rfl TF.ptr_24 hb5 rfl ?_)
  refine Run.region_end ?_
  refine Run.condT rfl ?_
  refine Run.seq ?_
  refine Run.ops0 (idx := [0]) rfl ?_
  refine Run.go rfl rfl rfl (sem_assign ((Value.slice none 0 0)) rfl ?_)
  refine Run.region_end ?_
  refine Run.ret ⟨.inr rfl, ?_⟩
  exact hS.imp fun h' hq => ⟨none, 0, 0, rfl, hq⟩
 ·have hS := hF hb5; clear hT hF
  refine Run.go rfl rfl rfl (sem_ptrNilF p1 (.inl rfl) false rfl rfl TF.ptr_24 hb5 rfl ?_)
  refine Run.region_end ?_
  refine Run.condF rfl ?_
  refine Run.skip ?_
  refine Run.seq ?_
  refine Run.ops0 (idx := [0, 1, 2, 3, 4, 5]) rfl ?_
  refine Run.go rfl rfl rfl (sem_move ((Value.pointer p1)) rfl ?_)
  obtain ⟨A6, e7, hS⟩ := hS
  refine Run.go rfl rfl rfl (sem_nilCheck A6 (congrArg Value.pointer e7) ?_)
  refine Run.go rfl rfl rfl (sem_fieldAddr A6 2 rfl TF.fld_29_2 ?_)
  refine Run.ldSl hS fun a8 n9 c10 h11 hl hS => ?_
  refine Run.go rfl rfl rfl (sem_load1 (Addr.add A6 2) ((Value.slice a8 n9 c10)) rfl TF.agg_26 hl ?_)
  refine Run.go rfl rfl rfl (sem_callL [(Value.slice a8 n9 c10)] (TF.goes_87) rfl rfl (Spec.mono hS fun v h12 hv => ?_))
  obtain ⟨a13, n14, c15, rfl, hS⟩ := hv
  refine Run.go rfl rfl rfl (sem_assign ((Value.slice a13 n14 c15)) rfl ?_)
  refine Run.region_end ?_
  refine Run.ret ⟨.inr rfl, ?_⟩
  exact hS.imp fun h' hq => ⟨a13, n14, c15, rfl, hq⟩
set_option maxHeartbeats 4000000 in
theorem C_acts_Acts_Mark.of {B : RO} {p1 : Option Addr} {h : Heap} {Q : Int → Int → Int → Int → Heap → Prop} (hS : S_acts_Acts_Mark B p1 h Q) : C_acts_Acts_Mark B p1 h Q := by
 unfold S_acts_Acts_Mark at hS
 unfold C_acts_Acts_Mark
 refine Spec.of_run Try.func26 (N := 27) (rs := [ResultVar.cell 2 42]) rfl rfl rfl (Nat.le_of_ble_eq_true rfl) ?_
 refine Run.seq ?_
 refine Run.ops0 (idx := [0]) rfl ?_
 refine Run.go rfl rfl rfl (sem_allocN [(Value.int .i64 (0)), (Value.int .i64 (0)), (Value.int .i64 (0)), (Value.int .i64 (0))] TF.zero_42 (fun k6 hb1 hb2 h7 hb3 => ?_))
 have hS := hS k6 hb1 hb2 h7 hb3
 refine Run.region_end ?_
 refine Run.seq ?_
 refine Run.seq ?_
 refine Run.ops0 (idx := [0, 1]) rfl ?_
 refine Run.go rfl rfl rfl (sem_move ((Value.pointer p1)) rfl ?_)
 obtain ⟨hT, hF⟩ := hS
 by_cases hb8 : p1 = none
 ·have hS := hT hb8; clear hT hF
  refine Run.go rfl rfl rfl (sem_ptrNilT p1 (.inl rfl) true rfl rfl TF.ptr_24 hb8 rfl ?_)
  refine Run.region_end ?_
  refine Run.condT rfl ?_
  refine Run.seq ?_
  refine Run.ops0 (idx := [0, 1]) rfl ?_
  refine Run.go rfl rfl rfl (sem_buildAL [] [(Value.int .i64 (0)), (Value.int .i64 (0)), (Value.int .i64 (0)), (Value.int .i64 (0))] TF.zero_42 TF.arr_42 rfl rfl ?_)
  obtain ⟨h9, hst, hS⟩ := hS
  refine Run.go rfl rfl rfl (sem_storeN ⟨k6, 0, none⟩ [(Value.int .i64 (0)), (Value.int .i64 (0)), (Value.int .i64 (0)), (Value.int .i64 (0))] h9 rfl rfl TF.sz_42 hst ?_)
  refine Run.region_end ?_
  obtain ⟨i10, i11, i12, i13, hl0, hS⟩ := hS
  refine Run.ret ⟨.inr rfl, ?_⟩
  exact ⟨⟨k6, 0, none⟩, (Value.agg #[(Value.int .i64 (i10)), (Value.int .i64 (i11)), (Value.int .i64 (i12)), (Value.int .i64 (i13))]), rfl, loadHN TF.agg_42 TF.sz_42 hl0, hS.imp fun h' hq => ⟨(i10), (i11), (i12), (i13), rfl, hq⟩⟩
 ·have hS := hF hb8; clear hT hF
  refine Run.go rfl rfl rfl (sem_ptrNilF p1 (.inl rfl) false rfl rfl TF.ptr_24 hb8 rfl ?_)
  refine Run.region_end ?_
  refine Run.condF rfl ?_
  refine Run.skip ?_
  refine Run.seq ?_
  refine Run.drawM (fun h' => h' = h7) [21] ⟨[0, 1, 2, 4, 8, 0, 32, 64, 128, 256, 0, 1024, 2048, 4096, 8192, 0, 32768, 65536, 131072, 262144, 541200, 2097151], [4194303, 4194302, 4194301, 4194299, 4194295, 4194303, 4194271, 4194239, 4194175, 4194047, 4194303, 4193279, 4192255, 4190207, 4186111, 4194303, 4161535, 4128767, 4063231, 3932159, 3653103, 3145727], [0, 1, 3, 7, 15, 0, 32, 96, 224, 480, 0, 1024, 3072, 7168, 15360, 0, 32768, 98304, 229376, 491520, 1048575, 2097151], 2097152⟩ (.q 0 (.q 1 (.q 2 (.q 3 (.q 4 (.q 5 (.q 6 (.q 7 (.q 8 (.q 9 (.q 10 (.q 11 (.q 12 (.q 13 (.q 14 (.q 15 (.q 16 (.q 17 (.q 18 (.q 19 (.q 20 (.x 21 .nil .no)))))))))))))))))))))) TF.mixed (by kernel_rfl) rfl ?_
  refine RunT.quiet rfl rfl rfl (quiet_eq (sem_move ((Value.pointer p1)) rfl ⟨rfl, rfl⟩)) ?_
  obtain ⟨A14, e15, hS⟩ := hS
  refine RunT.quiet rfl rfl rfl (quiet_eq (sem_nilCheck A14 (congrArg Value.pointer e15) ⟨rfl, rfl⟩)) ?_
  refine RunT.quiet rfl rfl rfl (quiet_eq (sem_fieldAddr A14 0 rfl TF.fld_29_0 ⟨rfl, rfl⟩)) ?_
  obtain ⟨a16, n17, c18, hl, hS⟩ := hS
  refine RunT.quiet rfl rfl rfl (quiet_eq (sem_load1 A14 ((Value.slice a16 n17 c18)) rfl TF.agg_25 hl ⟨rfl, rfl⟩)) ?_
  refine RunT.quiet rfl rfl rfl (quiet_eq (sem_lenSl a16 n17 c18 rfl TF.sl_25 ⟨rfl, rfl⟩)) ?_
  refine RunT.quiet rfl rfl rfl (quiet_eq (sem_move ((Value.pointer p1)) rfl ⟨rfl, rfl⟩)) ?_
  obtain ⟨A19, e20, hS⟩ := hS
  refine RunT.quiet rfl rfl rfl (quiet_eq (sem_nilCheck A19 (congrArg Value.pointer e20) ⟨rfl, rfl⟩)) ?_
  refine RunT.quiet rfl rfl rfl (quiet_eq (sem_fieldAddr A19 1 rfl TF.fld_29_1 ⟨rfl, rfl⟩)) ?_
  obtain ⟨a21, n22, c23, hl, hS⟩ := hS
  refine RunT.quiet rfl rfl rfl (quiet_eq (sem_load1 (Addr.add A19 1) ((Value.slice a21 n22 c23)) rfl TF.agg_25 hl ⟨rfl, rfl⟩)) ?_
  refine RunT.quiet rfl rfl rfl (quiet_eq (sem_lenSl a21 n22 c23 rfl TF.sl_25 ⟨rfl, rfl⟩)) ?_
  refine RunT.quiet rfl rfl rfl (quiet_eq (sem_move ((Value.pointer p1)) rfl ⟨rfl, rfl⟩)) ?_
  obtain ⟨A24, e25, hS⟩ := hS
  refine RunT.quiet rfl rfl rfl (quiet_eq (sem_nilCheck A24 (congrArg Value.pointer e25) ⟨rfl, rfl⟩)) ?_
  refine RunT.quiet rfl rfl rfl (quiet_eq (sem_fieldAddr A24 2 rfl TF.fld_29_2 ⟨rfl, rfl⟩)) ?_
  obtain ⟨a26, n27, c28, hl, hS⟩ := hS
  refine RunT.quiet rfl rfl rfl (quiet_eq (sem_load1 (Addr.add A24 2) ((Value.slice a26 n27 c28)) rfl TF.agg_26 hl ⟨rfl, rfl⟩)) ?_
  refine RunT.quiet rfl rfl rfl (quiet_eq (sem_lenSl a26 n27 c28 rfl TF.sl_26 ⟨rfl, rfl⟩)) ?_
  refine RunT.quiet rfl rfl rfl (quiet_eq (sem_move ((Value.pointer p1)) rfl ⟨rfl, rfl⟩)) ?_
  obtain ⟨A29, e30, hS⟩ := hS
  refine RunT.quiet rfl rfl rfl (quiet_eq (sem_nilCheck A29 (congrArg Value.pointer e30) ⟨rfl, rfl⟩)) ?_
  refine RunT.quiet rfl rfl rfl (quiet_eq (sem_fieldAddr A29 3 rfl TF.fld_29_3 ⟨rfl, rfl⟩)) ?_
  obtain ⟨a31, n32, c33, hl, hS⟩ := hS
  refine RunT.quiet rfl rfl rfl (quiet_eq (sem_load1 (Addr.add A29 3) ((Value.slice a31 n32 c33)) rfl TF.agg_27 hl ⟨rfl, rfl⟩)) ?_
  refine RunT.quiet rfl rfl rfl (quiet_eq (sem_lenSl a31 n32 c33 rfl TF.sl_27 ⟨rfl, rfl⟩)) ?_
  refine RunT.quiet rfl rfl rfl (quiet_eq (sem_buildAL [(0, (Value.int .i64 ((n17 : Nat)))), (1, (Value.int .i64 ((n22 : Nat)))), (2, (Value.int .i64 ((n27 : Nat)))), (3, (Value.int .i64 ((n32 : Nat))))] [(Value.int .i64 ((n17 : Nat))), (Value.int .i64 ((n22 : Nat))), (Value.int .i64 ((n27 : Nat))), (Value.int .i64 ((n32 : Nat)))] TF.zero_42 TF.arr_42 rfl rfl ⟨rfl, rfl⟩)) ?_
  refine ⟨?_, trivial⟩
  obtain ⟨h34, hst, hS⟩ := hS
  refine OpH.go rfl rfl rfl (sem_storeN ⟨k6, 0, none⟩ [(Value.int .i64 ((n17 : Nat))), (Value.int .i64 ((n22 : Nat))), (Value.int .i64 ((n27 : Nat))), (Value.int .i64 ((n32 : Nat)))] h34 rfl rfl TF.sz_42 hst ?_)
  refine ⟨fun hz => Bool.noConfusion hz, ?_⟩
  obtain ⟨i35, i36, i37, i38, hl0, hS⟩ := hS
  refine Run.ret ⟨.inr rfl, ?_⟩
  exact ⟨⟨k6, 0, none⟩, (Value.agg #[(Value.int .i64 (i35)), (Value.int .i64 (i36)), (Value.int .i64 (i37)), (Value.int .i64 (i38))]), rfl, loadHN TF.agg_42 TF.sz_42 hl0, hS.imp fun h' hq => ⟨(i35), (i36), (i37), (i38), rfl, hq⟩⟩
set_option maxHeartbeats 4000000 in
theorem C_countermandref16_Count.of {B : RO} {a1 : Option Addr} {n2 : Nat} {c3 : Nat} {h : Heap} {Q : Int → Int → Int → Int → Heap → Prop} (hS : S_countermandref16_Count B a1 n2 c3 h Q) : C_countermandref16_Count B a1 n2 c3 h Q := by
 unfold S_countermandref16_Count at hS
 unfold C_countermandref16_Count
 refine Spec.of_run Try.func27 (N := 20) (rs := [ResultVar.cell 2 33]) rfl rfl rfl (Nat.le_of_ble_eq_true rfl) ?_
 refine Run.seq ?_
 refine Run.ops0 (idx := [0]) rfl ?_
 refine Run.go rfl rfl rfl (sem_allocN [(Value.int .i64 (0)), (Value.int .i64 (0)), (Value.int .i64 (0)), (Value.int .i64 (0))] TF.zero_33 (fun k8 hb1 hb2 h9 hb3 => ?_))
 have hS := hS k8 hb1 hb2 h9 hb3
 refine Run.region_end ?_
 refine Run.seq ?_
 refine Run.ops0 (idx := [0]) rfl ?_
 refine Run.go rfl rfl rfl (sem_allocN [(Value.int .i64 (0)), (Value.int .i64 (0)), (Value.int .i64 (0)), (Value.int .i64 (0))] TF.zero_33 (fun k10 hb1 hb2 h11 hb3 => ?_))
 have hS := hS k10 hb1 hb2 h11 hb3
 refine Run.region_end ?_
 refine Run.seq ?_
 refine Run.seq ?_
 refine Run.ops0 (idx := [0, 1, 2]) rfl ?_
 refine Run.go rfl rfl rfl (sem_move ((Value.slice a1 n2 c3)) rfl ?_)
 refine Run.go rfl rfl rfl (sem_lenSl a1 n2 c3 rfl TF.sl_30 ?_)
 refine Run.go rfl rfl rfl (sem_move ((Value.int .i64 (0))) rfl ?_)
 refine Run.region_end ?_
 refine Run.block ?_
 obtain ⟨J17, m15, h0, hS⟩ := hS
 refine Run.of_fin (h0.imp fun h' h0 => ?_)
 refine Run.loop (σ := Int × Nat) (fun x e h => J17 x.1 x.2 h ∧ Agree [(2, (Value.pointer (some ⟨k8, 0, none⟩))), (3, (Value.pointer (some ⟨k10, 0, none⟩))), (6, (Value.slice a1 n2 c3)), (7, (Value.int .i64 ((n2 : Nat)))), (8, (Value.int .i64 (x.1)))] e) (fun x => x.2) ((0), m15) ⟨h0, ⟨rfl, rfl, rfl, rfl, rfl, trivial⟩⟩ ?_; clear h0
 rintro ⟨i12, m14⟩ e h13 ⟨hJ, hag⟩ ih16
 have hS := hS i12 m14 h13 hJ; clear hJ
 refine Run.env hag ?_; clear hag
 refine Run.seq ?_
 refine Run.ops0 (idx := [0]) rfl ?_
 obtain ⟨hT, hF⟩ := hS
 by_cases hb18 : (i12 : Int) < ((n2 : Nat))
 ·have hS := hT hb18; clear hT hF
  refine Run.go rfl rfl rfl (sem_binI .i64 (i12) ((n2 : Nat)) (.bool true) rfl rfl (binI_lss_t hb18) ?_)
  refine Run.region_end ?_
  refine Run.seq ?_
  refine Run.condT rfl ?_
  refine Run.skip ?_
  refine Run.seq ?_
  refine Run.block ?_
  refine Run.seq ?_
  refine Run.ops0 (idx := [0, 1, 2, 3]) rfl ?_
  obtain ⟨A19, e20, hi0, hi1, hS⟩ := hS
  refine Run.go rfl rfl rfl (sem_indexAddrS A19 n2 c3 .i64 (i12) (congrArg (fun a => Value.slice a n2 c3) e20) rfl TF.slc_30 hi0 hi1 ?_)
  obtain ⟨i21, i22, i23, hl, hS⟩ := hS
  refine Run.go rfl rfl rfl (sem_loadN (Addr.add A19 (Int.toNat (i12) * 3)) [(Value.int .i64 (i21)), (Value.int .i64 (i22)), (Value.int .i64 (i23))] rfl TF.agg_32 TF.sz_32 hl ?_)
  refine Run.go rfl rfl rfl (sem_allocN [(Value.int .i64 (0)), (Value.int .i64 (0)), (Value.int .i64 (0))] TF.zero_32 (fun k24 hb1 hb2 h25 hb3 => ?_))
  have hS := hS k24 hb1 hb2 h25 hb3
  obtain ⟨h26, hst, hS⟩ := hS
  refine Run.go rfl rfl rfl (sem_storeN ⟨k24, 0, none⟩ [(Value.int .i64 (i21)), (Value.int .i64 (i22)), (Value.int .i64 (i23))] h26 rfl rfl TF.sz_32 hst ?_)
  refine Run.region_end ?_
  refine Run.ops0 (idx := [0, 1, 2, 3, 4, 5, 6]) rfl ?_
  refine Run.go rfl rfl rfl (sem_fieldAddr ⟨k24, 0, none⟩ 0 rfl TF.fld_32_0 ?_)
  obtain ⟨i27, hl, hS⟩ := hS
  refine Run.go rfl rfl rfl (sem_load1 ⟨k24, 0, none⟩ ((Value.int .i64 (i27))) rfl TF.agg_3 hl ?_)
  obtain ⟨hi0, hi1, hS⟩ := hS
  refine Run.go rfl rfl rfl (sem_indexAddrA ⟨k10, 0, none⟩ .i64 (i27) rfl rfl TF.arr_33 hi0 hi1 ?_)
  obtain ⟨i28, hl, hS⟩ := hS
  refine Run.go rfl rfl rfl (sem_load1 (Addr.add ⟨k10, 0, none⟩ (Int.toNat (i27) * 1)) ((Value.int .i64 (i28))) rfl TF.agg_3 hl ?_)
  refine Run.go rfl rfl rfl (sem_binI .i64 (i28) (1) ((Value.int .i64 (IntKind.wrap .i64 ((i28) + (1))))) rfl rfl rfl ?_)
  obtain ⟨hi0, hi1, hS⟩ := hS
  refine Run.go rfl rfl rfl (sem_indexAddrA ⟨k10, 0, none⟩ .i64 (i27) rfl rfl TF.arr_33 hi0 hi1 ?_)
  obtain ⟨h29, hst, hS⟩ := hS
  refine Run.go rfl rfl rfl (sem_store1 (Addr.add ⟨k10, 0, none⟩ (Int.toNat (i27) * 1)) ((Value.int .i64 (IntKind.wrap .i64 ((i28) + (1))))) h29 rfl rfl rfl TF.sz_3 hst ?_)
  refine Run.region_end ?_
  refine Run.inBlock ?_
  refine Run.ops0 (idx := [0, 1]) rfl ?_
  refine Run.go rfl rfl rfl (sem_binI .i64 (i12) (1) ((Value.int .i64 (IntKind.wrap .i64 ((i12) + (1))))) rfl rfl rfl ?_)
  refine Run.go rfl rfl rfl (sem_move ((Value.int .i64 (IntKind.wrap .i64 ((i12) + (1))))) rfl ?_)
  refine Run.region_end ?_
  exact Run.of_fin (hS.imp fun h' ⟨m', hm, hS⟩ => ih16 ((IntKind.wrap .i64 ((i12) + (1))), m') _ _ ⟨hS, ⟨rfl, rfl, rfl, rfl, rfl, trivial⟩⟩ hm)
 ·have hS := hF hb18; clear hT hF
  refine Run.go rfl rfl rfl (sem_binI .i64 (i12) ((n2 : Nat)) (.bool false) rfl rfl (binI_lss_f hb18) ?_)
  refine Run.region_end ?_
  refine Run.seq ?_
  refine Run.condF rfl ?_
  refine Run.exit rfl ?_
  refine Run.seq ?_
  refine Run.ops0 (idx := [0, 1]) rfl ?_
  obtain ⟨i30, i31, i32, i33, hl, hS⟩ := hS
  refine Run.go rfl rfl rfl (sem_loadN ⟨k10, 0, none⟩ [(Value.int .i64 (i30)), (Value.int .i64 (i31)), (Value.int .i64 (i32)), (Value.int .i64 (i33))] rfl TF.agg_33 TF.sz_33 hl ?_)
  obtain ⟨h34, hst, hS⟩ := hS
  refine Run.go rfl rfl rfl (sem_storeN ⟨k8, 0, none⟩ [(Value.int .i64 (i30)), (Value.int .i64 (i31)), (Value.int .i64 (i32)), (Value.int .i64 (i33))] h34 rfl rfl TF.sz_33 hst ?_)
  refine Run.region_end ?_
  obtain ⟨i35, i36, i37, i38, hl0, hS⟩ := hS
  refine Run.ret ⟨.inr rfl, ?_⟩
  exact ⟨⟨k8, 0, none⟩, (Value.agg #[(Value.int .i64 (i35)), (Value.int .i64 (i36)), (Value.int .i64 (i37)), (Value.int .i64 (i38))]), rfl, loadHN TF.agg_33 TF.sz_33 hl0, hS.imp fun h' hq => ⟨(i35), (i36), (i37), (i38), rfl, hq⟩⟩
set_option maxHeartbeats 4000000 in
theorem C_acts_Acts_Output.of {B : RO} {p1 : Option Addr} {h : Heap} {Q : Option Addr → Nat → Nat → Heap → Prop} (hS : S_acts_Acts_Output B p1 h Q) : C_acts_Acts_Output B p1 h Q := by
 unfold S_acts_Acts_Output at hS
 unfold C_acts_Acts_Output
 refine Spec.of_run Try.func28 (N := 15) (rs := [ResultVar.tmp 2]) rfl rfl rfl (Nat.le_of_ble_eq_true rfl) ?_
 refine Run.seq ?_
 refine Run.ops0 (idx := [0]) rfl ?_
 refine Run.go rfl rfl rfl (sem_assign ((Value.slice none 0 0)) rfl ?_)
 refine Run.region_end ?_
 refine Run.seq ?_
 refine Run.seq ?_
 refine Run.ops0 (idx := [0, 1]) rfl ?_
 refine Run.go rfl rfl rfl (sem_move ((Value.pointer p1)) rfl ?_)
 obtain ⟨hT, hF⟩ := hS
 by_cases hb5 : p1 = none
 ·have hS := hT hb5; clear hT hF
  refine Run.go rfl rfl rfl (sem_ptrNilT p1 (.inl rfl) true rfl rfl TF.ptr_24 hb5 rfl ?_)
  refine Run.region_end ?_
  refine Run.condT rfl ?_
  refine Run.seq ?_
  refine Run.ops0 (idx := [0]) rfl ?_
  refine Run.go rfl rfl rfl (sem_assign ((Value.slice none 0 0)) rfl ?_)
  refine Run.region_end ?_
  refine Run.ret ⟨.inr rfl, ?_⟩
  exact hS.imp fun h' hq => ⟨none, 0, 0, rfl, hq⟩
 ·have hS := hF hb5; clear hT hF
  refine Run.go rfl rfl rfl (sem_ptrNilF p1 (.inl rfl) false rfl rfl TF.ptr_24 hb5 rfl ?_)
  refine Run.region_end ?_
  refine Run.condF rfl ?_
  refine Run.skip ?_
  refine Run.seq ?_
  skip
  obtain ⟨A7, e8, hS⟩ := hS
  skip
  skip
  obtain ⟨a11, n12, c13, hl, hS⟩ := hS
  have f14 := hl
  skip
  obtain ⟨A16, e17, hS⟩ := hS
  skip
  skip
  obtain ⟨a20, n21, c22, hl, hS⟩ := hS
  have f23 := hl
  refine Run.drawM (fun h' => cellH B h' A7 = some (Value.slice a11 n12 c13) ∧ cellH B h' (Addr.add A16 1) = some (Value.slice a20 n21 c22) ∧ True) [] ⟨[0, 1, 2, 4, 0, 16, 32, 64, 136, 256, 1023], [2047, 2046, 2045, 2043, 2047, 2031, 2015, 1983, 1911, 1791, 1535], [0, 0, 0, 0, 0, 0, 0, 0, 0, 0, 0], 0⟩ (.q 0 (.q 1 (.q 2 (.q 3 (.q 4 (.q 5 (.q 6 (.q 7 (.x 8 (.x 9 (.q 10 .nil) .no) .no))))))))) TF.mixed (by kernel_rfl) ⟨f14, f23, trivial⟩ ?_
  refine RunT.quiet rfl rfl rfl (fun h' hC => sem_move ((Value.pointer p1)) rfl ⟨rfl, rfl⟩) ?_
  refine RunT.quiet rfl rfl rfl (fun h' hC => sem_nilCheck A7 (congrArg Value.pointer e8) ⟨rfl, rfl⟩) ?_
  refine RunT.quiet rfl rfl rfl (fun h' hC => sem_fieldAddr A7 0 rfl TF.fld_29_0 ⟨rfl, rfl⟩) ?_
  refine RunT.quiet rfl rfl rfl (fun h' hC => sem_load1 A7 ((Value.slice a11 n12 c13)) rfl TF.agg_25 hC.1 ⟨rfl, rfl⟩) ?_
  refine RunT.quiet rfl rfl rfl (fun h' hC => sem_move ((Value.pointer p1)) rfl ⟨rfl, rfl⟩) ?_
  refine RunT.quiet rfl rfl rfl (fun h' hC => sem_nilCheck A16 (congrArg Value.pointer e17) ⟨rfl, rfl⟩) ?_
  refine RunT.quiet rfl rfl rfl (fun h' hC => sem_fieldAddr A16 1 rfl TF.fld_29_1 ⟨rfl, rfl⟩) ?_
  refine RunT.quiet rfl rfl rfl (fun h' hC => sem_load1 (Addr.add A16 1) ((Value.slice a20 n21 c22)) rfl TF.agg_25 hC.2.1 ⟨rfl, rfl⟩) ?_
  refine ⟨?_, trivial⟩
  refine OpH.go rfl rfl rfl (sem_buildSliceL [(0, (Value.slice a11 n12 c13)), (1, (Value.slice a20 n21 c22))] [(Value.slice a11 n12 c13), (Value.slice a20 n21 c22)] TF.slc_240 TF.zero_25 rfl (by decide) (by decide) rfl rfl (fun k24 hb1 hb2 h25 hb3 => ?_))
  have hS := hS k24 hb1 hb2 h25 hb3
  obtain ⟨g26, g27, hS⟩ := hS
  refine ⟨fun _ => ⟨g26, g27, trivial⟩, ?_⟩
  refine ⟨?_, trivial⟩
  refine OpH.go rfl rfl rfl (sem_callL [(Value.slice (some ⟨k24, 0, none⟩) 2 2)] (TF.goes_88) rfl rfl (Spec.mono hS fun v h28 hv => ?_))
  obtain ⟨a29, n30, c31, rfl, hS⟩ := hv
  obtain ⟨g32, g33, hS⟩ := hS
  refine ⟨fun _ => ⟨g32, g33, trivial⟩, ?_⟩
  refine RunT.quiet rfl rfl rfl (fun h' hC => sem_assign ((Value.slice a29 n30 c31)) rfl ⟨rfl, rfl⟩) ?_
  refine Run.ret ⟨.inr rfl, ?_⟩
  exact hS.imp fun h' hq => ⟨a29, n30, c31, rfl, hq⟩
set_option maxHeartbeats 4000000 in
theorem C_acts_Acts_Undo.of {B : RO} {p1 : Option Addr} {h : Heap} {Q : Option Addr → Nat → Nat → Heap → Prop} (hS : S_acts_Acts_Undo B p1 h Q) : C_acts_Acts_Undo B p1 h Q := by
 unfold S_acts_Acts_Undo at hS
 unfold C_acts_Acts_Undo
 refine Spec.of_run Try.func29 (N := 10) (rs := [ResultVar.tmp 2]) rfl rfl rfl (Nat.le_of_ble_eq_true rfl) ?_
 refine Run.seq ?_
 refine Run.ops0 (idx := [0]) rfl ?_
 refine Run.go rfl rfl rfl (sem_assign ((Value.slice none 0 0)) rfl ?_)
 refine Run.region_end ?_
 refine Run.seq ?_
 refine Run.seq ?_
 refine Run.ops0 (idx := [0, 1]) rfl ?_
 refine Run.go rfl rfl rfl (sem_move ((Value.pointer p1)) rfl ?_)
 obtain ⟨hT, hF⟩ := hS
 by_cases hb5 : p1 = none
 ·have hS := hT hb5; clear hT hF
  refine Run.go rfl rfl rfl (sem_ptrNilT p1 (.inl rfl) true rfl rfl TF.ptr_24 hb5 rfl ?_)
  refine Run.region_end ?_
  refine Run.condT rfl ?_
  refine Run.seq ?_
  refine Run.ops0 (idx := [0]) rfl ?_
  refine Run.go rfl rfl rfl (sem_assign ((Value.slice none 0 0)) rfl ?_)
  refine Run.region_end ?_
  refine Run.ret ⟨.inr rfl, ?_⟩
  exact hS.imp fun h' hq => ⟨none, 0, 0, rfl, hq⟩
 ·have hS := hF hb5; clear hT hF
  refine Run.go rfl rfl rfl (sem_ptrNilF p1 (.inl rfl) false rfl rfl TF.ptr_24 hb5 rfl ?_)
  refine Run.region_end ?_
  refine Run.condF rfl ?_
  refine Run.skip ?_
  refine Run.seq ?_
  refine Run.ops0 (idx := [0, 1, 2, 3, 4, 5]) rfl ?_
  refine Run.go rfl rfl rfl (sem_move ((Value.pointer p1)) rfl ?_)
  obtain ⟨A6, e7, hS⟩ := hS
  refine Run.go rfl rfl rfl (sem_nilCheck A6 (congrArg Value.pointer e7) ?_)
  refine Run.go rfl rfl rfl (sem_fieldAddr A6 3 rfl TF.fld_29_3 ?_)
  refine Run.ldSl hS fun a8 n9 c10 h11 hl hS => ?_
  refine Run.go rfl rfl rfl (sem_load1 (Addr.add A6 3) ((Value.slice a8 n9 c10)) rfl TF.agg_27 hl ?_)
  refine Run.go rfl rfl rfl (sem_callL [(Value.slice a8 n9 c10)] (TF.goes_86) rfl rfl (Spec.mono hS fun v h12 hv => ?_))
  obtain ⟨a13, n14, c15, rfl, hS⟩ := hv
  refine Run.go rfl rfl rfl (sem_assign ((Value.slice a13 n14 c15)) rfl ?_)
  refine Run.region_end ?_
  refine Run.ret ⟨.inr rfl, ?_⟩
  exact hS.imp fun h' hq => ⟨a13, n14, c15, rfl, hq⟩
set_option maxHeartbeats 4000000 in
theorem C_acts_Acts_Send.of {B : RO} {p1 : Option Addr} {i2 : Int} {i3 : Int} {h : Heap} {Q : Bool → Heap → Prop} (hS : S_acts_Acts_Send B p1 i2 i3 h Q) : C_acts_Acts_Send B p1 i2 i3 h Q := by
 unfold S_acts_Acts_Send at hS
 unfold C_acts_Acts_Send
 refine Spec.of_run Try.func30 (N := 29) (rs := [ResultVar.tmp 6]) rfl rfl rfl (Nat.le_of_ble_eq_true rfl) ?_
 refine Run.seq ?_
 refine Run.ops0 (idx := [0]) rfl ?_
 refine Run.go rfl rfl rfl (sem_assign ((Value.bool false)) rfl ?_)
 refine Run.region_end ?_
 refine Run.seqJ (fun e h6 => Agree [(0, (Value.pointer p1)), (1, (Value.int .i64 (i2))), (2, (Value.int .u8 (i3)))] e ∧ S_acts_Acts_Send_J1 B p1 i2 i3 h6 Q) ?_ fun j5 => ?_
 ·rintro e h6 ⟨hag, hS⟩
  refine Run.env hag ?_; clear hag
  refine Run.seq ?_
  refine Run.ops0 (idx := [0, 1, 2, 3, 4, 5, 6, 7, 8, 9, 10, 11, 12]) rfl ?_
  refine Run.go rfl rfl rfl (sem_move ((Value.pointer p1)) rfl ?_)
  refine Run.go rfl rfl rfl (sem_move ((Value.pointer p1)) rfl ?_)
  obtain ⟨A7, e8, hS⟩ := hS
  refine Run.go rfl rfl rfl (sem_nilCheck A7 (congrArg Value.pointer e8) ?_)
  refine Run.go rfl rfl rfl (sem_fieldAddr A7 0 rfl TF.fld_29_0 ?_)
  refine Run.ldSl hS fun a9 n10 c11 h12 hl hS => ?_
  refine Run.go rfl rfl rfl (sem_load1 A7 ((Value.slice a9 n10 c11)) rfl TF.agg_25 hl ?_)
  refine Run.go rfl rfl rfl (sem_move ((Value.int .i64 (i2))) rfl ?_)
  refine Run.go rfl rfl rfl (sem_move ((Value.int .u8 (i3))) rfl ?_)
  refine Run.go rfl rfl rfl (sem_buildSL [(0, (Value.int .i64 (i2))), (1, (Value.int .u8 (i3)))] [(Value.int .i64 (i2)), (Value.int .u8 (i3))] TF.zero_163 TF.places_163 rfl rfl ?_)
  refine Run.go rfl rfl rfl (sem_buildSliceL [(0, (Value.agg #[(Value.int .i64 (i2)), (Value.int .u8 (i3))]))] [(Value.int .i64 (i2)), (Value.int .u8 (i3))] TF.slc_25 TF.zero_163 rfl (by decide) (by decide) rfl rfl (fun k13 hb1 hb2 h14 hb3 => ?_))
  have hS := hS k13 hb1 hb2 h14 hb3
  refine Run.go rfl rfl rfl (sem_appendL [(Value.slice a9 n10 c11), (Value.slice (some ⟨k13, 0, none⟩) 1 1)] rfl (semH_mono (fun v h15 hv => ?_) hS))
  obtain ⟨a16, n17, c18, rfl, hS⟩ := hv
  obtain ⟨A19, e20, hS⟩ := hS
  refine Run.go rfl rfl rfl (sem_nilCheck A19 (congrArg Value.pointer e20) ?_)
  refine Run.go rfl rfl rfl (sem_fieldAddr A19 0 rfl TF.fld_29_0 ?_)
  obtain ⟨h21, hst, hS⟩ := hS
  refine Run.go rfl rfl rfl (sem_store1 A19 ((Value.slice a16 n17 c18)) h21 rfl rfl rfl TF.sz_25 hst ?_)
  refine Run.region_end ?_
  refine Run.seq ?_
  refine Run.ops0 (idx := [0]) rfl ?_
  refine Run.go rfl rfl rfl (sem_assign ((Value.bool true)) rfl ?_)
  refine Run.region_end ?_
  refine Run.ret ⟨.inr rfl, ?_⟩
  exact hS.imp fun h' hq => ⟨(true), rfl, hq⟩
 refine Run.seq ?_
 refine Run.ops0 (idx := [0, 1, 2, 3, 4, 5, 6, 7, 8, 9]) rfl ?_
 refine Run.go rfl rfl rfl (sem_move ((Value.pointer p1)) rfl ?_)
 obtain ⟨hT, hF⟩ := hS
 by_cases hb22 : p1 = none
 ·have hS := hT hb22; clear hT hF
  refine Run.go rfl rfl rfl (sem_ptrNilT p1 (.inl rfl) true rfl rfl TF.ptr_24 hb22 rfl ?_)
  refine Run.go rfl rfl rfl (sem_move ((Value.bool true)) rfl ?_)
  refine Run.no rfl rfl rfl ?_
  refine Run.no rfl rfl rfl ?_
  refine Run.go rfl rfl rfl (sem_pick true ((Value.bool true)) rfl rfl ?_)
  refine Run.go rfl rfl rfl (sem_move ((Value.bool true)) rfl ?_)
  refine Run.no rfl rfl rfl ?_
  refine Run.no rfl rfl rfl ?_
  refine Run.go rfl rfl rfl (sem_pick true ((Value.bool true)) rfl rfl ?_)
  refine Run.region_end ?_
  refine Run.condT rfl ?_
  refine Run.seq ?_
  refine Run.ops0 (idx := [0]) rfl ?_
  refine Run.go rfl rfl rfl (sem_assign ((Value.bool false)) rfl ?_)
  refine Run.region_end ?_
  refine Run.ret ⟨.inr rfl, ?_⟩
  exact hS.imp fun h' hq => ⟨(false), rfl, hq⟩
 ·have hS := hF hb22; clear hT hF
  refine Run.go rfl rfl rfl (sem_ptrNilF p1 (.inl rfl) false rfl rfl TF.ptr_24 hb22 rfl ?_)
  refine Run.go rfl rfl rfl (sem_move ((Value.bool false)) rfl ?_)
  refine Run.go rfl rfl rfl (sem_move ((Value.int .i64 (i2))) rfl ?_)
  obtain ⟨hT, hF⟩ := hS
  by_cases hb23 : (i2 : Int) < (0)
  ·have hS := hT hb23; clear hT hF
   refine Run.go rfl rfl rfl (sem_binI .i64 (i2) (0) (.bool true) rfl rfl (binI_lss_t hb23) ?_)
   refine Run.go rfl rfl rfl (sem_pick false ((Value.bool true)) rfl rfl ?_)
   refine Run.go rfl rfl rfl (sem_move ((Value.bool true)) rfl ?_)
   refine Run.no rfl rfl rfl ?_
   refine Run.no rfl rfl rfl ?_
   refine Run.go rfl rfl rfl (sem_pick true ((Value.bool true)) rfl rfl ?_)
   refine Run.region_end ?_
   refine Run.condT rfl ?_
   refine Run.seq ?_
   refine Run.ops0 (idx := [0]) rfl ?_
   refine Run.go rfl rfl rfl (sem_assign ((Value.bool false)) rfl ?_)
   refine Run.region_end ?_
   refine Run.ret ⟨.inr rfl, ?_⟩
   exact hS.imp fun h' hq => ⟨(false), rfl, hq⟩
  ·have hS := hF hb23; clear hT hF
   refine Run.go rfl rfl rfl (sem_binI .i64 (i2) (0) (.bool false) rfl rfl (binI_lss_f hb23) ?_)
   refine Run.go rfl rfl rfl (sem_pick false ((Value.bool false)) rfl rfl ?_)
   refine Run.go rfl rfl rfl (sem_move ((Value.bool false)) rfl ?_)
   refine Run.go rfl rfl rfl (sem_move ((Value.int .i64 (i2))) rfl ?_)
   obtain ⟨hT, hF⟩ := hS
   by_cases hb24 : (i2 : Int) ≥ (3)
   ·have hS := hT hb24; clear hT hF
    refine Run.go rfl rfl rfl (sem_binI .i64 (i2) (3) (.bool true) rfl rfl (binI_geq_t hb24) ?_)
    refine Run.go rfl rfl rfl (sem_pick false ((Value.bool true)) rfl rfl ?_)
    refine Run.region_end ?_
    refine Run.condT rfl ?_
    refine Run.seq ?_
    refine Run.ops0 (idx := [0]) rfl ?_
    refine Run.go rfl rfl rfl (sem_assign ((Value.bool false)) rfl ?_)
    refine Run.region_end ?_
    refine Run.ret ⟨.inr rfl, ?_⟩
    exact hS.imp fun h' hq => ⟨(false), rfl, hq⟩
   ·have hS := hF hb24; clear hT hF
    refine Run.go rfl rfl rfl (sem_binI .i64 (i2) (3) (.bool false) rfl rfl (binI_geq_f hb24) ?_)
    refine Run.go rfl rfl rfl (sem_pick false ((Value.bool false)) rfl rfl ?_)
    refine Run.region_end ?_
    refine Run.condF rfl ?_
    refine Run.skip ?_
    exact Run.of_fin (hS.imp fun h' hS => j5 _ _ ⟨⟨rfl, rfl, rfl, trivial⟩, hS⟩)
set_option maxHeartbeats 4000000 in
theorem C_acts_Acts_Later.of {B : RO} {p1 : Option Addr} {i2 : Int} {i3 : Int} {h : Heap} {Q : Bool → Heap → Prop} (hS : S_acts_Acts_Later B p1 i2 i3 h Q) : C_acts_Acts_Later B p1 i2 i3 h Q := by
 unfold S_acts_Acts_Later at hS
 unfold C_acts_Acts_Later
 refine Spec.of_run Try.func31 (N := 29) (rs := [ResultVar.tmp 6]) rfl rfl rfl (Nat.le_of_ble_eq_true rfl) ?_
 refine Run.seq ?_
 refine Run.ops0 (idx := [0]) rfl ?_
 refine Run.go rfl rfl rfl (sem_assign ((Value.bool false)) rfl ?_)
 refine Run.region_end ?_
 refine Run.seqJ (fun e h6 => Agree [(0, (Value.pointer p1)), (1, (Value.int .i64 (i2))), (2, (Value.int .u8 (i3)))] e ∧ S_acts_Acts_Later_J1 B p1 i2 i3 h6 Q) ?_ fun j5 => ?_
 ·rintro e h6 ⟨hag, hS⟩
  refine Run.env hag ?_; clear hag
  refine Run.seq ?_
  refine Run.ops0 (idx := [0, 1, 2, 3, 4, 5, 6, 7, 8, 9, 10, 11, 12]) rfl ?_
  refine Run.go rfl rfl rfl (sem_move ((Value.pointer p1)) rfl ?_)
  refine Run.go rfl rfl rfl (sem_move ((Value.pointer p1)) rfl ?_)
  obtain ⟨A7, e8, hS⟩ := hS
  refine Run.go rfl rfl rfl (sem_nilCheck A7 (congrArg Value.pointer e8) ?_)
  refine Run.go rfl rfl rfl (sem_fieldAddr A7 1 rfl TF.fld_29_1 ?_)
  refine Run.ldSl hS fun a9 n10 c11 h12 hl hS => ?_
  refine Run.go rfl rfl rfl (sem_load1 (Addr.add A7 1) ((Value.slice a9 n10 c11)) rfl TF.agg_25 hl ?_)
  refine Run.go rfl rfl rfl (sem_move ((Value.int .i64 (i2))) rfl ?_)
  refine Run.go rfl rfl rfl (sem_move ((Value.int .u8 (i3))) rfl ?_)
  refine Run.go rfl rfl rfl (sem_buildSL [(0, (Value.int .i64 (i2))), (1, (Value.int .u8 (i3)))] [(Value.int .i64 (i2)), (Value.int .u8 (i3))] TF.zero_163 TF.places_163 rfl rfl ?_)
  refine Run.go rfl rfl rfl (sem_buildSliceL [(0, (Value.agg #[(Value.int .i64 (i2)), (Value.int .u8 (i3))]))] [(Value.int .i64 (i2)), (Value.int .u8 (i3))] TF.slc_25 TF.zero_163 rfl (by decide) (by decide) rfl rfl (fun k13 hb1 hb2 h14 hb3 => ?_))
  have hS := hS k13 hb1 hb2 h14 hb3
  refine Run.go rfl rfl rfl (sem_appendL [(Value.slice a9 n10 c11), (Value.slice (some ⟨k13, 0, none⟩) 1 1)] rfl (semH_mono (fun v h15 hv => ?_) hS))
  obtain ⟨a16, n17, c18, rfl, hS⟩ := hv
  obtain ⟨A19, e20, hS⟩ := hS
  refine Run.go rfl rfl rfl (sem_nilCheck A19 (congrArg Value.pointer e20) ?_)
  refine Run.go rfl rfl rfl (sem_fieldAddr A19 1 rfl TF.fld_29_1 ?_)
  obtain ⟨h21, hst, hS⟩ := hS
  refine Run.go rfl rfl rfl (sem_store1 (Addr.add A19 1) ((Value.slice a16 n17 c18)) h21 rfl rfl rfl TF.sz_25 hst ?_)
  refine Run.region_end ?_
  refine Run.seq ?_
  refine Run.ops0 (idx := [0]) rfl ?_
  refine Run.go rfl rfl rfl (sem_assign ((Value.bool true)) rfl ?_)
  refine Run.region_end ?_
  refine Run.ret ⟨.inr rfl, ?_⟩
  exact hS.imp fun h' hq => ⟨(true), rfl, hq⟩
 refine Run.seq ?_
 refine Run.ops0 (idx := [0, 1, 2, 3, 4, 5, 6, 7, 8, 9]) rfl ?_
 refine Run.go rfl rfl rfl (sem_move ((Value.pointer p1)) rfl ?_)
 obtain ⟨hT, hF⟩ := hS
 by_cases hb22 : p1 = none
 ·have hS := hT hb22; clear hT hF
  refine Run.go rfl rfl rfl (sem_ptrNilT p1 (.inl rfl) true rfl rfl TF.ptr_24 hb22 rfl ?_)
  refine Run.go rfl rfl rfl (sem_move ((Value.bool true)) rfl ?_)
  refine Run.no rfl rfl rfl ?_
  refine Run.no rfl rfl rfl ?_
  refine Run.go rfl rfl rfl (sem_pick true ((Value.bool true)) rfl rfl ?_)
  refine Run.go rfl rfl rfl (sem_move ((Value.bool true)) rfl ?_)
  refine Run.no rfl rfl rfl ?_
  refine Run.no rfl rfl rfl ?_
  refine Run.go rfl rfl rfl (sem_pick true ((Value.bool true)) rfl rfl ?_)
  refine Run.region_end ?_
  refine Run.condT rfl ?_
  refine Run.seq ?_
  refine Run.ops0 (idx := [0]) rfl ?_
  refine Run.go rfl rfl rfl (sem_assign ((Value.bool false)) rfl ?_)
  refine Run.region_end ?_
  refine Run.ret ⟨.inr rfl, ?_⟩
  exact hS.imp fun h' hq => ⟨(false), rfl, hq⟩
 ·have hS := hF hb22; clear hT hF
  refine Run.go rfl rfl rfl (sem_ptrNilF p1 (.inl rfl) false rfl rfl TF.ptr_24 hb22 rfl ?_)
  refine Run.go rfl rfl rfl (sem_move ((Value.bool false)) rfl ?_)
  refine Run.go rfl rfl rfl (sem_move ((Value.int .i64 (i2))) rfl ?_)
  obtain ⟨hT, hF⟩ := hS
  by_cases hb23 : (i2 : Int) < (0)
  ·have hS := hT hb23; clear hT hF
   refine Run.go rfl rfl rfl (sem_binI .i64 (i2) (0) (.bool true) rfl rfl (binI_lss_t hb23) ?_)
   refine Run.go rfl rfl rfl (sem_pick false ((Value.bool true)) rfl rfl ?_)
   refine Run.go rfl rfl rfl (sem_move ((Value.bool true)) rfl ?_)
   refine Run.no rfl rfl rfl ?_
   refine Run.no rfl rfl rfl ?_
   refine Run.go rfl rfl rfl (sem_pick true ((Value.bool true)) rfl rfl ?_)
   refine Run.region_end ?_
   refine Run.condT rfl ?_
   refine Run.seq ?_
   refine Run.ops0 (idx := [0]) rfl ?_
   refine Run.go rfl rfl rfl (sem_assign ((Value.bool false)) rfl ?_)
   refine Run.region_end ?_
   refine Run.ret ⟨.inr rfl, ?_⟩
   exact hS.imp fun h' hq => ⟨(false), rfl, hq⟩
  ·have hS := hF hb23; clear hT hF
   refine Run.go rfl rfl rfl (sem_binI .i64 (i2) (0) (.bool false) rfl rfl (binI_lss_f hb23) ?_)
   refine Run.go rfl rfl rfl (sem_pick false ((Value.bool false)) rfl rfl ?_)
   refine Run.go rfl rfl rfl (sem_move ((Value.bool false)) rfl ?_)
   refine Run.go rfl rfl rfl (sem_move ((Value.int .i64 (i2))) rfl ?_)
   obtain ⟨hT, hF⟩ := hS
   by_cases hb24 : (i2 : Int) ≥ (3)
   ·have hS := hT hb24; clear hT hF
    refine Run.go rfl rfl rfl (sem_binI .i64 (i2) (3) (.bool true) rfl rfl (binI_geq_t hb24) ?_)
    refine Run.go rfl rfl rfl (sem_pick false ((Value.bool true)) rfl rfl ?_)
    refine Run.region_end ?_
    refine Run.condT rfl ?_
    refine Run.seq ?_
    refine Run.ops0 (idx := [0]) rfl ?_
    refine Run.go rfl rfl rfl (sem_assign ((Value.bool false)) rfl ?_)
    refine Run.region_end ?_
    refine Run.ret ⟨.inr rfl, ?_⟩
    exact hS.imp fun h' hq => ⟨(false), rfl, hq⟩
   ·have hS := hF hb24; clear hT hF
    refine Run.go rfl rfl rfl (sem_binI .i64 (i2) (3) (.bool false) rfl rfl (binI_geq_f hb24) ?_)
    refine Run.go rfl rfl rfl (sem_pick false ((Value.bool false)) rfl rfl ?_)
    refine Run.region_end ?_
    refine Run.condF rfl ?_
    refine Run.skip ?_
    exact Run.of_fin (hS.imp fun h' hS => j5 _ _ ⟨⟨rfl, rfl, rfl, trivial⟩, hS⟩)
end Go.Proofs.Ythloobpjkeodgaa.H
