/- The functions do what they ask for. No condition. -/
import Derived.Test.YtcncdfmnpmmikaaXhS
namespace Go.Proofs.Ytcncdfmnpmmikaa.H
open Go
set_option linter.unusedVariables false
set_option maxRecDepth 100000

set_option maxHeartbeats 4000000 in
theorem C_countermandlaw14_SheetDoes.of {B : RO} {l1 : List Value} {a2 : Option Addr} {n3 : Nat} {c4 : Nat} {h : Heap} {Q : Bool → Heap → Prop} (hS : S_countermandlaw14_SheetDoes B l1 a2 n3 c4 h Q) : C_countermandlaw14_SheetDoes B l1 a2 n3 c4 h Q := by
 unfold S_countermandlaw14_SheetDoes at hS
 unfold C_countermandlaw14_SheetDoes
 refine Spec.of_run Try.func13 (N := 183) (rs := [ResultVar.cell 4 4]) rfl rfl rfl (Nat.le_of_ble_eq_true rfl) ?_
 refine Run.seq ?_
 refine Run.ops0 (idx := [0, 1]) rfl ?_
 refine Run.go rfl rfl rfl (sem_boxNN l1 rfl (fun k6 hb1 hb2 h7 hb3 => ?_))
 have hS := hS k6 hb1 hb2 h7 hb3
 refine Run.go rfl rfl rfl (sem_allocN [(Value.bool false)] TF.zero_4 (fun k8 hb1 hb2 h9 hb3 => ?_))
 have hS := hS k8 hb1 hb2 h9 hb3
 refine Run.region_end ?_
 refine Run.seq ?_
 refine Run.seq ?_
 refine Run.ops0 (idx := [0, 1]) rfl ?_
 refine Run.go rfl rfl rfl (sem_callL [] (TF.goes_42) rfl rfl (Spec.mono hS fun v h10 hv => ?_))
 obtain ⟨b11, rfl, hS⟩ := hv
 obtain ⟨hT, hF⟩ := hS
 cases b11
 ·have hS := hF rfl; clear hT hF
  refine Run.go rfl rfl rfl (sem_not false rfl ?_)
  refine Run.region_end ?_
  refine Run.condT rfl ?_
  refine Run.seq ?_
  refine Run.ops0 (idx := [0]) rfl ?_
  obtain ⟨h12, hst, hS⟩ := hS
  refine Run.go rfl rfl rfl (sem_store1 ⟨k8, 0, none⟩ ((Value.bool false)) h12 rfl rfl rfl TF.sz_4 hst ?_)
  refine Run.region_end ?_
  obtain ⟨b13, hl0, hS⟩ := hS
  refine Run.ret ⟨.inr rfl, ?_⟩
  exact ⟨⟨k8, 0, none⟩, (Value.bool b13), rfl, loadH1 TF.agg_4 hl0, hS.imp fun h' hq => ⟨(b13), rfl, hq⟩⟩
 ·have hS := hT rfl; clear hT hF
  refine Run.go rfl rfl rfl (sem_not true rfl ?_)
  refine Run.region_end ?_
  refine Run.condF rfl ?_
  refine Run.skip ?_
  refine Run.seq ?_
  refine Run.ops0 (idx := [0, 1, 2, 3, 4, 5, 6, 7, 8, 9, 10, 11]) rfl ?_
  obtain ⟨l14, hln, hl, hS⟩ := hS
  refine Run.go rfl rfl rfl (sem_loadN ⟨k6, 0, none⟩ l14 rfl TF.agg_71 (TF.sz_71.trans (congrArg some hln.symm)) hl ?_)
  refine Run.go rfl rfl rfl (sem_callL [(Value.agg (List.toArray l14))] (TF.goes_43) rfl rfl (Spec.mono hS fun v h15 hv => ?_))
  obtain ⟨p16, p17, p18, b19, rfl, hS⟩ := hv
  refine Run.go rfl rfl rfl (sem_move ((Value.tuple #[(Value.pointer p16), (Value.pointer p17), (Value.pointer p18), (Value.bool b19)])) rfl ?_)
  refine Run.go rfl rfl rfl (sem_extract #[(Value.pointer p16), (Value.pointer p17), (Value.pointer p18), (Value.bool b19)] ((Value.pointer p16)) rfl rfl ?_)
  refine Run.go rfl rfl rfl (sem_extract #[(Value.pointer p16), (Value.pointer p17), (Value.pointer p18), (Value.bool b19)] ((Value.pointer p17)) rfl rfl ?_)
  refine Run.go rfl rfl rfl (sem_extract #[(Value.pointer p16), (Value.pointer p17), (Value.pointer p18), (Value.bool b19)] ((Value.pointer p18)) rfl rfl ?_)
  obtain ⟨hT, hF⟩ := hS
  cases b19
  ·have hS := hF rfl; clear hT hF
   refine Run.go rfl rfl rfl (sem_extract #[(Value.pointer p16), (Value.pointer p17), (Value.pointer p18), (Value.bool false)] (.bool false) rfl rfl ?_)
   refine Run.go rfl rfl rfl (sem_allocN [(Value.pointer none)] TF.zero_72 (fun k20 hb1 hb2 h21 hb3 => ?_))
   have hS := hS k20 hb1 hb2 h21 hb3
   refine Run.go rfl rfl rfl (sem_assign ((Value.pointer p16)) rfl ?_)
   refine Run.go rfl rfl rfl (sem_assign ((Value.pointer p17)) rfl ?_)
   obtain ⟨h22, hst, hS⟩ := hS
   refine Run.go rfl rfl rfl (sem_store1 ⟨k20, 0, none⟩ ((Value.pointer p18)) h22 rfl rfl rfl TF.sz_72 hst ?_)
   refine Run.go rfl rfl rfl (sem_assign ((Value.bool false)) rfl ?_)
   refine Run.region_end ?_
   refine Run.seqJ (fun e h24 => Agree [(1, (Value.slice a2 n3 c4)), (4, (Value.pointer (some ⟨k8, 0, none⟩))), (5, (Value.pointer p16)), (6, (Value.pointer p17)), (7, (Value.pointer (some ⟨k20, 0, none⟩)))] e ∧ S_countermandlaw14_SheetDoes_J1 B a2 n3 c4 k8 p16 p17 k20 h24 Q) ?_ fun j23 => ?_
   ·rintro e h24 ⟨hag, hS⟩
    refine Run.env hag ?_; clear hag
    refine Run.seq ?_
    refine Run.ops0 (idx := [0, 1, 2]) rfl ?_
    refine Run.go rfl rfl rfl (sem_move ((Value.pointer p16)) rfl ?_)
    refine Run.go rfl rfl rfl (sem_callL [(Value.pointer p16)] (TF.goes_50) rfl rfl (Spec.mono hS fun v h25 hv => ?_))
    obtain ⟨s26, rfl, hS⟩ := hv
    refine Run.go rfl rfl rfl (sem_assign ((Value.string s26)) rfl ?_)
    refine Run.region_end ?_
    refine Run.seqJ (fun e h28 => Agree [(4, (Value.pointer (some ⟨k8, 0, none⟩))), (5, (Value.pointer p16)), (6, (Value.pointer p17)), (7, (Value.pointer (some ⟨k20, 0, none⟩))), (9, (Value.string s26))] e ∧ S_countermandlaw14_SheetDoes_J2 B k8 p16 p17 k20 s26 h28 Q) ?_ fun j27 => ?_
    ·rintro e h28 ⟨hag, hS⟩
     refine Run.env hag ?_; clear hag
     refine Run.seq ?_
     refine Run.ops0 (idx := [0, 1]) rfl ?_
     refine Run.go rfl rfl rfl (sem_allocN [(Value.int .i64 (0))] TF.zero_3 (fun k29 hb1 hb2 h30 hb3 => ?_))
     have hS := hS k29 hb1 hb2 h30 hb3
     obtain ⟨h31, hst, hS⟩ := hS
     refine Run.go rfl rfl rfl (sem_store1 ⟨k29, 0, none⟩ ((Value.int .i64 (0))) h31 rfl rfl rfl TF.sz_3 hst ?_)
     refine Run.region_end ?_
     refine Run.seqJ (fun e h33 => Agree [(4, (Value.pointer (some ⟨k8, 0, none⟩))), (5, (Value.pointer p16)), (6, (Value.pointer p17)), (7, (Value.pointer (some ⟨k20, 0, none⟩))), (9, (Value.string s26)), (15, (Value.pointer (some ⟨k29, 0, none⟩)))] e ∧ S_countermandlaw14_SheetDoes_J3 B k8 p16 p17 k20 s26 k29 h33 Q) ?_ fun j32 => ?_
     ·rintro e h33 ⟨hag, hS⟩
      refine Run.env hag ?_; clear hag
      refine Run.seq ?_
      refine Run.ops0 (idx := [0]) rfl ?_
      refine Run.go rfl rfl rfl (sem_assign ((Value.pointer none)) rfl ?_)
      refine Run.region_end ?_
      refine Run.seq ?_
      refine Run.ops0 (idx := [0, 1, 2, 3, 4, 5, 6, 7, 8]) rfl ?_
      refine Run.go rfl rfl rfl (sem_move ((Value.pointer none)) rfl ?_)
      refine Run.go rfl rfl rfl (sem_move ((Value.pointer p16)) rfl ?_)
      refine Run.go rfl rfl rfl (sem_callL [(Value.pointer none), (Value.pointer p16), (Value.int .i64 (0))] (TF.goes_23) rfl rfl (Spec.mono hS fun v h34 hv => ?_))
      obtain ⟨b35, s36, b37, rfl, hS⟩ := hv
      refine Run.go rfl rfl rfl (sem_move ((Value.tuple #[(Value.agg #[(Value.bool b35), (Value.string s36)]), (Value.bool b37)])) rfl ?_)
      refine Run.go rfl rfl rfl (sem_extract #[(Value.agg #[(Value.bool b35), (Value.string s36)]), (Value.bool b37)] ((Value.agg #[(Value.bool b35), (Value.string s36)])) rfl rfl ?_)
      obtain ⟨hT, hF⟩ := hS
      cases b37
      ·have hS := hF rfl; clear hT hF
       refine Run.go rfl rfl rfl (sem_extract #[(Value.agg #[(Value.bool b35), (Value.string s36)]), (Value.bool false)] (.bool false) rfl rfl ?_)
       refine Run.go rfl rfl rfl (sem_allocN [(Value.bool false), (Value.string ByteArray.empty)] TF.zero_41 (fun k38 hb1 hb2 h39 hb3 => ?_))
       have hS := hS k38 hb1 hb2 h39 hb3
       obtain ⟨h40, hst, hS⟩ := hS
       refine Run.go rfl rfl rfl (sem_storeN ⟨k38, 0, none⟩ [(Value.bool b35), (Value.string s36)] h40 rfl rfl TF.sz_41 hst ?_)
       refine Run.go rfl rfl rfl (sem_assign ((Value.bool false)) rfl ?_)
       refine Run.region_end ?_
       refine Run.seqJ (fun e h42 => Agree [(4, (Value.pointer (some ⟨k8, 0, none⟩))), (5, (Value.pointer p16)), (18, (Value.pointer none))] e ∧ S_countermandlaw14_SheetDoes_J4 B k8 p16 h42 Q) ?_ fun j41 => ?_
       ·rintro e h42 ⟨hag, hS⟩
        refine Run.env hag ?_; clear hag
        refine Run.seq ?_
        refine Run.ops0 (idx := [0, 1, 2, 3, 4, 5, 6, 7, 8, 9, 10, 11, 12, 13, 14, 15, 16, 17, 18, 19, 20, 21, 22, 23, 24, 25, 26, 27, 28, 29, 30, 31, 32, 33, 34, 35, 36, 37, 38, 39, 40, 41, 42, 43, 44]) rfl ?_
        refine Run.go rfl rfl rfl (sem_move ((Value.pointer none)) rfl ?_)
        refine Run.go rfl rfl rfl (sem_move ((Value.pointer p16)) rfl ?_)
        refine Run.go rfl rfl rfl (sem_callL [(Value.pointer none), (Value.pointer p16), (Value.int .i64 (0)), (Value.int .i64 (0)), (Value.int .u8 (0))] (TF.goes_54) rfl rfl (Spec.mono hS fun v h43 hv => ?_))
        obtain ⟨b44, rfl, hS⟩ := hv
        obtain ⟨hT, hF⟩ := hS
        cases b44
        ·have hS := hF rfl; clear hT hF
         refine Run.go rfl rfl rfl (sem_not false rfl ?_)
         refine Run.go rfl rfl rfl (sem_move ((Value.bool true)) rfl ?_)
         refine Run.go rfl rfl rfl (sem_move ((Value.pointer none)) rfl ?_)
         refine Run.go rfl rfl rfl (sem_move ((Value.pointer p16)) rfl ?_)
         refine Run.go rfl rfl rfl (sem_callL [(Value.pointer none), (Value.pointer p16), (Value.int .i64 (0)), (Value.int .i64 (0))] (TF.goes_55) rfl rfl (Spec.mono hS fun v h45 hv => ?_))
         obtain ⟨b46, rfl, hS⟩ := hv
         obtain ⟨hT, hF⟩ := hS
         cases b46
         ·have hS := hF rfl; clear hT hF
          refine Run.go rfl rfl rfl (sem_not false rfl ?_)
          refine Run.go rfl rfl rfl (sem_pick true ((Value.bool true)) rfl rfl ?_)
          refine Run.go rfl rfl rfl (sem_move ((Value.bool true)) rfl ?_)
          refine Run.go rfl rfl rfl (sem_move ((Value.pointer none)) rfl ?_)
          refine Run.go rfl rfl rfl (sem_move ((Value.pointer p16)) rfl ?_)
          refine Run.go rfl rfl rfl (sem_callL [(Value.pointer none), (Value.pointer p16), (Value.int .i64 (0))] (TF.goes_22) rfl rfl (Spec.mono hS fun v h47 hv => ?_))
          obtain ⟨b48, rfl, hS⟩ := hv
          obtain ⟨hT, hF⟩ := hS
          cases b48
          ·have hS := hF rfl; clear hT hF
           refine Run.go rfl rfl rfl (sem_not false rfl ?_)
           refine Run.go rfl rfl rfl (sem_pick true ((Value.bool true)) rfl rfl ?_)
           refine Run.go rfl rfl rfl (sem_move ((Value.bool true)) rfl ?_)
           refine Run.go rfl rfl rfl (sem_move ((Value.pointer none)) rfl ?_)
           refine Run.go rfl rfl rfl (sem_move ((Value.pointer p16)) rfl ?_)
           refine Run.go rfl rfl rfl (sem_callL [(Value.pointer none), (Value.pointer p16), (Value.int .i64 (0))] (TF.goes_56) rfl rfl (Spec.mono hS fun v h49 hv => ?_))
           obtain ⟨b50, rfl, hS⟩ := hv
           obtain ⟨hT, hF⟩ := hS
           cases b50
           ·have hS := hF rfl; clear hT hF
            refine Run.go rfl rfl rfl (sem_not false rfl ?_)
            refine Run.go rfl rfl rfl (sem_pick true ((Value.bool true)) rfl rfl ?_)
            refine Run.go rfl rfl rfl (sem_move ((Value.bool true)) rfl ?_)
            refine Run.go rfl rfl rfl (sem_move ((Value.pointer none)) rfl ?_)
            refine Run.go rfl rfl rfl (sem_move ((Value.pointer p16)) rfl ?_)
            refine Run.go rfl rfl rfl (sem_callL [(Value.pointer none), (Value.pointer p16), (Value.int .i64 (0)), (Value.int .i64 (1))] (TF.goes_45) rfl rfl (Spec.mono hS fun v h51 hv => ?_))
            obtain ⟨b52, rfl, hS⟩ := hv
            obtain ⟨hT, hF⟩ := hS
            cases b52
            ·have hS := hF rfl; clear hT hF
             refine Run.go rfl rfl rfl (sem_not false rfl ?_)
             refine Run.go rfl rfl rfl (sem_pick true ((Value.bool true)) rfl rfl ?_)
             refine Run.go rfl rfl rfl (sem_move ((Value.bool true)) rfl ?_)
             refine Run.go rfl rfl rfl (sem_move ((Value.pointer none)) rfl ?_)
             refine Run.go rfl rfl rfl (sem_callL [(Value.pointer none)] (TF.goes_51) rfl rfl (Spec.mono hS fun v h53 hv => ?_))
             obtain ⟨p54, rfl, hS⟩ := hv
             obtain ⟨hT, hF⟩ := hS
             by_cases hb55 : p54 = none
             ·have hS := hT hb55; clear hT hF
              refine Run.go rfl rfl rfl (sem_ptrNilT p54 (.inl rfl) true rfl rfl TF.ptr_95 hb55 rfl ?_)
              refine Run.go rfl rfl rfl (sem_pick true ((Value.bool true)) rfl rfl ?_)
              refine Run.go rfl rfl rfl (sem_move ((Value.bool true)) rfl ?_)
              refine Run.go rfl rfl rfl (sem_move ((Value.pointer none)) rfl ?_)
              refine Run.go rfl rfl rfl (sem_callL [(Value.pointer none)] (TF.goes_47) rfl rfl (Spec.mono hS fun v h56 hv => ?_))
              obtain ⟨p57, rfl, hS⟩ := hv
              obtain ⟨hT, hF⟩ := hS
              by_cases hb58 : p57 = none
              ·have hS := hT hb58; clear hT hF
               refine Run.go rfl rfl rfl (sem_ptrNilT p57 (.inl rfl) true rfl rfl TF.ptr_28 hb58 rfl ?_)
               refine Run.go rfl rfl rfl (sem_pick true ((Value.bool true)) rfl rfl ?_)
               refine Run.go rfl rfl rfl (sem_move ((Value.bool true)) rfl ?_)
               refine Run.go rfl rfl rfl (sem_move ((Value.pointer none)) rfl ?_)
               refine Run.go rfl rfl rfl (sem_move ((Value.pointer p16)) rfl ?_)
               refine Run.go rfl rfl rfl (sem_callL [(Value.pointer none), (Value.pointer p16), (Value.int .i64 (1))] (TF.goes_48) rfl rfl (Spec.mono hS fun v h59 hv => ?_))
               obtain ⟨i60, rfl, hS⟩ := hv
               refine Run.go rfl rfl rfl (sem_binI .i64 (i60) (0) ((Value.bool ((i60 : Int) == (0)))) rfl rfl rfl ?_)
               refine Run.go rfl rfl rfl (sem_pick true ((Value.bool ((i60 : Int) == (0)))) rfl rfl ?_)
               obtain ⟨h61, hst, hS⟩ := hS
               refine Run.go rfl rfl rfl (sem_store1 ⟨k8, 0, none⟩ ((Value.bool ((i60 : Int) == (0)))) h61 rfl rfl rfl TF.sz_4 hst ?_)
               refine Run.region_end ?_
               obtain ⟨b62, hl0, hS⟩ := hS
               refine Run.ret ⟨.inr rfl, ?_⟩
               exact ⟨⟨k8, 0, none⟩, (Value.bool b62), rfl, loadH1 TF.agg_4 hl0, hS.imp fun h' hq => ⟨(b62), rfl, hq⟩⟩
              ·have hS := hF hb58; clear hT hF
               refine Run.go rfl rfl rfl (sem_ptrNilF p57 (.inl rfl) false rfl rfl TF.ptr_28 hb58 rfl ?_)
               refine Run.go rfl rfl rfl (sem_pick true ((Value.bool false)) rfl rfl ?_)
               refine Run.go rfl rfl rfl (sem_move ((Value.bool false)) rfl ?_)
               refine Run.no rfl rfl rfl ?_
               refine Run.no rfl rfl rfl ?_
               refine Run.no rfl rfl rfl ?_
               refine Run.no rfl rfl rfl ?_
               refine Run.go rfl rfl rfl (sem_pick false ((Value.bool false)) rfl rfl ?_)
               obtain ⟨h63, hst, hS⟩ := hS
               refine Run.go rfl rfl rfl (sem_store1 ⟨k8, 0, none⟩ ((Value.bool false)) h63 rfl rfl rfl TF.sz_4 hst ?_)
               refine Run.region_end ?_
               obtain ⟨b64, hl0, hS⟩ := hS
               refine Run.ret ⟨.inr rfl, ?_⟩
               exact ⟨⟨k8, 0, none⟩, (Value.bool b64), rfl, loadH1 TF.agg_4 hl0, hS.imp fun h' hq => ⟨(b64), rfl, hq⟩⟩
             ·have hS := hF hb55; clear hT hF
              refine Run.go rfl rfl rfl (sem_ptrNilF p54 (.inl rfl) false rfl rfl TF.ptr_95 hb55 rfl ?_)
              refine Run.go rfl rfl rfl (sem_pick true ((Value.bool false)) rfl rfl ?_)
              refine Run.go rfl rfl rfl (sem_move ((Value.bool false)) rfl ?_)
              refine Run.no rfl rfl rfl ?_
              refine Run.no rfl rfl rfl ?_
              refine Run.no rfl rfl rfl ?_
              refine Run.go rfl rfl rfl (sem_pick false ((Value.bool false)) rfl rfl ?_)
              refine Run.go rfl rfl rfl (sem_move ((Value.bool false)) rfl ?_)
              refine Run.no rfl rfl rfl ?_
              refine Run.no rfl rfl rfl ?_
              refine Run.no rfl rfl rfl ?_
              refine Run.no rfl rfl rfl ?_
              refine Run.go rfl rfl rfl (sem_pick false ((Value.bool false)) rfl rfl ?_)
              obtain ⟨h65, hst, hS⟩ := hS
              refine Run.go rfl rfl rfl (sem_store1 ⟨k8, 0, none⟩ ((Value.bool false)) h65 rfl rfl rfl TF.sz_4 hst ?_)
              refine Run.region_end ?_
              obtain ⟨b66, hl0, hS⟩ := hS
              refine Run.ret ⟨.inr rfl, ?_⟩
              exact ⟨⟨k8, 0, none⟩, (Value.bool b66), rfl, loadH1 TF.agg_4 hl0, hS.imp fun h' hq => ⟨(b66), rfl, hq⟩⟩
            ·have hS := hT rfl; clear hT hF
             refine Run.go rfl rfl rfl (sem_not true rfl ?_)
             refine Run.go rfl rfl rfl (sem_pick true ((Value.bool false)) rfl rfl ?_)
             refine Run.go rfl rfl rfl (sem_move ((Value.bool false)) rfl ?_)
             refine Run.no rfl rfl rfl ?_
             refine Run.no rfl rfl rfl ?_
             refine Run.no rfl rfl rfl ?_
             refine Run.go rfl rfl rfl (sem_pick false ((Value.bool false)) rfl rfl ?_)
             refine Run.go rfl rfl rfl (sem_move ((Value.bool false)) rfl ?_)
             refine Run.no rfl rfl rfl ?_
             refine Run.no rfl rfl rfl ?_
             refine Run.no rfl rfl rfl ?_
             refine Run.go rfl rfl rfl (sem_pick false ((Value.bool false)) rfl rfl ?_)
             refine Run.go rfl rfl rfl (sem_move ((Value.bool false)) rfl ?_)
             refine Run.no rfl rfl rfl ?_
             refine Run.no rfl rfl rfl ?_
             refine Run.no rfl rfl rfl ?_
             refine Run.no rfl rfl rfl ?_
             refine Run.go rfl rfl rfl (sem_pick false ((Value.bool false)) rfl rfl ?_)
             obtain ⟨h67, hst, hS⟩ := hS
             refine Run.go rfl rfl rfl (sem_store1 ⟨k8, 0, none⟩ ((Value.bool false)) h67 rfl rfl rfl TF.sz_4 hst ?_)
             refine Run.region_end ?_
             obtain ⟨b68, hl0, hS⟩ := hS
             refine Run.ret ⟨.inr rfl, ?_⟩
             exact ⟨⟨k8, 0, none⟩, (Value.bool b68), rfl, loadH1 TF.agg_4 hl0, hS.imp fun h' hq => ⟨(b68), rfl, hq⟩⟩
           ·have hS := hT rfl; clear hT hF
            refine Run.go rfl rfl rfl (sem_not true rfl ?_)
            refine Run.go rfl rfl rfl (sem_pick true ((Value.bool false)) rfl rfl ?_)
            refine Run.go rfl rfl rfl (sem_move ((Value.bool false)) rfl ?_)
            refine Run.no rfl rfl rfl ?_
            refine Run.no rfl rfl rfl ?_
            refine Run.no rfl rfl rfl ?_
            refine Run.no rfl rfl rfl ?_
            refine Run.go rfl rfl rfl (sem_pick false ((Value.bool false)) rfl rfl ?_)
            refine Run.go rfl rfl rfl (sem_move ((Value.bool false)) rfl ?_)
            refine Run.no rfl rfl rfl ?_
            refine Run.no rfl rfl rfl ?_
            refine Run.no rfl rfl rfl ?_
            refine Run.go rfl rfl rfl (sem_pick false ((Value.bool false)) rfl rfl ?_)
            refine Run.go rfl rfl rfl (sem_move ((Value.bool false)) rfl ?_)
            refine Run.no rfl rfl rfl ?_
            refine Run.no rfl rfl rfl ?_
            refine Run.no rfl rfl rfl ?_
            refine Run.go rfl rfl rfl (sem_pick false ((Value.bool false)) rfl rfl ?_)
            refine Run.go rfl rfl rfl (sem_move ((Value.bool false)) rfl ?_)
            refine Run.no rfl rfl rfl ?_
            refine Run.no rfl rfl rfl ?_
            refine Run.no rfl rfl rfl ?_
            refine Run.no rfl rfl rfl ?_
            refine Run.go rfl rfl rfl (sem_pick false ((Value.bool false)) rfl rfl ?_)
            obtain ⟨h69, hst, hS⟩ := hS
            refine Run.go rfl rfl rfl (sem_store1 ⟨k8, 0, none⟩ ((Value.bool false)) h69 rfl rfl rfl TF.sz_4 hst ?_)
            refine Run.region_end ?_
            obtain ⟨b70, hl0, hS⟩ := hS
            refine Run.ret ⟨.inr rfl, ?_⟩
            exact ⟨⟨k8, 0, none⟩, (Value.bool b70), rfl, loadH1 TF.agg_4 hl0, hS.imp fun h' hq => ⟨(b70), rfl, hq⟩⟩
          ·have hS := hT rfl; clear hT hF
           refine Run.go rfl rfl rfl (sem_not true rfl ?_)
           refine Run.go rfl rfl rfl (sem_pick true ((Value.bool false)) rfl rfl ?_)
           refine Run.go rfl rfl rfl (sem_move ((Value.bool false)) rfl ?_)
           refine Run.no rfl rfl rfl ?_
           refine Run.no rfl rfl rfl ?_
           refine Run.no rfl rfl rfl ?_
           refine Run.no rfl rfl rfl ?_
           refine Run.go rfl rfl rfl (sem_pick false ((Value.bool false)) rfl rfl ?_)
           refine Run.go rfl rfl rfl (sem_move ((Value.bool false)) rfl ?_)
           refine Run.no rfl rfl rfl ?_
           refine Run.no rfl rfl rfl ?_
           refine Run.no rfl rfl rfl ?_
           refine Run.no rfl rfl rfl ?_
           refine Run.go rfl rfl rfl (sem_pick false ((Value.bool false)) rfl rfl ?_)
           refine Run.go rfl rfl rfl (sem_move ((Value.bool false)) rfl ?_)
           refine Run.no rfl rfl rfl ?_
           refine Run.no rfl rfl rfl ?_
           refine Run.no rfl rfl rfl ?_
           refine Run.go rfl rfl rfl (sem_pick false ((Value.bool false)) rfl rfl ?_)
           refine Run.go rfl rfl rfl (sem_move ((Value.bool false)) rfl ?_)
           refine Run.no rfl rfl rfl ?_
           refine Run.no rfl rfl rfl ?_
           refine Run.no rfl rfl rfl ?_
           refine Run.go rfl rfl rfl (sem_pick false ((Value.bool false)) rfl rfl ?_)
           refine Run.go rfl rfl rfl (sem_move ((Value.bool false)) rfl ?_)
           refine Run.no rfl rfl rfl ?_
           refine Run.no rfl rfl rfl ?_
           refine Run.no rfl rfl rfl ?_
           refine Run.no rfl rfl rfl ?_
           refine Run.go rfl rfl rfl (sem_pick false ((Value.bool false)) rfl rfl ?_)
           obtain ⟨h71, hst, hS⟩ := hS
           refine Run.go rfl rfl rfl (sem_store1 ⟨k8, 0, none⟩ ((Value.bool false)) h71 rfl rfl rfl TF.sz_4 hst ?_)
           refine Run.region_end ?_
           obtain ⟨b72, hl0, hS⟩ := hS
           refine Run.ret ⟨.inr rfl, ?_⟩
           exact ⟨⟨k8, 0, none⟩, (Value.bool b72), rfl, loadH1 TF.agg_4 hl0, hS.imp fun h' hq => ⟨(b72), rfl, hq⟩⟩
         ·have hS := hT rfl; clear hT hF
          refine Run.go rfl rfl rfl (sem_not true rfl ?_)
          refine Run.go rfl rfl rfl (sem_pick true ((Value.bool false)) rfl rfl ?_)
          refine Run.go rfl rfl rfl (sem_move ((Value.bool false)) rfl ?_)
          refine Run.no rfl rfl rfl ?_
          refine Run.no rfl rfl rfl ?_
          refine Run.no rfl rfl rfl ?_
          refine Run.no rfl rfl rfl ?_
          refine Run.go rfl rfl rfl (sem_pick false ((Value.bool false)) rfl rfl ?_)
          refine Run.go rfl rfl rfl (sem_move ((Value.bool false)) rfl ?_)
          refine Run.no rfl rfl rfl ?_
          refine Run.no rfl rfl rfl ?_
          refine Run.no rfl rfl rfl ?_
          refine Run.no rfl rfl rfl ?_
          refine Run.go rfl rfl rfl (sem_pick false ((Value.bool false)) rfl rfl ?_)
          refine Run.go rfl rfl rfl (sem_move ((Value.bool false)) rfl ?_)
          refine Run.no rfl rfl rfl ?_
          refine Run.no rfl rfl rfl ?_
          refine Run.no rfl rfl rfl ?_
          refine Run.no rfl rfl rfl ?_
          refine Run.go rfl rfl rfl (sem_pick false ((Value.bool false)) rfl rfl ?_)
          refine Run.go rfl rfl rfl (sem_move ((Value.bool false)) rfl ?_)
          refine Run.no rfl rfl rfl ?_
          refine Run.no rfl rfl rfl ?_
          refine Run.no rfl rfl rfl ?_
          refine Run.go rfl rfl rfl (sem_pick false ((Value.bool false)) rfl rfl ?_)
          refine Run.go rfl rfl rfl (sem_move ((Value.bool false)) rfl ?_)
          refine Run.no rfl rfl rfl ?_
          refine Run.no rfl rfl rfl ?_
          refine Run.no rfl rfl rfl ?_
          refine Run.go rfl rfl rfl (sem_pick false ((Value.bool false)) rfl rfl ?_)
          refine Run.go rfl rfl rfl (sem_move ((Value.bool false)) rfl ?_)
          refine Run.no rfl rfl rfl ?_
          refine Run.no rfl rfl rfl ?_
          refine Run.no rfl rfl rfl ?_
          refine Run.no rfl rfl rfl ?_
          refine Run.go rfl rfl rfl (sem_pick false ((Value.bool false)) rfl rfl ?_)
          obtain ⟨h73, hst, hS⟩ := hS
          refine Run.go rfl rfl rfl (sem_store1 ⟨k8, 0, none⟩ ((Value.bool false)) h73 rfl rfl rfl TF.sz_4 hst ?_)
          refine Run.region_end ?_
          obtain ⟨b74, hl0, hS⟩ := hS
          refine Run.ret ⟨.inr rfl, ?_⟩
          exact ⟨⟨k8, 0, none⟩, (Value.bool b74), rfl, loadH1 TF.agg_4 hl0, hS.imp fun h' hq => ⟨(b74), rfl, hq⟩⟩
        ·have hS := hT rfl; clear hT hF
         refine Run.go rfl rfl rfl (sem_not true rfl ?_)
         refine Run.go rfl rfl rfl (sem_move ((Value.bool false)) rfl ?_)
         refine Run.no rfl rfl rfl ?_
         refine Run.no rfl rfl rfl ?_
         refine Run.no rfl rfl rfl ?_
         refine Run.no rfl rfl rfl ?_
         refine Run.go rfl rfl rfl (sem_pick false ((Value.bool false)) rfl rfl ?_)
         refine Run.go rfl rfl rfl (sem_move ((Value.bool false)) rfl ?_)
         refine Run.no rfl rfl rfl ?_
         refine Run.no rfl rfl rfl ?_
         refine Run.no rfl rfl rfl ?_
         refine Run.no rfl rfl rfl ?_
         refine Run.go rfl rfl rfl (sem_pick false ((Value.bool false)) rfl rfl ?_)
         refine Run.go rfl rfl rfl (sem_move ((Value.bool false)) rfl ?_)
         refine Run.no rfl rfl rfl ?_
         refine Run.no rfl rfl rfl ?_
         refine Run.no rfl rfl rfl ?_
         refine Run.no rfl rfl rfl ?_
         refine Run.go rfl rfl rfl (sem_pick false ((Value.bool false)) rfl rfl ?_)
         refine Run.go rfl rfl rfl (sem_move ((Value.bool false)) rfl ?_)
         refine Run.no rfl rfl rfl ?_
         refine Run.no rfl rfl rfl ?_
         refine Run.no rfl rfl rfl ?_
         refine Run.no rfl rfl rfl ?_
         refine Run.go rfl rfl rfl (sem_pick false ((Value.bool false)) rfl rfl ?_)
         refine Run.go rfl rfl rfl (sem_move ((Value.bool false)) rfl ?_)
         refine Run.no rfl rfl rfl ?_
         refine Run.no rfl rfl rfl ?_
         refine Run.no rfl rfl rfl ?_
         refine Run.go rfl rfl rfl (sem_pick false ((Value.bool false)) rfl rfl ?_)
         refine Run.go rfl rfl rfl (sem_move ((Value.bool false)) rfl ?_)
         refine Run.no rfl rfl rfl ?_
         refine Run.no rfl rfl rfl ?_
         refine Run.no rfl rfl rfl ?_
         refine Run.go rfl rfl rfl (sem_pick false ((Value.bool false)) rfl rfl ?_)
         refine Run.go rfl rfl rfl (sem_move ((Value.bool false)) rfl ?_)
         refine Run.no rfl rfl rfl ?_
         refine Run.no rfl rfl rfl ?_
         refine Run.no rfl rfl rfl ?_
         refine Run.no rfl rfl rfl ?_
         refine Run.go rfl rfl rfl (sem_pick false ((Value.bool false)) rfl rfl ?_)
         obtain ⟨h75, hst, hS⟩ := hS
         refine Run.go rfl rfl rfl (sem_store1 ⟨k8, 0, none⟩ ((Value.bool false)) h75 rfl rfl rfl TF.sz_4 hst ?_)
         refine Run.region_end ?_
         obtain ⟨b76, hl0, hS⟩ := hS
         refine Run.ret ⟨.inr rfl, ?_⟩
         exact ⟨⟨k8, 0, none⟩, (Value.bool b76), rfl, loadH1 TF.agg_4 hl0, hS.imp fun h' hq => ⟨(b76), rfl, hq⟩⟩
       refine Run.seq ?_
       obtain ⟨i77, hl, hS⟩ := hS
       have f78 := hl
       skip
       refine Run.drawM (fun h' => cellH B h' ⟨k29, 0, none⟩ = some (Value.int .i64 (i77)) ∧ True) [] ⟨[0, 0, 2, 4, 9, 24, 32, 96, 32, 416, 544, 1152, 2048, 2048, 10240, 18432, 34816, 67584, 137216, 264192, 526336, 1048576, 3145728], [8388607, 8388607, 8388605, 8388603, 8388598, 8388591, 8388575, 8388511, 8388575, 8388191, 8388063, 8387583, 8386559, 8386559, 8378367, 8370175, 8353791, 8321023, 8251391, 8124415, 7864319, 7340031, 5242879], [0, 0, 0, 0, 0, 0, 0, 0, 0, 0, 0, 0, 0, 0, 0, 0, 0, 0, 0, 0, 0, 0, 0], 0⟩ (.q 0 (.q 1 (.x 2 (.x 3 (.q 4 (.q 5 (.q 6 (.q 8 (.x 7 (.q 9 (.q 10 (.q 11 (.x 12 (.x 13 (.q 14 (.q 15 (.q 16 (.x 17 (.q 18 (.q 19 (.q 20 (.q 21 (.q 22 .nil))))) .no)))) .no) (.x 13 (.q 14 (.q 15 (.q 16 (.x 12 (.x 17 (.q 18 (.q 19 (.q 20 (.q 21 (.q 22 .nil))))) .no) (.x 17 (.x 12 (.q 18 (.q 19 (.q 20 (.q 21 (.q 22 .nil))))) .no) .no))))) .no))))) .no))))) .no) .no))) TF.mixed (by kernel_rfl) ⟨f78, trivial⟩ ?_
       refine RunT.quiet rfl rfl rfl (fun h' hC => sem_load1 ⟨k29, 0, none⟩ ((Value.int .i64 (i77))) rfl TF.agg_3 hC.1 ⟨rfl, rfl⟩) ?_
       refine RunT.quiet rfl rfl rfl (fun h' hC => sem_move ((Value.pointer p17)) rfl ⟨rfl, rfl⟩) ?_
       refine ⟨?_, trivial⟩
       refine OpH.go rfl rfl rfl (sem_callL [(Value.pointer p17)] (TF.goes_51) rfl rfl (Spec.mono hS fun v h80 hv => ?_))
       obtain ⟨p81, rfl, hS⟩ := hv
       obtain ⟨g82, hS⟩ := hS
       refine ⟨fun _ => ⟨g82, trivial⟩, ?_⟩
       refine ⟨?_, trivial⟩
       refine OpH.go rfl rfl rfl (sem_callL [(Value.pointer p81)] (TF.goes_53) rfl rfl (Spec.mono hS fun v h83 hv => ?_))
       obtain ⟨i84, rfl, hS⟩ := hv
       obtain ⟨g85, hS⟩ := hS
       refine ⟨fun _ => ⟨g85, trivial⟩, ?_⟩
       obtain ⟨hT, hF⟩ := hS
       by_cases hb86 : (i77 : Int) = i84
       ·have hS := hT hb86; clear hT hF
        refine RunT.quiet rfl rfl rfl (fun h' hC => sem_binI .i64 (i77) (i84) (.bool false) rfl rfl (binI_neq_t hb86) ⟨rfl, rfl⟩) ?_
        refine RunT.quiet rfl rfl rfl (fun h' hC => sem_move ((Value.bool false)) rfl ⟨rfl, rfl⟩) ?_
        refine RunT.quiet rfl rfl rfl (fun h' hC => sem_move ((Value.pointer p16)) rfl ⟨rfl, rfl⟩) ?_
        refine RunT.quiet rfl rfl rfl (fun h' hC => sem_move ((Value.string s26)) rfl ⟨rfl, rfl⟩) ?_
        refine ⟨?_, trivial⟩
        refine OpH.go rfl rfl rfl (sem_callL [(Value.pointer p16)] (TF.goes_50) rfl rfl (Spec.mono hS fun v h87 hv => ?_))
        obtain ⟨s88, rfl, hS⟩ := hv
        obtain ⟨g89, hS⟩ := hS
        refine ⟨fun _ => ⟨g89, trivial⟩, ?_⟩
        obtain ⟨hT, hF⟩ := hS
        by_cases hb90 : s88 = s26
        ·have hS := hT hb90; clear hT hF
         refine RunT.quiet rfl rfl rfl (fun h' hC => sem_strNeT s88 s26 rfl rfl hb90 ⟨rfl, rfl⟩) ?_
         refine RunT.quiet rfl rfl rfl (fun h' hC => sem_pick false ((Value.bool false)) rfl rfl ⟨rfl, rfl⟩) ?_
         refine RunT.quiet rfl rfl rfl (fun h' hC => sem_move ((Value.bool false)) rfl ⟨rfl, rfl⟩) ?_
         refine RunT.joinJ (t := (.q 18 (.q 19 (.q 20 (.q 21 (.q 22 .nil)))))) (fun e h114 => ∃ b110 : Bool, ∃ s111 : ByteArray, ∃ b112 : Bool, ∃ s113 : ByteArray, Agree [(4, (Value.pointer (some ⟨k8, 0, none⟩))), (5, (Value.pointer p16)), (18, (Value.pointer none)), (20, (Value.bool false)), (127, (Value.bool false)), (128, (Value.agg #[(Value.bool b110), (Value.string s111)])), (133, (Value.agg #[(Value.bool b112), (Value.string s113)]))] e ∧ cellH B h114 ⟨k29, 0, none⟩ = some (Value.int .i64 (i77)) ∧ S_countermandlaw14_SheetDoes_J5 B k8 p16 k29 i77 b110 s111 b112 s113 h114 Q) ?_ fun j109 => ?_
         ·rintro e h114 ⟨b110, s111, b112, s113, hag, g115, hS⟩
          refine RunT.env hag ?_; clear hag
          obtain ⟨hT, hF⟩ := hS
          by_cases hb116 : eqL [(Value.bool b110), (Value.string s111)] [(Value.bool b112), (Value.string s113)] = true
          ·have hS := hT hb116; clear hT hF
           refine RunT.quiet rfl rfl rfl (fun h' hC => sem_aggEq [(Value.bool b110), (Value.string s111)] [(Value.bool b112), (Value.string s113)] _ (false) (.inr rfl) rfl rfl TF.agg_76 TF.flat_76 TF.eqg_76 ⟨⟨_, rfl⟩, ⟨_, rfl⟩, trivial⟩ ⟨⟨_, rfl⟩, ⟨_, rfl⟩, trivial⟩ (eqLT_neq hb116) ⟨rfl, rfl⟩) ?_
           refine RunT.quiet rfl rfl rfl (fun h' hC => sem_pick false ((Value.bool false)) rfl rfl ⟨rfl, rfl⟩) ?_
           refine RunT.quiet rfl rfl rfl (fun h' hC => sem_move ((Value.bool false)) rfl ⟨rfl, rfl⟩) ?_
           refine RunT.quiet rfl rfl rfl (fun h' hC => sem_move ((Value.bool false)) rfl ⟨rfl, rfl⟩) ?_
           refine RunT.quiet rfl rfl rfl (fun h' hC => sem_pick false ((Value.bool false)) rfl rfl ⟨rfl, rfl⟩) ?_
           refine Run.condF rfl ?_
           refine Run.skip ?_
           exact Run.of_fin (hS.imp fun h' hS => j41 _ _ ⟨⟨rfl, rfl, rfl, trivial⟩, hS⟩)
          ·have hS := hF hb116; clear hT hF
           refine RunT.quiet rfl rfl rfl (fun h' hC => sem_aggEq [(Value.bool b110), (Value.string s111)] [(Value.bool b112), (Value.string s113)] _ (true) (.inr rfl) rfl rfl TF.agg_76 TF.flat_76 TF.eqg_76 ⟨⟨_, rfl⟩, ⟨_, rfl⟩, trivial⟩ ⟨⟨_, rfl⟩, ⟨_, rfl⟩, trivial⟩ (eqLF_neq hb116) ⟨rfl, rfl⟩) ?_
           refine RunT.quiet rfl rfl rfl (fun h' hC => sem_pick false ((Value.bool true)) rfl rfl ⟨rfl, rfl⟩) ?_
           refine RunT.quiet rfl rfl rfl (fun h' hC => sem_move ((Value.bool true)) rfl ⟨rfl, rfl⟩) ?_
           refine RunT.skip rfl rfl rfl ?_
           refine RunT.quiet rfl rfl rfl (fun h' hC => sem_pick true ((Value.bool true)) rfl rfl ⟨rfl, rfl⟩) ?_
           refine Run.condT rfl ?_
           refine Run.seq ?_
           refine Run.ops0 (idx := [0]) rfl ?_
           obtain ⟨h117, hst, hS⟩ := hS
           refine Run.go rfl rfl rfl (sem_store1 ⟨k8, 0, none⟩ ((Value.bool false)) h117 rfl rfl rfl TF.sz_4 hst ?_)
           refine Run.region_end ?_
           obtain ⟨b118, hl0, hS⟩ := hS
           refine Run.ret ⟨.inr rfl, ?_⟩
           exact ⟨⟨k8, 0, none⟩, (Value.bool b118), rfl, loadH1 TF.agg_4 hl0, hS.imp fun h' hq => ⟨(b118), rfl, hq⟩⟩
         refine ⟨?_, ?_, trivial⟩
         ·have hS := hS.1
          obtain ⟨b119, s120, hl, hS⟩ := hS
          refine OpH.go rfl rfl rfl (sem_loadN ⟨k38, 0, none⟩ [(Value.bool b119), (Value.string s120)] rfl TF.agg_41 TF.sz_41 hl ?_)
          refine ⟨fun _ => ⟨g89, trivial⟩, ?_⟩
          refine ⟨?_, trivial⟩
          obtain ⟨p121, hl, hS⟩ := hS
          refine OpH.go rfl rfl rfl (sem_load1 ⟨k20, 0, none⟩ ((Value.pointer p121)) rfl TF.agg_72 hl ?_)
          refine ⟨fun _ => ⟨g89, trivial⟩, ?_⟩
          obtain ⟨A122, e123, hS⟩ := hS
          refine RunT.quiet rfl rfl rfl (fun h' hC => sem_nilCheck A122 (congrArg Value.pointer e123) ⟨rfl, rfl⟩) ?_
          refine RunT.quiet rfl rfl rfl (fun h' hC => sem_fieldAddr A122 0 rfl TF.fld_86_0 ⟨rfl, rfl⟩) ?_
          obtain ⟨hi0, hi1, hS⟩ := hS
          refine RunT.quiet rfl rfl rfl (fun h' hC => sem_indexAddrA A122 .i64 (0) rfl rfl TF.arr_77 hi0 hi1 ⟨rfl, rfl⟩) ?_
          refine ⟨?_, trivial⟩
          obtain ⟨b124, s125, hl, hS⟩ := hS
          refine OpH.go rfl rfl rfl (sem_loadN A122 [(Value.bool b124), (Value.string s125)] rfl TF.agg_76 TF.sz_76 hl ?_)
          refine ⟨fun _ => ⟨g89, trivial⟩, ?_⟩
          exact j109 _ _ ⟨(b119), s120, (b124), s125, ⟨rfl, rfl, rfl, rfl, rfl, rfl, rfl, trivial⟩, g89, hS⟩
         ·have hS := hS.2
          obtain ⟨p126, hl, hS⟩ := hS
          refine OpH.go rfl rfl rfl (sem_load1 ⟨k20, 0, none⟩ ((Value.pointer p126)) rfl TF.agg_72 hl ?_)
          refine ⟨fun _ => ⟨g89, trivial⟩, ?_⟩
          obtain ⟨A127, e128, hS⟩ := hS
          refine RunT.quiet rfl rfl rfl (fun h' hC => sem_nilCheck A127 (congrArg Value.pointer e128) ⟨rfl, rfl⟩) ?_
          refine RunT.quiet rfl rfl rfl (fun h' hC => sem_fieldAddr A127 0 rfl TF.fld_86_0 ⟨rfl, rfl⟩) ?_
          obtain ⟨hi0, hi1, hS⟩ := hS
          refine RunT.quiet rfl rfl rfl (fun h' hC => sem_indexAddrA A127 .i64 (0) rfl rfl TF.arr_77 hi0 hi1 ⟨rfl, rfl⟩) ?_
          refine ⟨?_, ?_, trivial⟩
          ·have hS := hS.1
           obtain ⟨b129, s130, hl, hS⟩ := hS
           refine OpH.go rfl rfl rfl (sem_loadN ⟨k38, 0, none⟩ [(Value.bool b129), (Value.string s130)] rfl TF.agg_41 TF.sz_41 hl ?_)
           refine ⟨fun _ => ⟨g89, trivial⟩, ?_⟩
           refine ⟨?_, trivial⟩
           obtain ⟨b131, s132, hl, hS⟩ := hS
           refine OpH.go rfl rfl rfl (sem_loadN A127 [(Value.bool b131), (Value.string s132)] rfl TF.agg_76 TF.sz_76 hl ?_)
           refine ⟨fun _ => ⟨g89, trivial⟩, ?_⟩
           exact j109 _ _ ⟨(b129), s130, (b131), s132, ⟨rfl, rfl, rfl, rfl, rfl, rfl, rfl, trivial⟩, g89, hS⟩
          ·have hS := hS.2
           obtain ⟨b133, s134, hl, hS⟩ := hS
           refine OpH.go rfl rfl rfl (sem_loadN A127 [(Value.bool b133), (Value.string s134)] rfl TF.agg_76 TF.sz_76 hl ?_)
           refine ⟨fun _ => ⟨g89, trivial⟩, ?_⟩
           refine ⟨?_, trivial⟩
           obtain ⟨b135, s136, hl, hS⟩ := hS
           refine OpH.go rfl rfl rfl (sem_loadN ⟨k38, 0, none⟩ [(Value.bool b135), (Value.string s136)] rfl TF.agg_41 TF.sz_41 hl ?_)
           refine ⟨fun _ => ⟨g89, trivial⟩, ?_⟩
           exact j109 _ _ ⟨(b135), s136, (b133), s134, ⟨rfl, rfl, rfl, rfl, rfl, rfl, rfl, trivial⟩, g89, hS⟩
        ·have hS := hF hb90; clear hT hF
         refine RunT.quiet rfl rfl rfl (fun h' hC => sem_strNeF s88 s26 rfl rfl hb90 ⟨rfl, rfl⟩) ?_
         refine RunT.quiet rfl rfl rfl (fun h' hC => sem_pick false ((Value.bool true)) rfl rfl ⟨rfl, rfl⟩) ?_
         refine RunT.quiet rfl rfl rfl (fun h' hC => sem_move ((Value.bool true)) rfl ⟨rfl, rfl⟩) ?_
         refine RunT.joinJ (t := (.q 18 (.q 19 (.q 20 (.q 21 (.q 22 .nil)))))) (fun e h138 => Agree [(4, (Value.pointer (some ⟨k8, 0, none⟩))), (5, (Value.pointer p16)), (18, (Value.pointer none)), (20, (Value.bool false)), (127, (Value.bool true))] e ∧ cellH B h138 ⟨k29, 0, none⟩ = some (Value.int .i64 (i77)) ∧ S_countermandlaw14_SheetDoes_J6 B k8 p16 k29 i77 h138 Q) ?_ fun j137 => ?_
         ·rintro e h138 ⟨hag, g139, hS⟩
          refine RunT.env hag ?_; clear hag
          refine RunT.skip rfl rfl rfl ?_
          refine RunT.quiet rfl rfl rfl (fun h' hC => sem_pick true ((Value.bool true)) rfl rfl ⟨rfl, rfl⟩) ?_
          refine RunT.quiet rfl rfl rfl (fun h' hC => sem_move ((Value.bool true)) rfl ⟨rfl, rfl⟩) ?_
          refine RunT.skip rfl rfl rfl ?_
          refine RunT.quiet rfl rfl rfl (fun h' hC => sem_pick true ((Value.bool true)) rfl rfl ⟨rfl, rfl⟩) ?_
          refine Run.condT rfl ?_
          refine Run.seq ?_
          refine Run.ops0 (idx := [0]) rfl ?_
          obtain ⟨h140, hst, hS⟩ := hS
          refine Run.go rfl rfl rfl (sem_store1 ⟨k8, 0, none⟩ ((Value.bool false)) h140 rfl rfl rfl TF.sz_4 hst ?_)
          refine Run.region_end ?_
          obtain ⟨b141, hl0, hS⟩ := hS
          refine Run.ret ⟨.inr rfl, ?_⟩
          exact ⟨⟨k8, 0, none⟩, (Value.bool b141), rfl, loadH1 TF.agg_4 hl0, hS.imp fun h' hq => ⟨(b141), rfl, hq⟩⟩
         refine ⟨?_, ?_, trivial⟩
         ·have hS := hS.1
          refine OpH.no rfl rfl rfl ⟨fun _ => ⟨g89, trivial⟩, ?_⟩
          refine ⟨?_, trivial⟩
          refine OpH.no rfl rfl rfl ⟨fun _ => ⟨g89, trivial⟩, ?_⟩
          refine RunT.skip rfl rfl rfl ?_
          refine RunT.skip rfl rfl rfl ?_
          refine RunT.skip rfl rfl rfl ?_
          refine ⟨?_, trivial⟩
          refine OpH.no rfl rfl rfl ⟨fun _ => ⟨g89, trivial⟩, ?_⟩
          exact j137 _ _ ⟨⟨rfl, rfl, rfl, rfl, rfl, trivial⟩, g89, hS⟩
         ·have hS := hS.2
          refine OpH.no rfl rfl rfl ⟨fun _ => ⟨g89, trivial⟩, ?_⟩
          refine RunT.skip rfl rfl rfl ?_
          refine RunT.skip rfl rfl rfl ?_
          refine RunT.skip rfl rfl rfl ?_
          refine ⟨?_, ?_, trivial⟩
          ·have hS := hS.1
           refine OpH.no rfl rfl rfl ⟨fun _ => ⟨g89, trivial⟩, ?_⟩
           refine ⟨?_, trivial⟩
           refine OpH.no rfl rfl rfl ⟨fun _ => ⟨g89, trivial⟩, ?_⟩
           exact j137 _ _ ⟨⟨rfl, rfl, rfl, rfl, rfl, trivial⟩, g89, hS⟩
          ·have hS := hS.2
           refine OpH.no rfl rfl rfl ⟨fun _ => ⟨g89, trivial⟩, ?_⟩
           refine ⟨?_, trivial⟩
           refine OpH.no rfl rfl rfl ⟨fun _ => ⟨g89, trivial⟩, ?_⟩
           exact j137 _ _ ⟨⟨rfl, rfl, rfl, rfl, rfl, trivial⟩, g89, hS⟩
       ·have hS := hF hb86; clear hT hF
        refine RunT.quiet rfl rfl rfl (fun h' hC => sem_binI .i64 (i77) (i84) (.bool true) rfl rfl (binI_neq_f hb86) ⟨rfl, rfl⟩) ?_
        refine RunT.quiet rfl rfl rfl (fun h' hC => sem_move ((Value.bool true)) rfl ⟨rfl, rfl⟩) ?_
        refine RunT.skip rfl rfl rfl ?_
        refine RunT.skip rfl rfl rfl ?_
        refine ⟨?_, trivial⟩
        refine OpH.no rfl rfl rfl ⟨fun _ => ⟨g85, trivial⟩, ?_⟩
        refine RunT.skip rfl rfl rfl ?_
        refine RunT.quiet rfl rfl rfl (fun h' hC => sem_pick true ((Value.bool true)) rfl rfl ⟨rfl, rfl⟩) ?_
        refine RunT.quiet rfl rfl rfl (fun h' hC => sem_move ((Value.bool true)) rfl ⟨rfl, rfl⟩) ?_
        refine RunT.joinJ (t := (.q 18 (.q 19 (.q 20 (.q 21 (.q 22 .nil)))))) (fun e h143 => Agree [(4, (Value.pointer (some ⟨k8, 0, none⟩))), (5, (Value.pointer p16)), (18, (Value.pointer none)), (20, (Value.bool false)), (127, (Value.bool true))] e ∧ cellH B h143 ⟨k29, 0, none⟩ = some (Value.int .i64 (i77)) ∧ S_countermandlaw14_SheetDoes_J7 B k8 p16 k29 i77 h143 Q) ?_ fun j142 => ?_
        ·rintro e h143 ⟨hag, g144, hS⟩
         refine RunT.env hag ?_; clear hag
         refine RunT.skip rfl rfl rfl ?_
         refine RunT.quiet rfl rfl rfl (fun h' hC => sem_pick true ((Value.bool true)) rfl rfl ⟨rfl, rfl⟩) ?_
         refine RunT.quiet rfl rfl rfl (fun h' hC => sem_move ((Value.bool true)) rfl ⟨rfl, rfl⟩) ?_
         refine RunT.skip rfl rfl rfl ?_
         refine RunT.quiet rfl rfl rfl (fun h' hC => sem_pick true ((Value.bool true)) rfl rfl ⟨rfl, rfl⟩) ?_
         refine Run.condT rfl ?_
         refine Run.seq ?_
         refine Run.ops0 (idx := [0]) rfl ?_
         obtain ⟨h145, hst, hS⟩ := hS
         refine Run.go rfl rfl rfl (sem_store1 ⟨k8, 0, none⟩ ((Value.bool false)) h145 rfl rfl rfl TF.sz_4 hst ?_)
         refine Run.region_end ?_
         obtain ⟨b146, hl0, hS⟩ := hS
         refine Run.ret ⟨.inr rfl, ?_⟩
         exact ⟨⟨k8, 0, none⟩, (Value.bool b146), rfl, loadH1 TF.agg_4 hl0, hS.imp fun h' hq => ⟨(b146), rfl, hq⟩⟩
        refine ⟨?_, ?_, trivial⟩
        ·have hS := hS.1
         refine OpH.no rfl rfl rfl ⟨fun _ => ⟨g85, trivial⟩, ?_⟩
         refine ⟨?_, trivial⟩
         refine OpH.no rfl rfl rfl ⟨fun _ => ⟨g85, trivial⟩, ?_⟩
         refine RunT.skip rfl rfl rfl ?_
         refine RunT.skip rfl rfl rfl ?_
         refine RunT.skip rfl rfl rfl ?_
         refine ⟨?_, trivial⟩
         refine OpH.no rfl rfl rfl ⟨fun _ => ⟨g85, trivial⟩, ?_⟩
         exact j142 _ _ ⟨⟨rfl, rfl, rfl, rfl, rfl, trivial⟩, g85, hS⟩
        ·have hS := hS.2
         refine OpH.no rfl rfl rfl ⟨fun _ => ⟨g85, trivial⟩, ?_⟩
         refine RunT.skip rfl rfl rfl ?_
         refine RunT.skip rfl rfl rfl ?_
         refine RunT.skip rfl rfl rfl ?_
         refine ⟨?_, ?_, trivial⟩
         ·have hS := hS.1
          refine OpH.no rfl rfl rfl ⟨fun _ => ⟨g85, trivial⟩, ?_⟩
          refine ⟨?_, trivial⟩
          refine OpH.no rfl rfl rfl ⟨fun _ => ⟨g85, trivial⟩, ?_⟩
          exact j142 _ _ ⟨⟨rfl, rfl, rfl, rfl, rfl, trivial⟩, g85, hS⟩
         ·have hS := hS.2
          refine OpH.no rfl rfl rfl ⟨fun _ => ⟨g85, trivial⟩, ?_⟩
          refine ⟨?_, trivial⟩
          refine OpH.no rfl rfl rfl ⟨fun _ => ⟨g85, trivial⟩, ?_⟩
          exact j142 _ _ ⟨⟨rfl, rfl, rfl, rfl, rfl, trivial⟩, g85, hS⟩
      ·have hS := hT rfl; clear hT hF
       refine Run.go rfl rfl rfl (sem_extract #[(Value.agg #[(Value.bool b35), (Value.string s36)]), (Value.bool true)] (.bool true) rfl rfl ?_)
       refine Run.go rfl rfl rfl (sem_allocN [(Value.bool false), (Value.string ByteArray.empty)] TF.zero_41 (fun k147 hb1 hb2 h148 hb3 => ?_))
       have hS := hS k147 hb1 hb2 h148 hb3
       obtain ⟨h149, hst, hS⟩ := hS
       refine Run.go rfl rfl rfl (sem_storeN ⟨k147, 0, none⟩ [(Value.bool b35), (Value.string s36)] h149 rfl rfl TF.sz_41 hst ?_)
       refine Run.go rfl rfl rfl (sem_assign ((Value.bool true)) rfl ?_)
       refine Run.region_end ?_
       refine Run.seqJ (fun e h151 => Agree [(4, (Value.pointer (some ⟨k8, 0, none⟩))), (5, (Value.pointer p16)), (18, (Value.pointer none))] e ∧ S_countermandlaw14_SheetDoes_J8 B k8 p16 h151 Q) ?_ fun j150 => ?_
       ·rintro e h151 ⟨hag, hS⟩
        refine Run.env hag ?_; clear hag
        refine Run.seq ?_
        refine Run.ops0 (idx := [0, 1, 2, 3, 4, 5, 6, 7, 8, 9, 10, 11, 12, 13, 14, 15, 16, 17, 18, 19, 20, 21, 22, 23, 24, 25, 26, 27, 28, 29, 30, 31, 32, 33, 34, 35, 36, 37, 38, 39, 40, 41, 42, 43, 44]) rfl ?_
        refine Run.go rfl rfl rfl (sem_move ((Value.pointer none)) rfl ?_)
        refine Run.go rfl rfl rfl (sem_move ((Value.pointer p16)) rfl ?_)
        refine Run.go rfl rfl rfl (sem_callL [(Value.pointer none), (Value.pointer p16), (Value.int .i64 (0)), (Value.int .i64 (0)), (Value.int .u8 (0))] (TF.goes_54) rfl rfl (Spec.mono hS fun v h152 hv => ?_))
        obtain ⟨b153, rfl, hS⟩ := hv
        obtain ⟨hT, hF⟩ := hS
        cases b153
        ·have hS := hF rfl; clear hT hF
         refine Run.go rfl rfl rfl (sem_not false rfl ?_)
         refine Run.go rfl rfl rfl (sem_move ((Value.bool true)) rfl ?_)
         refine Run.go rfl rfl rfl (sem_move ((Value.pointer none)) rfl ?_)
         refine Run.go rfl rfl rfl (sem_move ((Value.pointer p16)) rfl ?_)
         refine Run.go rfl rfl rfl (sem_callL [(Value.pointer none), (Value.pointer p16), (Value.int .i64 (0)), (Value.int .i64 (0))] (TF.goes_55) rfl rfl (Spec.mono hS fun v h154 hv => ?_))
         obtain ⟨b155, rfl, hS⟩ := hv
         obtain ⟨hT, hF⟩ := hS
         cases b155
         ·have hS := hF rfl; clear hT hF
          refine Run.go rfl rfl rfl (sem_not false rfl ?_)
          refine Run.go rfl rfl rfl (sem_pick true ((Value.bool true)) rfl rfl ?_)
          refine Run.go rfl rfl rfl (sem_move ((Value.bool true)) rfl ?_)
          refine Run.go rfl rfl rfl (sem_move ((Value.pointer none)) rfl ?_)
          refine Run.go rfl rfl rfl (sem_move ((Value.pointer p16)) rfl ?_)
          refine Run.go rfl rfl rfl (sem_callL [(Value.pointer none), (Value.pointer p16), (Value.int .i64 (0))] (TF.goes_22) rfl rfl (Spec.mono hS fun v h156 hv => ?_))
          obtain ⟨b157, rfl, hS⟩ := hv
          obtain ⟨hT, hF⟩ := hS
          cases b157
          ·have hS := hF rfl; clear hT hF
           refine Run.go rfl rfl rfl (sem_not false rfl ?_)
           refine Run.go rfl rfl rfl (sem_pick true ((Value.bool true)) rfl rfl ?_)
           refine Run.go rfl rfl rfl (sem_move ((Value.bool true)) rfl ?_)
           refine Run.go rfl rfl rfl (sem_move ((Value.pointer none)) rfl ?_)
           refine Run.go rfl rfl rfl (sem_move ((Value.pointer p16)) rfl ?_)
           refine Run.go rfl rfl rfl (sem_callL [(Value.pointer none), (Value.pointer p16), (Value.int .i64 (0))] (TF.goes_56) rfl rfl (Spec.mono hS fun v h158 hv => ?_))
           obtain ⟨b159, rfl, hS⟩ := hv
           obtain ⟨hT, hF⟩ := hS
           cases b159
           ·have hS := hF rfl; clear hT hF
            refine Run.go rfl rfl rfl (sem_not false rfl ?_)
            refine Run.go rfl rfl rfl (sem_pick true ((Value.bool true)) rfl rfl ?_)
            refine Run.go rfl rfl rfl (sem_move ((Value.bool true)) rfl ?_)
            refine Run.go rfl rfl rfl (sem_move ((Value.pointer none)) rfl ?_)
            refine Run.go rfl rfl rfl (sem_move ((Value.pointer p16)) rfl ?_)
            refine Run.go rfl rfl rfl (sem_callL [(Value.pointer none), (Value.pointer p16), (Value.int .i64 (0)), (Value.int .i64 (1))] (TF.goes_45) rfl rfl (Spec.mono hS fun v h160 hv => ?_))
            obtain ⟨b161, rfl, hS⟩ := hv
            obtain ⟨hT, hF⟩ := hS
            cases b161
            ·have hS := hF rfl; clear hT hF
             refine Run.go rfl rfl rfl (sem_not false rfl ?_)
             refine Run.go rfl rfl rfl (sem_pick true ((Value.bool true)) rfl rfl ?_)
             refine Run.go rfl rfl rfl (sem_move ((Value.bool true)) rfl ?_)
             refine Run.go rfl rfl rfl (sem_move ((Value.pointer none)) rfl ?_)
             refine Run.go rfl rfl rfl (sem_callL [(Value.pointer none)] (TF.goes_51) rfl rfl (Spec.mono hS fun v h162 hv => ?_))
             obtain ⟨p163, rfl, hS⟩ := hv
             obtain ⟨hT, hF⟩ := hS
             by_cases hb164 : p163 = none
             ·have hS := hT hb164; clear hT hF
              refine Run.go rfl rfl rfl (sem_ptrNilT p163 (.inl rfl) true rfl rfl TF.ptr_95 hb164 rfl ?_)
              refine Run.go rfl rfl rfl (sem_pick true ((Value.bool true)) rfl rfl ?_)
              refine Run.go rfl rfl rfl (sem_move ((Value.bool true)) rfl ?_)
              refine Run.go rfl rfl rfl (sem_move ((Value.pointer none)) rfl ?_)
              refine Run.go rfl rfl rfl (sem_callL [(Value.pointer none)] (TF.goes_47) rfl rfl (Spec.mono hS fun v h165 hv => ?_))
              obtain ⟨p166, rfl, hS⟩ := hv
              obtain ⟨hT, hF⟩ := hS
              by_cases hb167 : p166 = none
              ·have hS := hT hb167; clear hT hF
               refine Run.go rfl rfl rfl (sem_ptrNilT p166 (.inl rfl) true rfl rfl TF.ptr_28 hb167 rfl ?_)
               refine Run.go rfl rfl rfl (sem_pick true ((Value.bool true)) rfl rfl ?_)
               refine Run.go rfl rfl rfl (sem_move ((Value.bool true)) rfl ?_)
               refine Run.go rfl rfl rfl (sem_move ((Value.pointer none)) rfl ?_)
               refine Run.go rfl rfl rfl (sem_move ((Value.pointer p16)) rfl ?_)
               refine Run.go rfl rfl rfl (sem_callL [(Value.pointer none), (Value.pointer p16), (Value.int .i64 (1))] (TF.goes_48) rfl rfl (Spec.mono hS fun v h168 hv => ?_))
               obtain ⟨i169, rfl, hS⟩ := hv
               refine Run.go rfl rfl rfl (sem_binI .i64 (i169) (0) ((Value.bool ((i169 : Int) == (0)))) rfl rfl rfl ?_)
               refine Run.go rfl rfl rfl (sem_pick true ((Value.bool ((i169 : Int) == (0)))) rfl rfl ?_)
               obtain ⟨h170, hst, hS⟩ := hS
               refine Run.go rfl rfl rfl (sem_store1 ⟨k8, 0, none⟩ ((Value.bool ((i169 : Int) == (0)))) h170 rfl rfl rfl TF.sz_4 hst ?_)
               refine Run.region_end ?_
               obtain ⟨b171, hl0, hS⟩ := hS
               refine Run.ret ⟨.inr rfl, ?_⟩
               exact ⟨⟨k8, 0, none⟩, (Value.bool b171), rfl, loadH1 TF.agg_4 hl0, hS.imp fun h' hq => ⟨(b171), rfl, hq⟩⟩
              ·have hS := hF hb167; clear hT hF
               refine Run.go rfl rfl rfl (sem_ptrNilF p166 (.inl rfl) false rfl rfl TF.ptr_28 hb167 rfl ?_)
               refine Run.go rfl rfl rfl (sem_pick true ((Value.bool false)) rfl rfl ?_)
               refine Run.go rfl rfl rfl (sem_move ((Value.bool false)) rfl ?_)
               refine Run.no rfl rfl rfl ?_
               refine Run.no rfl rfl rfl ?_
               refine Run.no rfl rfl rfl ?_
               refine Run.no rfl rfl rfl ?_
               refine Run.go rfl rfl rfl (sem_pick false ((Value.bool false)) rfl rfl ?_)
               obtain ⟨h172, hst, hS⟩ := hS
               refine Run.go rfl rfl rfl (sem_store1 ⟨k8, 0, none⟩ ((Value.bool false)) h172 rfl rfl rfl TF.sz_4 hst ?_)
               refine Run.region_end ?_
               obtain ⟨b173, hl0, hS⟩ := hS
               refine Run.ret ⟨.inr rfl, ?_⟩
               exact ⟨⟨k8, 0, none⟩, (Value.bool b173), rfl, loadH1 TF.agg_4 hl0, hS.imp fun h' hq => ⟨(b173), rfl, hq⟩⟩
             ·have hS := hF hb164; clear hT hF
              refine Run.go rfl rfl rfl (sem_ptrNilF p163 (.inl rfl) false rfl rfl TF.ptr_95 hb164 rfl ?_)
              refine Run.go rfl rfl rfl (sem_pick true ((Value.bool false)) rfl rfl ?_)
              refine Run.go rfl rfl rfl (sem_move ((Value.bool false)) rfl ?_)
              refine Run.no rfl rfl rfl ?_
              refine Run.no rfl rfl rfl ?_
              refine Run.no rfl rfl rfl ?_
              refine Run.go rfl rfl rfl (sem_pick false ((Value.bool false)) rfl rfl ?_)
              refine Run.go rfl rfl rfl (sem_move ((Value.bool false)) rfl ?_)
              refine Run.no rfl rfl rfl ?_
              refine Run.no rfl rfl rfl ?_
              refine Run.no rfl rfl rfl ?_
              refine Run.no rfl rfl rfl ?_
              refine Run.go rfl rfl rfl (sem_pick false ((Value.bool false)) rfl rfl ?_)
              obtain ⟨h174, hst, hS⟩ := hS
              refine Run.go rfl rfl rfl (sem_store1 ⟨k8, 0, none⟩ ((Value.bool false)) h174 rfl rfl rfl TF.sz_4 hst ?_)
              refine Run.region_end ?_
              obtain ⟨b175, hl0, hS⟩ := hS
              refine Run.ret ⟨.inr rfl, ?_⟩
              exact ⟨⟨k8, 0, none⟩, (Value.bool b175), rfl, loadH1 TF.agg_4 hl0, hS.imp fun h' hq => ⟨(b175), rfl, hq⟩⟩
            ·have hS := hT rfl; clear hT hF
             refine Run.go rfl rfl rfl (sem_not true rfl ?_)
             refine Run.go rfl rfl rfl (sem_pick true ((Value.bool false)) rfl rfl ?_)
             refine Run.go rfl rfl rfl (sem_move ((Value.bool false)) rfl ?_)
             refine Run.no rfl rfl rfl ?_
             refine Run.no rfl rfl rfl ?_
             refine Run.no rfl rfl rfl ?_
             refine Run.go rfl rfl rfl (sem_pick false ((Value.bool false)) rfl rfl ?_)
             refine Run.go rfl rfl rfl (sem_move ((Value.bool false)) rfl ?_)
             refine Run.no rfl rfl rfl ?_
             refine Run.no rfl rfl rfl ?_
             refine Run.no rfl rfl rfl ?_
             refine Run.go rfl rfl rfl (sem_pick false ((Value.bool false)) rfl rfl ?_)
             refine Run.go rfl rfl rfl (sem_move ((Value.bool false)) rfl ?_)
             refine Run.no rfl rfl rfl ?_
             refine Run.no rfl rfl rfl ?_
             refine Run.no rfl rfl rfl ?_
             refine Run.no rfl rfl rfl ?_
             refine Run.go rfl rfl rfl (sem_pick false ((Value.bool false)) rfl rfl ?_)
             obtain ⟨h176, hst, hS⟩ := hS
             refine Run.go rfl rfl rfl (sem_store1 ⟨k8, 0, none⟩ ((Value.bool false)) h176 rfl rfl rfl TF.sz_4 hst ?_)
             refine Run.region_end ?_
             obtain ⟨b177, hl0, hS⟩ := hS
             refine Run.ret ⟨.inr rfl, ?_⟩
             exact ⟨⟨k8, 0, none⟩, (Value.bool b177), rfl, loadH1 TF.agg_4 hl0, hS.imp fun h' hq => ⟨(b177), rfl, hq⟩⟩
           ·have hS := hT rfl; clear hT hF
            refine Run.go rfl rfl rfl (sem_not true rfl ?_)
            refine Run.go rfl rfl rfl (sem_pick true ((Value.bool false)) rfl rfl ?_)
            refine Run.go rfl rfl rfl (sem_move ((Value.bool false)) rfl ?_)
            refine Run.no rfl rfl rfl ?_
            refine Run.no rfl rfl rfl ?_
            refine Run.no rfl rfl rfl ?_
            refine Run.no rfl rfl rfl ?_
            refine Run.go rfl rfl rfl (sem_pick false ((Value.bool false)) rfl rfl ?_)
            refine Run.go rfl rfl rfl (sem_move ((Value.bool false)) rfl ?_)
            refine Run.no rfl rfl rfl ?_
            refine Run.no rfl rfl rfl ?_
            refine Run.no rfl rfl rfl ?_
            refine Run.go rfl rfl rfl (sem_pick false ((Value.bool false)) rfl rfl ?_)
            refine Run.go rfl rfl rfl (sem_move ((Value.bool false)) rfl ?_)
            refine Run.no rfl rfl rfl ?_
            refine Run.no rfl rfl rfl ?_
            refine Run.no rfl rfl rfl ?_
            refine Run.go rfl rfl rfl (sem_pick false ((Value.bool false)) rfl rfl ?_)
            refine Run.go rfl rfl rfl (sem_move ((Value.bool false)) rfl ?_)
            refine Run.no rfl rfl rfl ?_
            refine Run.no rfl rfl rfl ?_
            refine Run.no rfl rfl rfl ?_
            refine Run.no rfl rfl rfl ?_
            refine Run.go rfl rfl rfl (sem_pick false ((Value.bool false)) rfl rfl ?_)
            obtain ⟨h178, hst, hS⟩ := hS
            refine Run.go rfl rfl rfl (sem_store1 ⟨k8, 0, none⟩ ((Value.bool false)) h178 rfl rfl rfl TF.sz_4 hst ?_)
            refine Run.region_end ?_
            obtain ⟨b179, hl0, hS⟩ := hS
            refine Run.ret ⟨.inr rfl, ?_⟩
            exact ⟨⟨k8, 0, none⟩, (Value.bool b179), rfl, loadH1 TF.agg_4 hl0, hS.imp fun h' hq => ⟨(b179), rfl, hq⟩⟩
          ·have hS := hT rfl; clear hT hF
           refine Run.go rfl rfl rfl (sem_not true rfl ?_)
           refine Run.go rfl rfl rfl (sem_pick true ((Value.bool false)) rfl rfl ?_)
           refine Run.go rfl rfl rfl (sem_move ((Value.bool false)) rfl ?_)
           refine Run.no rfl rfl rfl ?_
           refine Run.no rfl rfl rfl ?_
           refine Run.no rfl rfl rfl ?_
           refine Run.no rfl rfl rfl ?_
           refine Run.go rfl rfl rfl (sem_pick false ((Value.bool false)) rfl rfl ?_)
           refine Run.go rfl rfl rfl (sem_move ((Value.bool false)) rfl ?_)
           refine Run.no rfl rfl rfl ?_
           refine Run.no rfl rfl rfl ?_
           refine Run.no rfl rfl rfl ?_
           refine Run.no rfl rfl rfl ?_
           refine Run.go rfl rfl rfl (sem_pick false ((Value.bool false)) rfl rfl ?_)
           refine Run.go rfl rfl rfl (sem_move ((Value.bool false)) rfl ?_)
           refine Run.no rfl rfl rfl ?_
           refine Run.no rfl rfl rfl ?_
           refine Run.no rfl rfl rfl ?_
           refine Run.go rfl rfl rfl (sem_pick false ((Value.bool false)) rfl rfl ?_)
           refine Run.go rfl rfl rfl (sem_move ((Value.bool false)) rfl ?_)
           refine Run.no rfl rfl rfl ?_
           refine Run.no rfl rfl rfl ?_
           refine Run.no rfl rfl rfl ?_
           refine Run.go rfl rfl rfl (sem_pick false ((Value.bool false)) rfl rfl ?_)
           refine Run.go rfl rfl rfl (sem_move ((Value.bool false)) rfl ?_)
           refine Run.no rfl rfl rfl ?_
           refine Run.no rfl rfl rfl ?_
           refine Run.no rfl rfl rfl ?_
           refine Run.no rfl rfl rfl ?_
           refine Run.go rfl rfl rfl (sem_pick false ((Value.bool false)) rfl rfl ?_)
           obtain ⟨h180, hst, hS⟩ := hS
           refine Run.go rfl rfl rfl (sem_store1 ⟨k8, 0, none⟩ ((Value.bool false)) h180 rfl rfl rfl TF.sz_4 hst ?_)
           refine Run.region_end ?_
           obtain ⟨b181, hl0, hS⟩ := hS
           refine Run.ret ⟨.inr rfl, ?_⟩
           exact ⟨⟨k8, 0, none⟩, (Value.bool b181), rfl, loadH1 TF.agg_4 hl0, hS.imp fun h' hq => ⟨(b181), rfl, hq⟩⟩
         ·have hS := hT rfl; clear hT hF
          refine Run.go rfl rfl rfl (sem_not true rfl ?_)
          refine Run.go rfl rfl rfl (sem_pick true ((Value.bool false)) rfl rfl ?_)
          refine Run.go rfl rfl rfl (sem_move ((Value.bool false)) rfl ?_)
          refine Run.no rfl rfl rfl ?_
          refine Run.no rfl rfl rfl ?_
          refine Run.no rfl rfl rfl ?_
          refine Run.no rfl rfl rfl ?_
          refine Run.go rfl rfl rfl (sem_pick false ((Value.bool false)) rfl rfl ?_)
          refine Run.go rfl rfl rfl (sem_move ((Value.bool false)) rfl ?_)
          refine Run.no rfl rfl rfl ?_
          refine Run.no rfl rfl rfl ?_
          refine Run.no rfl rfl rfl ?_
          refine Run.no rfl rfl rfl ?_
          refine Run.go rfl rfl rfl (sem_pick false ((Value.bool false)) rfl rfl ?_)
          refine Run.go rfl rfl rfl (sem_move ((Value.bool false)) rfl ?_)
          refine Run.no rfl rfl rfl ?_
          refine Run.no rfl rfl rfl ?_
          refine Run.no rfl rfl rfl ?_
          refine Run.no rfl rfl rfl ?_
          refine Run.go rfl rfl rfl (sem_pick false ((Value.bool false)) rfl rfl ?_)
          refine Run.go rfl rfl rfl (sem_move ((Value.bool false)) rfl ?_)
          refine Run.no rfl rfl rfl ?_
          refine Run.no rfl rfl rfl ?_
          refine Run.no rfl rfl rfl ?_
          refine Run.go rfl rfl rfl (sem_pick false ((Value.bool false)) rfl rfl ?_)
          refine Run.go rfl rfl rfl (sem_move ((Value.bool false)) rfl ?_)
          refine Run.no rfl rfl rfl ?_
          refine Run.no rfl rfl rfl ?_
          refine Run.no rfl rfl rfl ?_
          refine Run.go rfl rfl rfl (sem_pick false ((Value.bool false)) rfl rfl ?_)
          refine Run.go rfl rfl rfl (sem_move ((Value.bool false)) rfl ?_)
          refine Run.no rfl rfl rfl ?_
          refine Run.no rfl rfl rfl ?_
          refine Run.no rfl rfl rfl ?_
          refine Run.no rfl rfl rfl ?_
          refine Run.go rfl rfl rfl (sem_pick false ((Value.bool false)) rfl rfl ?_)
          obtain ⟨h182, hst, hS⟩ := hS
          refine Run.go rfl rfl rfl (sem_store1 ⟨k8, 0, none⟩ ((Value.bool false)) h182 rfl rfl rfl TF.sz_4 hst ?_)
          refine Run.region_end ?_
          obtain ⟨b183, hl0, hS⟩ := hS
          refine Run.ret ⟨.inr rfl, ?_⟩
          exact ⟨⟨k8, 0, none⟩, (Value.bool b183), rfl, loadH1 TF.agg_4 hl0, hS.imp fun h' hq => ⟨(b183), rfl, hq⟩⟩
        ·have hS := hT rfl; clear hT hF
         refine Run.go rfl rfl rfl (sem_not true rfl ?_)
         refine Run.go rfl rfl rfl (sem_move ((Value.bool false)) rfl ?_)
         refine Run.no rfl rfl rfl ?_
         refine Run.no rfl rfl rfl ?_
         refine Run.no rfl rfl rfl ?_
         refine Run.no rfl rfl rfl ?_
         refine Run.go rfl rfl rfl (sem_pick false ((Value.bool false)) rfl rfl ?_)
         refine Run.go rfl rfl rfl (sem_move ((Value.bool false)) rfl ?_)
         refine Run.no rfl rfl rfl ?_
         refine Run.no rfl rfl rfl ?_
         refine Run.no rfl rfl rfl ?_
         refine Run.no rfl rfl rfl ?_
         refine Run.go rfl rfl rfl (sem_pick false ((Value.bool false)) rfl rfl ?_)
         refine Run.go rfl rfl rfl (sem_move ((Value.bool false)) rfl ?_)
         refine Run.no rfl rfl rfl ?_
         refine Run.no rfl rfl rfl ?_
         refine Run.no rfl rfl rfl ?_
         refine Run.no rfl rfl rfl ?_
         refine Run.go rfl rfl rfl (sem_pick false ((Value.bool false)) rfl rfl ?_)
         refine Run.go rfl rfl rfl (sem_move ((Value.bool false)) rfl ?_)
         refine Run.no rfl rfl rfl ?_
         refine Run.no rfl rfl rfl ?_
         refine Run.no rfl rfl rfl ?_
         refine Run.no rfl rfl rfl ?_
         refine Run.go rfl rfl rfl (sem_pick false ((Value.bool false)) rfl rfl ?_)
         refine Run.go rfl rfl rfl (sem_move ((Value.bool false)) rfl ?_)
         refine Run.no rfl rfl rfl ?_
         refine Run.no rfl rfl rfl ?_
         refine Run.no rfl rfl rfl ?_
         refine Run.go rfl rfl rfl (sem_pick false ((Value.bool false)) rfl rfl ?_)
         refine Run.go rfl rfl rfl (sem_move ((Value.bool false)) rfl ?_)
         refine Run.no rfl rfl rfl ?_
         refine Run.no rfl rfl rfl ?_
         refine Run.no rfl rfl rfl ?_
         refine Run.go rfl rfl rfl (sem_pick false ((Value.bool false)) rfl rfl ?_)
         refine Run.go rfl rfl rfl (sem_move ((Value.bool false)) rfl ?_)
         refine Run.no rfl rfl rfl ?_
         refine Run.no rfl rfl rfl ?_
         refine Run.no rfl rfl rfl ?_
         refine Run.no rfl rfl rfl ?_
         refine Run.go rfl rfl rfl (sem_pick false ((Value.bool false)) rfl rfl ?_)
         obtain ⟨h184, hst, hS⟩ := hS
         refine Run.go rfl rfl rfl (sem_store1 ⟨k8, 0, none⟩ ((Value.bool false)) h184 rfl rfl rfl TF.sz_4 hst ?_)
         refine Run.region_end ?_
         obtain ⟨b185, hl0, hS⟩ := hS
         refine Run.ret ⟨.inr rfl, ?_⟩
         exact ⟨⟨k8, 0, none⟩, (Value.bool b185), rfl, loadH1 TF.agg_4 hl0, hS.imp fun h' hq => ⟨(b185), rfl, hq⟩⟩
       refine Run.seq ?_
       obtain ⟨i186, hl, hS⟩ := hS
       have f187 := hl
       skip
       refine Run.drawM (fun h' => cellH B h' ⟨k29, 0, none⟩ = some (Value.int .i64 (i186)) ∧ True) [] ⟨[0, 0, 2, 4, 9, 24, 32, 96, 32, 416, 544, 1152, 2048, 2048, 10240, 18432, 34816, 67584, 137216, 264192, 526336, 1048576, 3145728], [8388607, 8388607, 8388605, 8388603, 8388598, 8388591, 8388575, 8388511, 8388575, 8388191, 8388063, 8387583, 8386559, 8386559, 8378367, 8370175, 8353791, 8321023, 8251391, 8124415, 7864319, 7340031, 5242879], [0, 0, 0, 0, 0, 0, 0, 0, 0, 0, 0, 0, 0, 0, 0, 0, 0, 0, 0, 0, 0, 0, 0], 0⟩ (.q 0 (.q 1 (.x 2 (.x 3 (.q 4 (.q 5 (.q 6 (.q 8 (.x 7 (.q 9 (.q 10 (.q 11 (.x 12 (.x 13 (.q 14 (.q 15 (.q 16 (.x 17 (.q 18 (.q 19 (.q 20 (.q 21 (.q 22 .nil))))) .no)))) .no) (.x 13 (.q 14 (.q 15 (.q 16 (.x 12 (.x 17 (.q 18 (.q 19 (.q 20 (.q 21 (.q 22 .nil))))) .no) (.x 17 (.x 12 (.q 18 (.q 19 (.q 20 (.q 21 (.q 22 .nil))))) .no) .no))))) .no))))) .no))))) .no) .no))) TF.mixed (by kernel_rfl) ⟨f187, trivial⟩ ?_
       refine RunT.quiet rfl rfl rfl (fun h' hC => sem_load1 ⟨k29, 0, none⟩ ((Value.int .i64 (i186))) rfl TF.agg_3 hC.1 ⟨rfl, rfl⟩) ?_
       refine RunT.quiet rfl rfl rfl (fun h' hC => sem_move ((Value.pointer p17)) rfl ⟨rfl, rfl⟩) ?_
       refine ⟨?_, trivial⟩
       refine OpH.go rfl rfl rfl (sem_callL [(Value.pointer p17)] (TF.goes_51) rfl rfl (Spec.mono hS fun v h189 hv => ?_))
       obtain ⟨p190, rfl, hS⟩ := hv
       obtain ⟨g191, hS⟩ := hS
       refine ⟨fun _ => ⟨g191, trivial⟩, ?_⟩
       refine ⟨?_, trivial⟩
       refine OpH.go rfl rfl rfl (sem_callL [(Value.pointer p190)] (TF.goes_53) rfl rfl (Spec.mono hS fun v h192 hv => ?_))
       obtain ⟨i193, rfl, hS⟩ := hv
       obtain ⟨g194, hS⟩ := hS
       refine ⟨fun _ => ⟨g194, trivial⟩, ?_⟩
       obtain ⟨hT, hF⟩ := hS
       by_cases hb195 : (i186 : Int) = i193
       ·have hS := hT hb195; clear hT hF
        refine RunT.quiet rfl rfl rfl (fun h' hC => sem_binI .i64 (i186) (i193) (.bool false) rfl rfl (binI_neq_t hb195) ⟨rfl, rfl⟩) ?_
        refine RunT.quiet rfl rfl rfl (fun h' hC => sem_move ((Value.bool false)) rfl ⟨rfl, rfl⟩) ?_
        refine RunT.quiet rfl rfl rfl (fun h' hC => sem_move ((Value.pointer p16)) rfl ⟨rfl, rfl⟩) ?_
        refine RunT.quiet rfl rfl rfl (fun h' hC => sem_move ((Value.string s26)) rfl ⟨rfl, rfl⟩) ?_
        refine ⟨?_, trivial⟩
        refine OpH.go rfl rfl rfl (sem_callL [(Value.pointer p16)] (TF.goes_50) rfl rfl (Spec.mono hS fun v h196 hv => ?_))
        obtain ⟨s197, rfl, hS⟩ := hv
        obtain ⟨g198, hS⟩ := hS
        refine ⟨fun _ => ⟨g198, trivial⟩, ?_⟩
        obtain ⟨hT, hF⟩ := hS
        by_cases hb199 : s197 = s26
        ·have hS := hT hb199; clear hT hF
         refine RunT.quiet rfl rfl rfl (fun h' hC => sem_strNeT s197 s26 rfl rfl hb199 ⟨rfl, rfl⟩) ?_
         refine RunT.quiet rfl rfl rfl (fun h' hC => sem_pick false ((Value.bool false)) rfl rfl ⟨rfl, rfl⟩) ?_
         refine RunT.quiet rfl rfl rfl (fun h' hC => sem_move ((Value.bool false)) rfl ⟨rfl, rfl⟩) ?_
         refine RunT.joinJ (t := (.q 18 (.q 19 (.q 20 (.q 21 (.q 22 .nil)))))) (fun e h223 => ∃ b219 : Bool, ∃ s220 : ByteArray, ∃ b221 : Bool, ∃ s222 : ByteArray, Agree [(4, (Value.pointer (some ⟨k8, 0, none⟩))), (5, (Value.pointer p16)), (18, (Value.pointer none)), (20, (Value.bool true)), (127, (Value.bool false)), (128, (Value.agg #[(Value.bool b219), (Value.string s220)])), (133, (Value.agg #[(Value.bool b221), (Value.string s222)]))] e ∧ cellH B h223 ⟨k29, 0, none⟩ = some (Value.int .i64 (i186)) ∧ S_countermandlaw14_SheetDoes_J9 B k8 p16 k29 i186 b219 s220 b221 s222 h223 Q) ?_ fun j218 => ?_
         ·rintro e h223 ⟨b219, s220, b221, s222, hag, g224, hS⟩
          refine RunT.env hag ?_; clear hag
          obtain ⟨hT, hF⟩ := hS
          by_cases hb225 : eqL [(Value.bool b219), (Value.string s220)] [(Value.bool b221), (Value.string s222)] = true
          ·have hS := hT hb225; clear hT hF
           refine RunT.quiet rfl rfl rfl (fun h' hC => sem_aggEq [(Value.bool b219), (Value.string s220)] [(Value.bool b221), (Value.string s222)] _ (false) (.inr rfl) rfl rfl TF.agg_76 TF.flat_76 TF.eqg_76 ⟨⟨_, rfl⟩, ⟨_, rfl⟩, trivial⟩ ⟨⟨_, rfl⟩, ⟨_, rfl⟩, trivial⟩ (eqLT_neq hb225) ⟨rfl, rfl⟩) ?_
           refine RunT.quiet rfl rfl rfl (fun h' hC => sem_pick false ((Value.bool false)) rfl rfl ⟨rfl, rfl⟩) ?_
           refine RunT.quiet rfl rfl rfl (fun h' hC => sem_move ((Value.bool false)) rfl ⟨rfl, rfl⟩) ?_
           refine RunT.quiet rfl rfl rfl (fun h' hC => sem_move ((Value.bool true)) rfl ⟨rfl, rfl⟩) ?_
           refine RunT.quiet rfl rfl rfl (fun h' hC => sem_pick false ((Value.bool true)) rfl rfl ⟨rfl, rfl⟩) ?_
           refine Run.condT rfl ?_
           refine Run.seq ?_
           refine Run.ops0 (idx := [0]) rfl ?_
           obtain ⟨h226, hst, hS⟩ := hS
           refine Run.go rfl rfl rfl (sem_store1 ⟨k8, 0, none⟩ ((Value.bool false)) h226 rfl rfl rfl TF.sz_4 hst ?_)
           refine Run.region_end ?_
           obtain ⟨b227, hl0, hS⟩ := hS
           refine Run.ret ⟨.inr rfl, ?_⟩
           exact ⟨⟨k8, 0, none⟩, (Value.bool b227), rfl, loadH1 TF.agg_4 hl0, hS.imp fun h' hq => ⟨(b227), rfl, hq⟩⟩
          ·have hS := hF hb225; clear hT hF
           refine RunT.quiet rfl rfl rfl (fun h' hC => sem_aggEq [(Value.bool b219), (Value.string s220)] [(Value.bool b221), (Value.string s222)] _ (true) (.inr rfl) rfl rfl TF.agg_76 TF.flat_76 TF.eqg_76 ⟨⟨_, rfl⟩, ⟨_, rfl⟩, trivial⟩ ⟨⟨_, rfl⟩, ⟨_, rfl⟩, trivial⟩ (eqLF_neq hb225) ⟨rfl, rfl⟩) ?_
           refine RunT.quiet rfl rfl rfl (fun h' hC => sem_pick false ((Value.bool true)) rfl rfl ⟨rfl, rfl⟩) ?_
           refine RunT.quiet rfl rfl rfl (fun h' hC => sem_move ((Value.bool true)) rfl ⟨rfl, rfl⟩) ?_
           refine RunT.skip rfl rfl rfl ?_
           refine RunT.quiet rfl rfl rfl (fun h' hC => sem_pick true ((Value.bool true)) rfl rfl ⟨rfl, rfl⟩) ?_
           refine Run.condT rfl ?_
           refine Run.seq ?_
           refine Run.ops0 (idx := [0]) rfl ?_
           obtain ⟨h228, hst, hS⟩ := hS
           refine Run.go rfl rfl rfl (sem_store1 ⟨k8, 0, none⟩ ((Value.bool false)) h228 rfl rfl rfl TF.sz_4 hst ?_)
           refine Run.region_end ?_
           obtain ⟨b229, hl0, hS⟩ := hS
           refine Run.ret ⟨.inr rfl, ?_⟩
           exact ⟨⟨k8, 0, none⟩, (Value.bool b229), rfl, loadH1 TF.agg_4 hl0, hS.imp fun h' hq => ⟨(b229), rfl, hq⟩⟩
         refine ⟨?_, ?_, trivial⟩
         ·have hS := hS.1
          obtain ⟨b230, s231, hl, hS⟩ := hS
          refine OpH.go rfl rfl rfl (sem_loadN ⟨k147, 0, none⟩ [(Value.bool b230), (Value.string s231)] rfl TF.agg_41 TF.sz_41 hl ?_)
          refine ⟨fun _ => ⟨g198, trivial⟩, ?_⟩
          refine ⟨?_, trivial⟩
          obtain ⟨p232, hl, hS⟩ := hS
          refine OpH.go rfl rfl rfl (sem_load1 ⟨k20, 0, none⟩ ((Value.pointer p232)) rfl TF.agg_72 hl ?_)
          refine ⟨fun _ => ⟨g198, trivial⟩, ?_⟩
          obtain ⟨A233, e234, hS⟩ := hS
          refine RunT.quiet rfl rfl rfl (fun h' hC => sem_nilCheck A233 (congrArg Value.pointer e234) ⟨rfl, rfl⟩) ?_
          refine RunT.quiet rfl rfl rfl (fun h' hC => sem_fieldAddr A233 0 rfl TF.fld_86_0 ⟨rfl, rfl⟩) ?_
          obtain ⟨hi0, hi1, hS⟩ := hS
          refine RunT.quiet rfl rfl rfl (fun h' hC => sem_indexAddrA A233 .i64 (0) rfl rfl TF.arr_77 hi0 hi1 ⟨rfl, rfl⟩) ?_
          refine ⟨?_, trivial⟩
          obtain ⟨b235, s236, hl, hS⟩ := hS
          refine OpH.go rfl rfl rfl (sem_loadN A233 [(Value.bool b235), (Value.string s236)] rfl TF.agg_76 TF.sz_76 hl ?_)
          refine ⟨fun _ => ⟨g198, trivial⟩, ?_⟩
          exact j218 _ _ ⟨(b230), s231, (b235), s236, ⟨rfl, rfl, rfl, rfl, rfl, rfl, rfl, trivial⟩, g198, hS⟩
         ·have hS := hS.2
          obtain ⟨p237, hl, hS⟩ := hS
          refine OpH.go rfl rfl rfl (sem_load1 ⟨k20, 0, none⟩ ((Value.pointer p237)) rfl TF.agg_72 hl ?_)
          refine ⟨fun _ => ⟨g198, trivial⟩, ?_⟩
          obtain ⟨A238, e239, hS⟩ := hS
          refine RunT.quiet rfl rfl rfl (fun h' hC => sem_nilCheck A238 (congrArg Value.pointer e239) ⟨rfl, rfl⟩) ?_
          refine RunT.quiet rfl rfl rfl (fun h' hC => sem_fieldAddr A238 0 rfl TF.fld_86_0 ⟨rfl, rfl⟩) ?_
          obtain ⟨hi0, hi1, hS⟩ := hS
          refine RunT.quiet rfl rfl rfl (fun h' hC => sem_indexAddrA A238 .i64 (0) rfl rfl TF.arr_77 hi0 hi1 ⟨rfl, rfl⟩) ?_
          refine ⟨?_, ?_, trivial⟩
          ·have hS := hS.1
           obtain ⟨b240, s241, hl, hS⟩ := hS
           refine OpH.go rfl rfl rfl (sem_loadN ⟨k147, 0, none⟩ [(Value.bool b240), (Value.string s241)] rfl TF.agg_41 TF.sz_41 hl ?_)
           refine ⟨fun _ => ⟨g198, trivial⟩, ?_⟩
           refine ⟨?_, trivial⟩
           obtain ⟨b242, s243, hl, hS⟩ := hS
           refine OpH.go rfl rfl rfl (sem_loadN A238 [(Value.bool b242), (Value.string s243)] rfl TF.agg_76 TF.sz_76 hl ?_)
           refine ⟨fun _ => ⟨g198, trivial⟩, ?_⟩
           exact j218 _ _ ⟨(b240), s241, (b242), s243, ⟨rfl, rfl, rfl, rfl, rfl, rfl, rfl, trivial⟩, g198, hS⟩
          ·have hS := hS.2
           obtain ⟨b244, s245, hl, hS⟩ := hS
           refine OpH.go rfl rfl rfl (sem_loadN A238 [(Value.bool b244), (Value.string s245)] rfl TF.agg_76 TF.sz_76 hl ?_)
           refine ⟨fun _ => ⟨g198, trivial⟩, ?_⟩
           refine ⟨?_, trivial⟩
           obtain ⟨b246, s247, hl, hS⟩ := hS
           refine OpH.go rfl rfl rfl (sem_loadN ⟨k147, 0, none⟩ [(Value.bool b246), (Value.string s247)] rfl TF.agg_41 TF.sz_41 hl ?_)
           refine ⟨fun _ => ⟨g198, trivial⟩, ?_⟩
           exact j218 _ _ ⟨(b246), s247, (b244), s245, ⟨rfl, rfl, rfl, rfl, rfl, rfl, rfl, trivial⟩, g198, hS⟩
        ·have hS := hF hb199; clear hT hF
         refine RunT.quiet rfl rfl rfl (fun h' hC => sem_strNeF s197 s26 rfl rfl hb199 ⟨rfl, rfl⟩) ?_
         refine RunT.quiet rfl rfl rfl (fun h' hC => sem_pick false ((Value.bool true)) rfl rfl ⟨rfl, rfl⟩) ?_
         refine RunT.quiet rfl rfl rfl (fun h' hC => sem_move ((Value.bool true)) rfl ⟨rfl, rfl⟩) ?_
         refine RunT.joinJ (t := (.q 18 (.q 19 (.q 20 (.q 21 (.q 22 .nil)))))) (fun e h249 => Agree [(4, (Value.pointer (some ⟨k8, 0, none⟩))), (5, (Value.pointer p16)), (18, (Value.pointer none)), (20, (Value.bool true)), (127, (Value.bool true))] e ∧ cellH B h249 ⟨k29, 0, none⟩ = some (Value.int .i64 (i186)) ∧ S_countermandlaw14_SheetDoes_J10 B k8 p16 k29 i186 h249 Q) ?_ fun j248 => ?_
         ·rintro e h249 ⟨hag, g250, hS⟩
          refine RunT.env hag ?_; clear hag
          refine RunT.skip rfl rfl rfl ?_
          refine RunT.quiet rfl rfl rfl (fun h' hC => sem_pick true ((Value.bool true)) rfl rfl ⟨rfl, rfl⟩) ?_
          refine RunT.quiet rfl rfl rfl (fun h' hC => sem_move ((Value.bool true)) rfl ⟨rfl, rfl⟩) ?_
          refine RunT.skip rfl rfl rfl ?_
          refine RunT.quiet rfl rfl rfl (fun h' hC => sem_pick true ((Value.bool true)) rfl rfl ⟨rfl, rfl⟩) ?_
          refine Run.condT rfl ?_
          refine Run.seq ?_
          refine Run.ops0 (idx := [0]) rfl ?_
          obtain ⟨h251, hst, hS⟩ := hS
          refine Run.go rfl rfl rfl (sem_store1 ⟨k8, 0, none⟩ ((Value.bool false)) h251 rfl rfl rfl TF.sz_4 hst ?_)
          refine Run.region_end ?_
          obtain ⟨b252, hl0, hS⟩ := hS
          refine Run.ret ⟨.inr rfl, ?_⟩
          exact ⟨⟨k8, 0, none⟩, (Value.bool b252), rfl, loadH1 TF.agg_4 hl0, hS.imp fun h' hq => ⟨(b252), rfl, hq⟩⟩
         refine ⟨?_, ?_, trivial⟩
         ·have hS := hS.1
          refine OpH.no rfl rfl rfl ⟨fun _ => ⟨g198, trivial⟩, ?_⟩
          refine ⟨?_, trivial⟩
          refine OpH.no rfl rfl rfl ⟨fun _ => ⟨g198, trivial⟩, ?_⟩
          refine RunT.skip rfl rfl rfl ?_
          refine RunT.skip rfl rfl rfl ?_
          refine RunT.skip rfl rfl rfl ?_
          refine ⟨?_, trivial⟩
          refine OpH.no rfl rfl rfl ⟨fun _ => ⟨g198, trivial⟩, ?_⟩
          exact j248 _ _ ⟨⟨rfl, rfl, rfl, rfl, rfl, trivial⟩, g198, hS⟩
         ·have hS := hS.2
          refine OpH.no rfl rfl rfl ⟨fun _ => ⟨g198, trivial⟩, ?_⟩
          refine RunT.skip rfl rfl rfl ?_
          refine RunT.skip rfl rfl rfl ?_
          refine RunT.skip rfl rfl rfl ?_
          refine ⟨?_, ?_, trivial⟩
          ·have hS := hS.1
           refine OpH.no rfl rfl rfl ⟨fun _ => ⟨g198, trivial⟩, ?_⟩
           refine ⟨?_, trivial⟩
           refine OpH.no rfl rfl rfl ⟨fun _ => ⟨g198, trivial⟩, ?_⟩
           exact j248 _ _ ⟨⟨rfl, rfl, rfl, rfl, rfl, trivial⟩, g198, hS⟩
          ·have hS := hS.2
           refine OpH.no rfl rfl rfl ⟨fun _ => ⟨g198, trivial⟩, ?_⟩
           refine ⟨?_, trivial⟩
           refine OpH.no rfl rfl rfl ⟨fun _ => ⟨g198, trivial⟩, ?_⟩
           exact j248 _ _ ⟨⟨rfl, rfl, rfl, rfl, rfl, trivial⟩, g198, hS⟩
       ·have hS := hF hb195; clear hT hF
        refine RunT.quiet rfl rfl rfl (fun h' hC => sem_binI .i64 (i186) (i193) (.bool true) rfl rfl (binI_neq_f hb195) ⟨rfl, rfl⟩) ?_
        refine RunT.quiet rfl rfl rfl (fun h' hC => sem_move ((Value.bool true)) rfl ⟨rfl, rfl⟩) ?_
        refine RunT.skip rfl rfl rfl ?_
        refine RunT.skip rfl rfl rfl ?_
        refine ⟨?_, trivial⟩
        refine OpH.no rfl rfl rfl ⟨fun _ => ⟨g194, trivial⟩, ?_⟩
        refine RunT.skip rfl rfl rfl ?_
        refine RunT.quiet rfl rfl rfl (fun h' hC => sem_pick true ((Value.bool true)) rfl rfl ⟨rfl, rfl⟩) ?_
        refine RunT.quiet rfl rfl rfl (fun h' hC => sem_move ((Value.bool true)) rfl ⟨rfl, rfl⟩) ?_
        refine RunT.joinJ (t := (.q 18 (.q 19 (.q 20 (.q 21 (.q 22 .nil)))))) (fun e h254 => Agree [(4, (Value.pointer (some ⟨k8, 0, none⟩))), (5, (Value.pointer p16)), (18, (Value.pointer none)), (20, (Value.bool true)), (127, (Value.bool true))] e ∧ cellH B h254 ⟨k29, 0, none⟩ = some (Value.int .i64 (i186)) ∧ S_countermandlaw14_SheetDoes_J11 B k8 p16 k29 i186 h254 Q) ?_ fun j253 => ?_
        ·rintro e h254 ⟨hag, g255, hS⟩
         refine RunT.env hag ?_; clear hag
         refine RunT.skip rfl rfl rfl ?_
         refine RunT.quiet rfl rfl rfl (fun h' hC => sem_pick true ((Value.bool true)) rfl rfl ⟨rfl, rfl⟩) ?_
         refine RunT.quiet rfl rfl rfl (fun h' hC => sem_move ((Value.bool true)) rfl ⟨rfl, rfl⟩) ?_
         refine RunT.skip rfl rfl rfl ?_
         refine RunT.quiet rfl rfl rfl (fun h' hC => sem_pick true ((Value.bool true)) rfl rfl ⟨rfl, rfl⟩) ?_
         refine Run.condT rfl ?_
         refine Run.seq ?_
         refine Run.ops0 (idx := [0]) rfl ?_
         obtain ⟨h256, hst, hS⟩ := hS
         refine Run.go rfl rfl rfl (sem_store1 ⟨k8, 0, none⟩ ((Value.bool false)) h256 rfl rfl rfl TF.sz_4 hst ?_)
         refine Run.region_end ?_
         obtain ⟨b257, hl0, hS⟩ := hS
         refine Run.ret ⟨.inr rfl, ?_⟩
         exact ⟨⟨k8, 0, none⟩, (Value.bool b257), rfl, loadH1 TF.agg_4 hl0, hS.imp fun h' hq => ⟨(b257), rfl, hq⟩⟩
        refine ⟨?_, ?_, trivial⟩
        ·have hS := hS.1
         refine OpH.no rfl rfl rfl ⟨fun _ => ⟨g194, trivial⟩, ?_⟩
         refine ⟨?_, trivial⟩
         refine OpH.no rfl rfl rfl ⟨fun _ => ⟨g194, trivial⟩, ?_⟩
         refine RunT.skip rfl rfl rfl ?_
         refine RunT.skip rfl rfl rfl ?_
         refine RunT.skip rfl rfl rfl ?_
         refine ⟨?_, trivial⟩
         refine OpH.no rfl rfl rfl ⟨fun _ => ⟨g194, trivial⟩, ?_⟩
         exact j253 _ _ ⟨⟨rfl, rfl, rfl, rfl, rfl, trivial⟩, g194, hS⟩
        ·have hS := hS.2
         refine OpH.no rfl rfl rfl ⟨fun _ => ⟨g194, trivial⟩, ?_⟩
         refine RunT.skip rfl rfl rfl ?_
         refine RunT.skip rfl rfl rfl ?_
         refine RunT.skip rfl rfl rfl ?_
         refine ⟨?_, ?_, trivial⟩
         ·have hS := hS.1
          refine OpH.no rfl rfl rfl ⟨fun _ => ⟨g194, trivial⟩, ?_⟩
          refine ⟨?_, trivial⟩
          refine OpH.no rfl rfl rfl ⟨fun _ => ⟨g194, trivial⟩, ?_⟩
          exact j253 _ _ ⟨⟨rfl, rfl, rfl, rfl, rfl, trivial⟩, g194, hS⟩
         ·have hS := hS.2
          refine OpH.no rfl rfl rfl ⟨fun _ => ⟨g194, trivial⟩, ?_⟩
          refine ⟨?_, trivial⟩
          refine OpH.no rfl rfl rfl ⟨fun _ => ⟨g194, trivial⟩, ?_⟩
          exact j253 _ _ ⟨⟨rfl, rfl, rfl, rfl, rfl, trivial⟩, g194, hS⟩
     refine Run.seq ?_
     refine Run.ops0 (idx := [0, 1, 2]) rfl ?_
     refine Run.go rfl rfl rfl (sem_move ((Value.pointer p17)) rfl ?_)
     refine Run.go rfl rfl rfl (sem_callL [(Value.pointer p17)] (TF.goes_51) rfl rfl (Spec.mono hS fun v h258 hv => ?_))
     obtain ⟨p259, rfl, hS⟩ := hv
     refine Run.go rfl rfl rfl (sem_callL [(Value.pointer p259)] (TF.goes_52) rfl rfl (Spec.mono hS fun v261 h260 hv => ?_))
     obtain ⟨_, rfl, hS⟩ := hv
     refine Run.region_end ?_
     refine Run.block ?_
     obtain ⟨xs269, G265, J268, hit, hins, hG, h0, hS, hR⟩ := hS
     refine Run.of_fin (h0.imp fun h' h0 => ?_)
     refine Run.range (v261) (xs269.map (fun x : Int × Bool × ByteArray => [(Value.int .i64 (x.1)), (Value.agg #[(Value.bool x.2.1), (Value.string x.2.2)])])) G265 J268 rfl hit hins hG h0 rfl (fun a ha => by obtain ⟨x, _, rfl⟩ := List.mem_map.1 ha; rfl) ?_ ?_
     ·rintro q267 args h266 ha hJ
      obtain ⟨⟨i262, b263, s264⟩, hx, rfl⟩ := Option.map_eq_some_iff.1 ((List.getElem?_map ..).symm.trans ha)
      have hS := hS q267 h266 i262 b263 s264 hx hJ; clear hJ hx ha
      refine Run.seq ?_
      refine Run.ops0 (idx := [0]) rfl ?_
      refine Run.go rfl rfl rfl (sem_assign ((Value.int .i64 (i262))) rfl ?_)
      refine Run.region_end ?_
      refine Run.ops0 (idx := [0, 1]) rfl ?_
      refine Run.go rfl rfl rfl (sem_allocN [(Value.bool false), (Value.string ByteArray.empty)] TF.zero_41 (fun k270 hb1 hb2 h271 hb3 => ?_))
      have hS := hS k270 hb1 hb2 h271 hb3
      obtain ⟨h272, hst, hS⟩ := hS
      refine Run.go rfl rfl rfl (sem_storeN ⟨k270, 0, none⟩ [(Value.bool b263), (Value.string s264)] h272 rfl rfl TF.sz_41 hst ?_)
      refine Run.region_end ?_
      refine Run.begin ⟨rfl, ?_⟩
      refine Run.block ?_
      refine Run.seq ?_
      refine Run.seq ?_
      refine Run.anyJ (fun e h275 => ∃ b274 : Bool, Agree [(4, (Value.pointer (some ⟨k8, 0, none⟩))), (15, (Value.pointer (some ⟨k29, 0, none⟩))), (107, (Value.bool b274))] e ∧ S_countermandlaw14_SheetDoes_J12 B k8 k29 q267 J268 b274 h275 Q) ?_ fun j273 => ?_
      ·rintro e h275 ⟨b274, hag, hS⟩
       refine Run.env hag ?_; clear hag
       obtain ⟨hT, hF⟩ := hS
       cases b274
       ·have hS := hF rfl; clear hT hF
        refine Run.condF rfl ?_
        refine Run.skip ?_
        refine Run.ops0 (idx := [0, 1, 2]) rfl ?_
        obtain ⟨i276, hl, hS⟩ := hS
        refine Run.go rfl rfl rfl (sem_load1 ⟨k29, 0, none⟩ ((Value.int .i64 (i276))) rfl TF.agg_3 hl ?_)
        refine Run.go rfl rfl rfl (sem_binI .i64 (i276) (1) ((Value.int .i64 (IntKind.wrap .i64 ((i276) + (1))))) rfl rfl rfl ?_)
        obtain ⟨h277, hst, hS⟩ := hS
        refine Run.go rfl rfl rfl (sem_store1 ⟨k29, 0, none⟩ ((Value.int .i64 (IntKind.wrap .i64 ((i276) + (1))))) h277 rfl rfl rfl TF.sz_3 hst ?_)
        refine Run.region_end ?_
        refine Run.inBlock ?_
        refine Run.of_fin (hS.imp fun h' hS => ?_)
        exact Run.fall (.inl ⟨rfl, hS⟩)
       ·have hS := hT rfl; clear hT hF
        refine Run.condT rfl ?_
        refine Run.seq ?_
        refine Run.ops0 (idx := [0]) rfl ?_
        obtain ⟨h278, hst, hS⟩ := hS
        refine Run.go rfl rfl rfl (sem_store1 ⟨k8, 0, none⟩ ((Value.bool false)) h278 rfl rfl rfl TF.sz_4 hst ?_)
        refine Run.region_end ?_
        refine Run.ret (.inr ⟨_, rfl, ?_⟩)
        obtain ⟨b279, hl0, hS⟩ := hS
        refine Run.ret ⟨.inr rfl, ?_⟩
        exact ⟨⟨k8, 0, none⟩, (Value.bool b279), rfl, loadH1 TF.agg_4 hl0, hS.imp fun h' hq => ⟨(b279), rfl, hq⟩⟩
      skip
      refine Run.drawM (fun h' => True) [] ⟨[0, 1, 2, 6, 8, 8, 24, 72, 168, 264, 520, 1032, 2056, 4096, 4096, 4096, 20480, 69632, 167936, 266240, 536576, 1052672], [4194303, 4194302, 4194301, 4194299, 4194295, 4194295, 4194279, 4194231, 4194135, 4194039, 4193783, 4193271, 4192255, 4190207, 4190207, 4190207, 4173823, 4124671, 4026367, 3928063, 3657727, 3141631], [0, 0, 0, 0, 0, 0, 0, 0, 0, 0, 0, 0, 0, 0, 0, 0, 0, 0, 0, 0, 0, 0], 0⟩ (.q 0 (.x 1 (.q 2 (.q 3 (.q 5 (.x 4 (.q 6 (.q 7 (.q 8 (.x 9 (.q 10 (.q 11 (.q 12 (.q 15 (.x 13 (.x 14 (.q 16 (.q 17 (.q 18 (.x 19 (.q 20 (.q 21 .nil)) .no)))) .no) (.x 14 (.q 16 (.q 17 (.q 18 (.x 13 (.x 19 (.q 20 (.q 21 .nil)) .no) (.x 19 (.x 13 (.q 20 (.q 21 .nil)) .no) .no))))) .no)))))) .no)))) .no)))) .no)) TF.mixed (by kernel_rfl) trivial ?_
      refine RunT.quiet rfl rfl rfl (fun h' hC => sem_move ((Value.int .i64 (i262))) rfl ⟨rfl, rfl⟩) ?_
      refine ⟨?_, trivial⟩
      refine OpH.go rfl rfl rfl (sem_callL [(Value.int .i64 (i262))] (TF.goes_44) rfl rfl (Spec.mono hS fun v h281 hv => ?_))
      obtain ⟨b282, rfl, hS⟩ := hv
      obtain ⟨hT, hF⟩ := hS
      cases b282
      ·have hS := hF rfl; clear hT hF
       refine ⟨fun _ => trivial, ?_⟩
       refine RunT.quiet rfl rfl rfl (fun h' hC => sem_not false rfl ⟨rfl, rfl⟩) ?_
       refine RunT.quiet rfl rfl rfl (fun h' hC => sem_move ((Value.bool true)) rfl ⟨rfl, rfl⟩) ?_
       refine RunT.skip rfl rfl rfl ?_
       refine ⟨?_, trivial⟩
       refine OpH.no rfl rfl rfl ⟨fun _ => trivial, ?_⟩
       refine RunT.skip rfl rfl rfl ?_
       refine RunT.skip rfl rfl rfl ?_
       refine RunT.skip rfl rfl rfl ?_
       refine ⟨?_, trivial⟩
       refine OpH.no rfl rfl rfl ⟨fun _ => trivial, ?_⟩
       refine RunT.skip rfl rfl rfl ?_
       refine RunT.quiet rfl rfl rfl (fun h' hC => sem_pick true ((Value.bool true)) rfl rfl ⟨rfl, rfl⟩) ?_
       refine RunT.quiet rfl rfl rfl (fun h' hC => sem_move ((Value.bool true)) rfl ⟨rfl, rfl⟩) ?_
       refine RunT.skip rfl rfl rfl ?_
       refine RunT.joinJ (t := (.q 20 (.q 21 .nil))) (fun e h284 => Agree [(4, (Value.pointer (some ⟨k8, 0, none⟩))), (15, (Value.pointer (some ⟨k29, 0, none⟩))), (98, (Value.bool true))] e ∧ S_countermandlaw14_SheetDoes_J13 B k8 k29 q267 J268 h284 Q) ?_ fun j283 => ?_
       ·rintro e h284 ⟨hag, hS⟩
        refine RunT.env hag ?_; clear hag
        refine RunT.skip rfl rfl rfl ?_
        refine RunT.quiet rfl rfl rfl (fun h' hC => sem_pick true ((Value.bool true)) rfl rfl ⟨rfl, rfl⟩) ?_
        exact Run.of_fin (hS.imp fun h' hS => j273 _ _ ⟨(true), ⟨rfl, rfl, rfl, trivial⟩, hS⟩)
       refine ⟨?_, ?_, trivial⟩
       ·have hS := hS.1
        refine OpH.no rfl rfl rfl ⟨fun _ => trivial, ?_⟩
        refine ⟨?_, trivial⟩
        refine OpH.no rfl rfl rfl ⟨fun _ => trivial, ?_⟩
        refine RunT.skip rfl rfl rfl ?_
        refine RunT.skip rfl rfl rfl ?_
        refine RunT.skip rfl rfl rfl ?_
        refine ⟨?_, trivial⟩
        refine OpH.no rfl rfl rfl ⟨fun _ => trivial, ?_⟩
        exact j283 _ _ ⟨⟨rfl, rfl, rfl, trivial⟩, hS⟩
       ·have hS := hS.2
        refine OpH.no rfl rfl rfl ⟨fun _ => trivial, ?_⟩
        refine RunT.skip rfl rfl rfl ?_
        refine RunT.skip rfl rfl rfl ?_
        refine RunT.skip rfl rfl rfl ?_
        refine ⟨?_, ?_, trivial⟩
        ·have hS := hS.1
         refine OpH.no rfl rfl rfl ⟨fun _ => trivial, ?_⟩
         refine ⟨?_, trivial⟩
         refine OpH.no rfl rfl rfl ⟨fun _ => trivial, ?_⟩
         exact j283 _ _ ⟨⟨rfl, rfl, rfl, trivial⟩, hS⟩
        ·have hS := hS.2
         refine OpH.no rfl rfl rfl ⟨fun _ => trivial, ?_⟩
         refine ⟨?_, trivial⟩
         refine OpH.no rfl rfl rfl ⟨fun _ => trivial, ?_⟩
         exact j283 _ _ ⟨⟨rfl, rfl, rfl, trivial⟩, hS⟩
      ·have hS := hT rfl; clear hT hF
       refine ⟨fun _ => trivial, ?_⟩
       refine RunT.quiet rfl rfl rfl (fun h' hC => sem_not true rfl ⟨rfl, rfl⟩) ?_
       refine RunT.quiet rfl rfl rfl (fun h' hC => sem_move ((Value.bool false)) rfl ⟨rfl, rfl⟩) ?_
       refine RunT.quiet rfl rfl rfl (fun h' hC => sem_move ((Value.int .i64 (i262))) rfl ⟨rfl, rfl⟩) ?_
       refine ⟨?_, trivial⟩
       obtain ⟨p285, hl, hS⟩ := hS
       refine OpH.go rfl rfl rfl (sem_load1 ⟨k20, 0, none⟩ ((Value.pointer p285)) rfl TF.agg_72 hl ?_)
       refine ⟨fun _ => trivial, ?_⟩
       obtain ⟨A286, e287, hS⟩ := hS
       refine RunT.quiet rfl rfl rfl (fun h' hC => sem_nilCheck A286 (congrArg Value.pointer e287) ⟨rfl, rfl⟩) ?_
       refine RunT.quiet rfl rfl rfl (fun h' hC => sem_fieldAddr A286 24 rfl TF.fld_86_2 ⟨rfl, rfl⟩) ?_
       obtain ⟨hi0, hi1, hS⟩ := hS
       refine RunT.quiet rfl rfl rfl (fun h' hC => sem_indexAddrA (Addr.add A286 24) .i64 (i262) rfl rfl TF.arr_84 hi0 hi1 ⟨rfl, rfl⟩) ?_
       refine ⟨?_, trivial⟩
       obtain ⟨b288, hl, hS⟩ := hS
       obtain ⟨hT, hF⟩ := hS
       cases b288
       ·have hS := hF rfl; clear hT hF
        refine OpH.go rfl rfl rfl (sem_load1 (Addr.add (Addr.add A286 24) (Int.toNat (i262) * 1)) (.bool false) rfl TF.agg_4 hl ?_)
        refine ⟨fun _ => trivial, ?_⟩
        refine RunT.quiet rfl rfl rfl (fun h' hC => sem_not false rfl ⟨rfl, rfl⟩) ?_
        refine RunT.quiet rfl rfl rfl (fun h' hC => sem_pick false ((Value.bool true)) rfl rfl ⟨rfl, rfl⟩) ?_
        refine RunT.quiet rfl rfl rfl (fun h' hC => sem_move ((Value.bool true)) rfl ⟨rfl, rfl⟩) ?_
        refine RunT.skip rfl rfl rfl ?_
        refine RunT.joinJ (t := (.q 20 (.q 21 .nil))) (fun e h290 => Agree [(4, (Value.pointer (some ⟨k8, 0, none⟩))), (15, (Value.pointer (some ⟨k29, 0, none⟩))), (98, (Value.bool true))] e ∧ S_countermandlaw14_SheetDoes_J14 B k8 k29 q267 J268 h290 Q) ?_ fun j289 => ?_
        ·rintro e h290 ⟨hag, hS⟩
         refine RunT.env hag ?_; clear hag
         refine RunT.skip rfl rfl rfl ?_
         refine RunT.quiet rfl rfl rfl (fun h' hC => sem_pick true ((Value.bool true)) rfl rfl ⟨rfl, rfl⟩) ?_
         exact Run.of_fin (hS.imp fun h' hS => j273 _ _ ⟨(true), ⟨rfl, rfl, rfl, trivial⟩, hS⟩)
        refine ⟨?_, ?_, trivial⟩
        ·have hS := hS.1
         refine OpH.no rfl rfl rfl ⟨fun _ => trivial, ?_⟩
         refine ⟨?_, trivial⟩
         refine OpH.no rfl rfl rfl ⟨fun _ => trivial, ?_⟩
         refine RunT.skip rfl rfl rfl ?_
         refine RunT.skip rfl rfl rfl ?_
         refine RunT.skip rfl rfl rfl ?_
         refine ⟨?_, trivial⟩
         refine OpH.no rfl rfl rfl ⟨fun _ => trivial, ?_⟩
         exact j289 _ _ ⟨⟨rfl, rfl, rfl, trivial⟩, hS⟩
        ·have hS := hS.2
         refine OpH.no rfl rfl rfl ⟨fun _ => trivial, ?_⟩
         refine RunT.skip rfl rfl rfl ?_
         refine RunT.skip rfl rfl rfl ?_
         refine RunT.skip rfl rfl rfl ?_
         refine ⟨?_, ?_, trivial⟩
         ·have hS := hS.1
          refine OpH.no rfl rfl rfl ⟨fun _ => trivial, ?_⟩
          refine ⟨?_, trivial⟩
          refine OpH.no rfl rfl rfl ⟨fun _ => trivial, ?_⟩
          exact j289 _ _ ⟨⟨rfl, rfl, rfl, trivial⟩, hS⟩
         ·have hS := hS.2
          refine OpH.no rfl rfl rfl ⟨fun _ => trivial, ?_⟩
          refine ⟨?_, trivial⟩
          refine OpH.no rfl rfl rfl ⟨fun _ => trivial, ?_⟩
          exact j289 _ _ ⟨⟨rfl, rfl, rfl, trivial⟩, hS⟩
       ·have hS := hT rfl; clear hT hF
        refine OpH.go rfl rfl rfl (sem_load1 (Addr.add (Addr.add A286 24) (Int.toNat (i262) * 1)) (.bool true) rfl TF.agg_4 hl ?_)
        refine ⟨fun _ => trivial, ?_⟩
        refine RunT.quiet rfl rfl rfl (fun h' hC => sem_not true rfl ⟨rfl, rfl⟩) ?_
        refine RunT.quiet rfl rfl rfl (fun h' hC => sem_pick false ((Value.bool false)) rfl rfl ⟨rfl, rfl⟩) ?_
        refine RunT.quiet rfl rfl rfl (fun h' hC => sem_move ((Value.bool false)) rfl ⟨rfl, rfl⟩) ?_
        refine RunT.quiet rfl rfl rfl (fun h' hC => sem_move ((Value.int .i64 (i262))) rfl ⟨rfl, rfl⟩) ?_
        refine RunT.joinJ (t := (.q 20 (.q 21 .nil))) (fun e h314 => ∃ b310 : Bool, ∃ s311 : ByteArray, ∃ b312 : Bool, ∃ s313 : ByteArray, Agree [(4, (Value.pointer (some ⟨k8, 0, none⟩))), (15, (Value.pointer (some ⟨k29, 0, none⟩))), (98, (Value.bool false)), (99, (Value.agg #[(Value.bool b310), (Value.string s311)])), (105, (Value.agg #[(Value.bool b312), (Value.string s313)]))] e ∧ S_countermandlaw14_SheetDoes_J15 B k8 k29 q267 J268 b310 s311 b312 s313 h314 Q) ?_ fun j309 => ?_
        ·rintro e h314 ⟨b310, s311, b312, s313, hag, hS⟩
         refine RunT.env hag ?_; clear hag
         obtain ⟨hT, hF⟩ := hS
         by_cases hb315 : eqL [(Value.bool b310), (Value.string s311)] [(Value.bool b312), (Value.string s313)] = true
         ·have hS := hT hb315; clear hT hF
          refine RunT.quiet rfl rfl rfl (fun h' hC => sem_aggEq [(Value.bool b310), (Value.string s311)] [(Value.bool b312), (Value.string s313)] _ (false) (.inr rfl) rfl rfl TF.agg_76 TF.flat_76 TF.eqg_76 ⟨⟨_, rfl⟩, ⟨_, rfl⟩, trivial⟩ ⟨⟨_, rfl⟩, ⟨_, rfl⟩, trivial⟩ (eqLT_neq hb315) ⟨rfl, rfl⟩) ?_
          refine RunT.quiet rfl rfl rfl (fun h' hC => sem_pick false ((Value.bool false)) rfl rfl ⟨rfl, rfl⟩) ?_
          exact Run.of_fin (hS.imp fun h' hS => j273 _ _ ⟨(false), ⟨rfl, rfl, rfl, trivial⟩, hS⟩)
         ·have hS := hF hb315; clear hT hF
          refine RunT.quiet rfl rfl rfl (fun h' hC => sem_aggEq [(Value.bool b310), (Value.string s311)] [(Value.bool b312), (Value.string s313)] _ (true) (.inr rfl) rfl rfl TF.agg_76 TF.flat_76 TF.eqg_76 ⟨⟨_, rfl⟩, ⟨_, rfl⟩, trivial⟩ ⟨⟨_, rfl⟩, ⟨_, rfl⟩, trivial⟩ (eqLF_neq hb315) ⟨rfl, rfl⟩) ?_
          refine RunT.quiet rfl rfl rfl (fun h' hC => sem_pick false ((Value.bool true)) rfl rfl ⟨rfl, rfl⟩) ?_
          exact Run.of_fin (hS.imp fun h' hS => j273 _ _ ⟨(true), ⟨rfl, rfl, rfl, trivial⟩, hS⟩)
        refine ⟨?_, ?_, trivial⟩
        ·have hS := hS.1
         obtain ⟨b316, s317, hl, hS⟩ := hS
         refine OpH.go rfl rfl rfl (sem_loadN ⟨k270, 0, none⟩ [(Value.bool b316), (Value.string s317)] rfl TF.agg_41 TF.sz_41 hl ?_)
         refine ⟨fun _ => trivial, ?_⟩
         refine ⟨?_, trivial⟩
         obtain ⟨p318, hl, hS⟩ := hS
         refine OpH.go rfl rfl rfl (sem_load1 ⟨k20, 0, none⟩ ((Value.pointer p318)) rfl TF.agg_72 hl ?_)
         refine ⟨fun _ => trivial, ?_⟩
         obtain ⟨A319, e320, hS⟩ := hS
         refine RunT.quiet rfl rfl rfl (fun h' hC => sem_nilCheck A319 (congrArg Value.pointer e320) ⟨rfl, rfl⟩) ?_
         refine RunT.quiet rfl rfl rfl (fun h' hC => sem_fieldAddr A319 12 rfl TF.fld_86_1 ⟨rfl, rfl⟩) ?_
         obtain ⟨hi0, hi1, hS⟩ := hS
         refine RunT.quiet rfl rfl rfl (fun h' hC => sem_indexAddrA (Addr.add A319 12) .i64 (i262) rfl rfl TF.arr_77 hi0 hi1 ⟨rfl, rfl⟩) ?_
         refine ⟨?_, trivial⟩
         obtain ⟨b321, s322, hl, hS⟩ := hS
         refine OpH.go rfl rfl rfl (sem_loadN (Addr.add (Addr.add A319 12) (Int.toNat (i262) * 2)) [(Value.bool b321), (Value.string s322)] rfl TF.agg_76 TF.sz_76 hl ?_)
         refine ⟨fun _ => trivial, ?_⟩
         exact j309 _ _ ⟨(b316), s317, (b321), s322, ⟨rfl, rfl, rfl, rfl, rfl, trivial⟩, hS⟩
        ·have hS := hS.2
         obtain ⟨p323, hl, hS⟩ := hS
         refine OpH.go rfl rfl rfl (sem_load1 ⟨k20, 0, none⟩ ((Value.pointer p323)) rfl TF.agg_72 hl ?_)
         refine ⟨fun _ => trivial, ?_⟩
         obtain ⟨A324, e325, hS⟩ := hS
         refine RunT.quiet rfl rfl rfl (fun h' hC => sem_nilCheck A324 (congrArg Value.pointer e325) ⟨rfl, rfl⟩) ?_
         refine RunT.quiet rfl rfl rfl (fun h' hC => sem_fieldAddr A324 12 rfl TF.fld_86_1 ⟨rfl, rfl⟩) ?_
         obtain ⟨hi0, hi1, hS⟩ := hS
         refine RunT.quiet rfl rfl rfl (fun h' hC => sem_indexAddrA (Addr.add A324 12) .i64 (i262) rfl rfl TF.arr_77 hi0 hi1 ⟨rfl, rfl⟩) ?_
         refine ⟨?_, ?_, trivial⟩
         ·have hS := hS.1
          obtain ⟨b326, s327, hl, hS⟩ := hS
          refine OpH.go rfl rfl rfl (sem_loadN ⟨k270, 0, none⟩ [(Value.bool b326), (Value.string s327)] rfl TF.agg_41 TF.sz_41 hl ?_)
          refine ⟨fun _ => trivial, ?_⟩
          refine ⟨?_, trivial⟩
          obtain ⟨b328, s329, hl, hS⟩ := hS
          refine OpH.go rfl rfl rfl (sem_loadN (Addr.add (Addr.add A324 12) (Int.toNat (i262) * 2)) [(Value.bool b328), (Value.string s329)] rfl TF.agg_76 TF.sz_76 hl ?_)
          refine ⟨fun _ => trivial, ?_⟩
          exact j309 _ _ ⟨(b326), s327, (b328), s329, ⟨rfl, rfl, rfl, rfl, rfl, trivial⟩, hS⟩
         ·have hS := hS.2
          obtain ⟨b330, s331, hl, hS⟩ := hS
          refine OpH.go rfl rfl rfl (sem_loadN (Addr.add (Addr.add A324 12) (Int.toNat (i262) * 2)) [(Value.bool b330), (Value.string s331)] rfl TF.agg_76 TF.sz_76 hl ?_)
          refine ⟨fun _ => trivial, ?_⟩
          refine ⟨?_, trivial⟩
          obtain ⟨b332, s333, hl, hS⟩ := hS
          refine OpH.go rfl rfl rfl (sem_loadN ⟨k270, 0, none⟩ [(Value.bool b332), (Value.string s333)] rfl TF.agg_41 TF.sz_41 hl ?_)
          refine ⟨fun _ => trivial, ?_⟩
          exact j309 _ _ ⟨(b332), s333, (b330), s331, ⟨rfl, rfl, rfl, rfl, rfl, trivial⟩, hS⟩
     ·intro h266 hJ
      have hS := hR h266 (by simpa using hJ); clear hJ hR
      refine Run.inBlock ?_
      exact Run.of_fin (hS.imp fun h' hS => j32 _ _ ⟨⟨rfl, rfl, rfl, rfl, rfl, rfl, trivial⟩, hS⟩)
    refine Run.seq ?_
    refine Run.ops0 (idx := [0, 1, 2]) rfl ?_
    refine Run.go rfl rfl rfl (sem_move ((Value.slice a2 n3 c4)) rfl ?_)
    refine Run.go rfl rfl rfl (sem_lenSl a2 n3 c4 rfl TF.sl_79 ?_)
    refine Run.go rfl rfl rfl (sem_move ((Value.int .i64 (0))) rfl ?_)
    refine Run.region_end ?_
    refine Run.block ?_
    obtain ⟨J339, m337, h0, hS⟩ := hS
    refine Run.of_fin (h0.imp fun h' h0 => ?_)
    refine Run.loop (σ := Int × Nat) (fun x e h => J339 x.1 x.2 h ∧ Agree [(4, (Value.pointer (some ⟨k8, 0, none⟩))), (5, (Value.pointer p16)), (6, (Value.pointer p17)), (7, (Value.pointer (some ⟨k20, 0, none⟩))), (9, (Value.string s26)), (39, (Value.slice a2 n3 c4)), (40, (Value.int .i64 ((n3 : Nat)))), (41, (Value.int .i64 (x.1)))] e) (fun x => x.2) ((0), m337) ⟨h0, ⟨rfl, rfl, rfl, rfl, rfl, rfl, rfl, rfl, trivial⟩⟩ ?_; clear h0
    rintro ⟨i334, m336⟩ e h335 ⟨hJ, hag⟩ ih338
    have hS := hS i334 m336 h335 hJ; clear hJ
    refine Run.env hag ?_; clear hag
    refine Run.seq ?_
    refine Run.ops0 (idx := [0]) rfl ?_
    obtain ⟨hT, hF⟩ := hS
    by_cases hb340 : (i334 : Int) < ((n3 : Nat))
    ·have hS := hT hb340; clear hT hF
     refine Run.go rfl rfl rfl (sem_binI .i64 (i334) ((n3 : Nat)) (.bool true) rfl rfl (binI_lss_t hb340) ?_)
     refine Run.region_end ?_
     refine Run.seq ?_
     refine Run.condT rfl ?_
     refine Run.skip ?_
     refine Run.seq ?_
     refine Run.block ?_
     refine Run.seq ?_
     refine Run.ops0 (idx := [0, 1, 2, 3]) rfl ?_
     obtain ⟨A341, e342, hi0, hi1, hS⟩ := hS
     refine Run.go rfl rfl rfl (sem_indexAddrS A341 n3 c4 .i64 (i334) (congrArg (fun a => Value.slice a n3 c4) e342) rfl TF.slc_79 hi0 hi1 ?_)
     obtain ⟨i343, i344, i345, i346, hl, hS⟩ := hS
     refine Run.go rfl rfl rfl (sem_loadN (Addr.add A341 (Int.toNat (i334) * 4)) [(Value.int .i64 (i343)), (Value.int .i64 (i344)), (Value.int .i64 (i345)), (Value.int .u8 (i346))] rfl TF.agg_81 TF.sz_81 hl ?_)
     refine Run.go rfl rfl rfl (sem_allocN [(Value.int .i64 (0)), (Value.int .i64 (0)), (Value.int .i64 (0)), (Value.int .u8 (0))] TF.zero_81 (fun k347 hb1 hb2 h348 hb3 => ?_))
     have hS := hS k347 hb1 hb2 h348 hb3
     obtain ⟨h349, hst, hS⟩ := hS
     refine Run.go rfl rfl rfl (sem_storeN ⟨k347, 0, none⟩ [(Value.int .i64 (i343)), (Value.int .i64 (i344)), (Value.int .i64 (i345)), (Value.int .u8 (i346))] h349 rfl rfl TF.sz_81 hst ?_)
     refine Run.region_end ?_
     refine Run.seq ?_
     refine Run.seq ?_
     refine Run.ops0 (idx := [0, 1, 2, 3, 4, 5]) rfl ?_
     refine Run.go rfl rfl rfl (sem_move ((Value.pointer p16)) rfl ?_)
     refine Run.go rfl rfl rfl (sem_move ((Value.pointer p17)) rfl ?_)
     obtain ⟨p350, hl, hS⟩ := hS
     refine Run.go rfl rfl rfl (sem_load1 ⟨k20, 0, none⟩ ((Value.pointer p350)) rfl TF.agg_72 hl ?_)
     obtain ⟨i351, i352, i353, i354, hl, hS⟩ := hS
     refine Run.go rfl rfl rfl (sem_loadN ⟨k347, 0, none⟩ [(Value.int .i64 (i351)), (Value.int .i64 (i352)), (Value.int .i64 (i353)), (Value.int .u8 (i354))] rfl TF.agg_81 TF.sz_81 hl ?_)
     refine Run.go rfl rfl rfl (sem_callL [(Value.pointer p16), (Value.pointer p17), (Value.pointer p350), (Value.agg #[(Value.int .i64 (i351)), (Value.int .i64 (i352)), (Value.int .i64 (i353)), (Value.int .u8 (i354))])] (TF.goes_46) rfl rfl (Spec.mono hS fun v h355 hv => ?_))
     obtain ⟨b356, rfl, hS⟩ := hv
     obtain ⟨hT, hF⟩ := hS
     cases b356
     ·have hS := hF rfl; clear hT hF
      refine Run.go rfl rfl rfl (sem_not false rfl ?_)
      refine Run.region_end ?_
      refine Run.condT rfl ?_
      refine Run.seq ?_
      refine Run.ops0 (idx := [0]) rfl ?_
      obtain ⟨h357, hst, hS⟩ := hS
      refine Run.go rfl rfl rfl (sem_store1 ⟨k8, 0, none⟩ ((Value.bool false)) h357 rfl rfl rfl TF.sz_4 hst ?_)
      refine Run.region_end ?_
      obtain ⟨b358, hl0, hS⟩ := hS
      refine Run.ret ⟨.inr rfl, ?_⟩
      exact ⟨⟨k8, 0, none⟩, (Value.bool b358), rfl, loadH1 TF.agg_4 hl0, hS.imp fun h' hq => ⟨(b358), rfl, hq⟩⟩
     ·have hS := hT rfl; clear hT hF
      refine Run.go rfl rfl rfl (sem_not true rfl ?_)
      refine Run.region_end ?_
      refine Run.condF rfl ?_
      refine Run.skip ?_
      refine Run.seq ?_
      refine Run.ops0 (idx := [0]) rfl ?_
      refine Run.go rfl rfl rfl (sem_move ((Value.int .i64 (0))) rfl ?_)
      refine Run.region_end ?_
      refine Run.block ?_
      obtain ⟨J364, m362, h0, hS⟩ := hS
      refine Run.of_fin (h0.imp fun h' h0 => ?_)
      refine Run.loop (σ := Int × Nat) (fun x e h => J364 x.1 x.2 h ∧ Agree [(4, (Value.pointer (some ⟨k8, 0, none⟩))), (5, (Value.pointer p16)), (6, (Value.pointer p17)), (7, (Value.pointer (some ⟨k20, 0, none⟩))), (9, (Value.string s26)), (39, (Value.slice a2 n3 c4)), (40, (Value.int .i64 ((n3 : Nat)))), (41, (Value.int .i64 (i334))), (51, (Value.int .i64 (x.1)))] e) (fun x => x.2) ((0), m362) ⟨h0, ⟨rfl, rfl, rfl, rfl, rfl, rfl, rfl, rfl, rfl, trivial⟩⟩ ?_; clear h0
      rintro ⟨i359, m361⟩ e h360 ⟨hJ, hag⟩ ih363
      have hS := hS i359 m361 h360 hJ; clear hJ
      refine Run.env hag ?_; clear hag
      refine Run.seq ?_
      refine Run.ops0 (idx := [0]) rfl ?_
      obtain ⟨hT, hF⟩ := hS
      by_cases hb365 : (i359 : Int) < (6)
      ·have hS := hT hb365; clear hT hF
       refine Run.go rfl rfl rfl (sem_binI .i64 (i359) (6) (.bool true) rfl rfl (binI_lss_t hb365) ?_)
       refine Run.region_end ?_
       refine Run.seq ?_
       refine Run.condT rfl ?_
       refine Run.skip ?_
       refine Run.seq ?_
       refine Run.block ?_
       refine Run.seq ?_
       refine Run.ops0 (idx := [0, 1]) rfl ?_
       refine Run.go rfl rfl rfl (sem_move ((Value.int .i64 (i359))) rfl ?_)
       refine Run.go rfl rfl rfl (sem_assign ((Value.int .i64 (i359))) rfl ?_)
       refine Run.region_end ?_
       refine Run.seq ?_
       refine Run.ops0 (idx := [0, 1, 2, 3, 4, 5, 6, 7, 8, 9]) rfl ?_
       refine Run.go rfl rfl rfl (sem_move ((Value.pointer p17)) rfl ?_)
       refine Run.go rfl rfl rfl (sem_move ((Value.pointer p16)) rfl ?_)
       refine Run.go rfl rfl rfl (sem_move ((Value.int .i64 (i359))) rfl ?_)
       refine Run.go rfl rfl rfl (sem_callL [(Value.pointer p17), (Value.pointer p16), (Value.int .i64 (i359))] (TF.goes_23) rfl rfl (Spec.mono hS fun v h366 hv => ?_))
       obtain ⟨b367, s368, b369, rfl, hS⟩ := hv
       refine Run.go rfl rfl rfl (sem_move ((Value.tuple #[(Value.agg #[(Value.bool b367), (Value.string s368)]), (Value.bool b369)])) rfl ?_)
       refine Run.go rfl rfl rfl (sem_extract #[(Value.agg #[(Value.bool b367), (Value.string s368)]), (Value.bool b369)] ((Value.agg #[(Value.bool b367), (Value.string s368)])) rfl rfl ?_)
       refine Run.go rfl rfl rfl (sem_extract #[(Value.agg #[(Value.bool b367), (Value.string s368)]), (Value.bool b369)] ((Value.bool b369)) rfl rfl ?_)
       refine Run.go rfl rfl rfl (sem_allocN [(Value.bool false), (Value.string ByteArray.empty)] TF.zero_41 (fun k370 hb1 hb2 h371 hb3 => ?_))
       have hS := hS k370 hb1 hb2 h371 hb3
       obtain ⟨h372, hst, hS⟩ := hS
       refine Run.go rfl rfl rfl (sem_storeN ⟨k370, 0, none⟩ [(Value.bool b367), (Value.string s368)] h372 rfl rfl TF.sz_41 hst ?_)
       refine Run.go rfl rfl rfl (sem_assign ((Value.bool b369)) rfl ?_)
       refine Run.region_end ?_
       refine Run.seq ?_
       refine Run.drawM (fun h' => h' = h372) [] ⟨[0, 0, 0, 2, 8, 20, 32, 65, 128, 256, 256, 256, 1280, 4352, 10496, 16640, 33536, 65792], [262143, 262143, 262143, 262141, 262135, 262123, 262111, 262078, 262015, 261887, 261887, 261887, 260863, 257791, 251647, 245503, 228607, 196351], [0, 0, 0, 0, 0, 0, 0, 0, 0, 0, 0, 0, 0, 0, 0, 0, 0, 0], 0⟩ (.q 0 (.q 1 (.q 2 (.q 3 (.q 4 (.q 5 (.q 6 (.q 7 (.q 8 (.q 9 (.q 10 (.q 11 (.q 12 (.q 13 (.q 14 (.q 15 (.q 16 (.q 17 .nil)))))))))))))))))) TF.mixed (by kernel_rfl) rfl ?_
       obtain ⟨b373, s374, hl, hS⟩ := hS
       refine RunT.quiet rfl rfl rfl (quiet_eq (sem_loadN ⟨k370, 0, none⟩ [(Value.bool b373), (Value.string s374)] rfl TF.agg_41 TF.sz_41 hl ⟨rfl, rfl⟩)) ?_
       obtain ⟨p375, hl, hS⟩ := hS
       refine RunT.quiet rfl rfl rfl (quiet_eq (sem_load1 ⟨k20, 0, none⟩ ((Value.pointer p375)) rfl TF.agg_72 hl ⟨rfl, rfl⟩)) ?_
       refine RunT.quiet rfl rfl rfl (quiet_eq (sem_move ((Value.int .i64 (i359))) rfl ⟨rfl, rfl⟩)) ?_
       obtain ⟨A376, e377, hS⟩ := hS
       refine RunT.quiet rfl rfl rfl (quiet_eq (sem_nilCheck A376 (congrArg Value.pointer e377) ⟨rfl, rfl⟩)) ?_
       refine RunT.quiet rfl rfl rfl (quiet_eq (sem_fieldAddr A376 12 rfl TF.fld_86_1 ⟨rfl, rfl⟩)) ?_
       obtain ⟨hi0, hi1, hS⟩ := hS
       refine RunT.quiet rfl rfl rfl (quiet_eq (sem_indexAddrA (Addr.add A376 12) .i64 (i359) rfl rfl TF.arr_77 hi0 hi1 ⟨rfl, rfl⟩)) ?_
       obtain ⟨b378, s379, hl, hS⟩ := hS
       refine RunT.quiet rfl rfl rfl (quiet_eq (sem_loadN (Addr.add (Addr.add A376 12) (Int.toNat (i359) * 2)) [(Value.bool b378), (Value.string s379)] rfl TF.agg_76 TF.sz_76 hl ⟨rfl, rfl⟩)) ?_
       obtain ⟨hT, hF⟩ := hS
       by_cases hb380 : eqL [(Value.bool b373), (Value.string s374)] [(Value.bool b378), (Value.string s379)] = true
       ·have hS := hT hb380; clear hT hF
        refine RunT.quiet rfl rfl rfl (quiet_eq (sem_aggEq [(Value.bool b373), (Value.string s374)] [(Value.bool b378), (Value.string s379)] _ (false) (.inr rfl) rfl rfl TF.agg_76 TF.flat_76 TF.eqg_76 ⟨⟨_, rfl⟩, ⟨_, rfl⟩, trivial⟩ ⟨⟨_, rfl⟩, ⟨_, rfl⟩, trivial⟩ (eqLT_neq hb380) ⟨rfl, rfl⟩)) ?_
        refine RunT.quiet rfl rfl rfl (quiet_eq (sem_move ((Value.bool false)) rfl ⟨rfl, rfl⟩)) ?_
        refine RunT.quiet rfl rfl rfl (quiet_eq (sem_move ((Value.bool b369)) rfl ⟨rfl, rfl⟩)) ?_
        obtain ⟨p381, hl, hS⟩ := hS
        refine RunT.quiet rfl rfl rfl (quiet_eq (sem_load1 ⟨k20, 0, none⟩ ((Value.pointer p381)) rfl TF.agg_72 hl ⟨rfl, rfl⟩)) ?_
        refine RunT.quiet rfl rfl rfl (quiet_eq (sem_move ((Value.int .i64 (i359))) rfl ⟨rfl, rfl⟩)) ?_
        obtain ⟨A382, e383, hS⟩ := hS
        refine RunT.quiet rfl rfl rfl (quiet_eq (sem_nilCheck A382 (congrArg Value.pointer e383) ⟨rfl, rfl⟩)) ?_
        refine RunT.quiet rfl rfl rfl (quiet_eq (sem_fieldAddr A382 24 rfl TF.fld_86_2 ⟨rfl, rfl⟩)) ?_
        obtain ⟨hi0, hi1, hS⟩ := hS
        refine RunT.quiet rfl rfl rfl (quiet_eq (sem_indexAddrA (Addr.add A382 24) .i64 (i359) rfl rfl TF.arr_84 hi0 hi1 ⟨rfl, rfl⟩)) ?_
        obtain ⟨b384, hl, hS⟩ := hS
        refine RunT.quiet rfl rfl rfl (quiet_eq (sem_load1 (Addr.add (Addr.add A382 24) (Int.toNat (i359) * 1)) ((Value.bool b384)) rfl TF.agg_4 hl ⟨rfl, rfl⟩)) ?_
        obtain ⟨hT, hF⟩ := hS
        by_cases hb385 : b369 = b384
        ·have hS := hT hb385; clear hT hF
         refine RunT.quiet rfl rfl rfl (quiet_eq (sem_boolEqT b369 b384 (.inr rfl) false rfl rfl TF.bool_4 hb385 rfl ⟨rfl, rfl⟩)) ?_
         refine RunT.quiet rfl rfl rfl (quiet_eq (sem_pick false ((Value.bool false)) rfl rfl ⟨rfl, rfl⟩)) ?_
         refine Run.condF rfl ?_
         refine Run.skip ?_
         refine Run.inBlock ?_
         refine Run.ops0 (idx := [0, 1]) rfl ?_
         refine Run.go rfl rfl rfl (sem_binI .i64 (i359) (1) ((Value.int .i64 (IntKind.wrap .i64 ((i359) + (1))))) rfl rfl rfl ?_)
         refine Run.go rfl rfl rfl (sem_move ((Value.int .i64 (IntKind.wrap .i64 ((i359) + (1))))) rfl ?_)
         refine Run.region_end ?_
         exact Run.of_fin (hS.imp fun h' ⟨m', hm, hS⟩ => ih363 ((IntKind.wrap .i64 ((i359) + (1))), m') _ _ ⟨hS, ⟨rfl, rfl, rfl, rfl, rfl, rfl, rfl, rfl, rfl, trivial⟩⟩ hm)
        ·have hS := hF hb385; clear hT hF
         refine RunT.quiet rfl rfl rfl (quiet_eq (sem_boolEqF b369 b384 (.inr rfl) true rfl rfl TF.bool_4 hb385 rfl ⟨rfl, rfl⟩)) ?_
         refine RunT.quiet rfl rfl rfl (quiet_eq (sem_pick false ((Value.bool true)) rfl rfl ⟨rfl, rfl⟩)) ?_
         refine Run.condT rfl ?_
         refine Run.seq ?_
         refine Run.ops0 (idx := [0]) rfl ?_
         obtain ⟨h386, hst, hS⟩ := hS
         refine Run.go rfl rfl rfl (sem_store1 ⟨k8, 0, none⟩ ((Value.bool false)) h386 rfl rfl rfl TF.sz_4 hst ?_)
         refine Run.region_end ?_
         obtain ⟨b387, hl0, hS⟩ := hS
         refine Run.ret ⟨.inr rfl, ?_⟩
         exact ⟨⟨k8, 0, none⟩, (Value.bool b387), rfl, loadH1 TF.agg_4 hl0, hS.imp fun h' hq => ⟨(b387), rfl, hq⟩⟩
       ·have hS := hF hb380; clear hT hF
        refine RunT.quiet rfl rfl rfl (quiet_eq (sem_aggEq [(Value.bool b373), (Value.string s374)] [(Value.bool b378), (Value.string s379)] _ (true) (.inr rfl) rfl rfl TF.agg_76 TF.flat_76 TF.eqg_76 ⟨⟨_, rfl⟩, ⟨_, rfl⟩, trivial⟩ ⟨⟨_, rfl⟩, ⟨_, rfl⟩, trivial⟩ (eqLF_neq hb380) ⟨rfl, rfl⟩)) ?_
        refine RunT.quiet rfl rfl rfl (quiet_eq (sem_move ((Value.bool true)) rfl ⟨rfl, rfl⟩)) ?_
        refine RunT.skip rfl rfl rfl ?_
        refine RunT.skip rfl rfl rfl ?_
        refine RunT.skip rfl rfl rfl ?_
        refine RunT.skip rfl rfl rfl ?_
        refine RunT.skip rfl rfl rfl ?_
        refine RunT.skip rfl rfl rfl ?_
        refine RunT.skip rfl rfl rfl ?_
        refine RunT.skip rfl rfl rfl ?_
        refine RunT.quiet rfl rfl rfl (quiet_eq (sem_pick true ((Value.bool true)) rfl rfl ⟨rfl, rfl⟩)) ?_
        refine Run.condT rfl ?_
        refine Run.seq ?_
        refine Run.ops0 (idx := [0]) rfl ?_
        obtain ⟨h388, hst, hS⟩ := hS
        refine Run.go rfl rfl rfl (sem_store1 ⟨k8, 0, none⟩ ((Value.bool false)) h388 rfl rfl rfl TF.sz_4 hst ?_)
        refine Run.region_end ?_
        obtain ⟨b389, hl0, hS⟩ := hS
        refine Run.ret ⟨.inr rfl, ?_⟩
        exact ⟨⟨k8, 0, none⟩, (Value.bool b389), rfl, loadH1 TF.agg_4 hl0, hS.imp fun h' hq => ⟨(b389), rfl, hq⟩⟩
      ·have hS := hF hb365; clear hT hF
       refine Run.go rfl rfl rfl (sem_binI .i64 (i359) (6) (.bool false) rfl rfl (binI_lss_f hb365) ?_)
       refine Run.region_end ?_
       refine Run.seq ?_
       refine Run.condF rfl ?_
       refine Run.exit rfl ?_
       refine Run.inBlock ?_
       refine Run.ops0 (idx := [0, 1]) rfl ?_
       refine Run.go rfl rfl rfl (sem_binI .i64 (i334) (1) ((Value.int .i64 (IntKind.wrap .i64 ((i334) + (1))))) rfl rfl rfl ?_)
       refine Run.go rfl rfl rfl (sem_move ((Value.int .i64 (IntKind.wrap .i64 ((i334) + (1))))) rfl ?_)
       refine Run.region_end ?_
       exact Run.of_fin (hS.imp fun h' ⟨m', hm, hS⟩ => ih338 ((IntKind.wrap .i64 ((i334) + (1))), m') _ _ ⟨hS, ⟨rfl, rfl, rfl, rfl, rfl, rfl, rfl, rfl, trivial⟩⟩ hm)
    ·have hS := hF hb340; clear hT hF
     refine Run.go rfl rfl rfl (sem_binI .i64 (i334) ((n3 : Nat)) (.bool false) rfl rfl (binI_lss_f hb340) ?_)
     refine Run.region_end ?_
     refine Run.seq ?_
     refine Run.condF rfl ?_
     refine Run.exit rfl ?_
     exact Run.of_fin (hS.imp fun h' hS => j27 _ _ ⟨⟨rfl, rfl, rfl, rfl, rfl, trivial⟩, hS⟩)
   refine Run.seq ?_
   refine Run.ops0 (idx := [0, 1, 2, 3, 4, 5, 6]) rfl ?_
   refine Run.go rfl rfl rfl (sem_move ((Value.bool false)) rfl ?_)
   refine Run.go rfl rfl rfl (sem_not false rfl ?_)
   refine Run.go rfl rfl rfl (sem_move ((Value.bool true)) rfl ?_)
   refine Run.no rfl rfl rfl ?_
   refine Run.no rfl rfl rfl ?_
   refine Run.no rfl rfl rfl ?_
   refine Run.go rfl rfl rfl (sem_pick true ((Value.bool true)) rfl rfl ?_)
   refine Run.region_end ?_
   refine Run.condT rfl ?_
   refine Run.seq ?_
   refine Run.ops0 (idx := [0]) rfl ?_
   obtain ⟨h390, hst, hS⟩ := hS
   refine Run.go rfl rfl rfl (sem_store1 ⟨k8, 0, none⟩ ((Value.bool true)) h390 rfl rfl rfl TF.sz_4 hst ?_)
   refine Run.region_end ?_
   obtain ⟨b391, hl0, hS⟩ := hS
   refine Run.ret ⟨.inr rfl, ?_⟩
   exact ⟨⟨k8, 0, none⟩, (Value.bool b391), rfl, loadH1 TF.agg_4 hl0, hS.imp fun h' hq => ⟨(b391), rfl, hq⟩⟩
  ·have hS := hT rfl; clear hT hF
   refine Run.go rfl rfl rfl (sem_extract #[(Value.pointer p16), (Value.pointer p17), (Value.pointer p18), (Value.bool true)] (.bool true) rfl rfl ?_)
   refine Run.go rfl rfl rfl (sem_allocN [(Value.pointer none)] TF.zero_72 (fun k392 hb1 hb2 h393 hb3 => ?_))
   have hS := hS k392 hb1 hb2 h393 hb3
   refine Run.go rfl rfl rfl (sem_assign ((Value.pointer p16)) rfl ?_)
   refine Run.go rfl rfl rfl (sem_assign ((Value.pointer p17)) rfl ?_)
   obtain ⟨h394, hst, hS⟩ := hS
   refine Run.go rfl rfl rfl (sem_store1 ⟨k392, 0, none⟩ ((Value.pointer p18)) h394 rfl rfl rfl TF.sz_72 hst ?_)
   refine Run.go rfl rfl rfl (sem_assign ((Value.bool true)) rfl ?_)
   refine Run.region_end ?_
   refine Run.seqJ (fun e h396 => Agree [(1, (Value.slice a2 n3 c4)), (4, (Value.pointer (some ⟨k8, 0, none⟩))), (5, (Value.pointer p16)), (6, (Value.pointer p17)), (7, (Value.pointer (some ⟨k392, 0, none⟩)))] e ∧ S_countermandlaw14_SheetDoes_J16 B a2 n3 c4 k8 p16 p17 k392 h396 Q) ?_ fun j395 => ?_
   ·rintro e h396 ⟨hag, hS⟩
    refine Run.env hag ?_; clear hag
    refine Run.seq ?_
    refine Run.ops0 (idx := [0, 1, 2]) rfl ?_
    refine Run.go rfl rfl rfl (sem_move ((Value.pointer p16)) rfl ?_)
    refine Run.go rfl rfl rfl (sem_callL [(Value.pointer p16)] (TF.goes_50) rfl rfl (Spec.mono hS fun v h397 hv => ?_))
    obtain ⟨s398, rfl, hS⟩ := hv
    refine Run.go rfl rfl rfl (sem_assign ((Value.string s398)) rfl ?_)
    refine Run.region_end ?_
    refine Run.seqJ (fun e h400 => Agree [(4, (Value.pointer (some ⟨k8, 0, none⟩))), (5, (Value.pointer p16)), (6, (Value.pointer p17)), (7, (Value.pointer (some ⟨k392, 0, none⟩))), (9, (Value.string s398))] e ∧ S_countermandlaw14_SheetDoes_J17 B k8 p16 p17 k392 s398 h400 Q) ?_ fun j399 => ?_
    ·rintro e h400 ⟨hag, hS⟩
     refine Run.env hag ?_; clear hag
     refine Run.seq ?_
     refine Run.ops0 (idx := [0, 1]) rfl ?_
     refine Run.go rfl rfl rfl (sem_allocN [(Value.int .i64 (0))] TF.zero_3 (fun k401 hb1 hb2 h402 hb3 => ?_))
     have hS := hS k401 hb1 hb2 h402 hb3
     obtain ⟨h403, hst, hS⟩ := hS
     refine Run.go rfl rfl rfl (sem_store1 ⟨k401, 0, none⟩ ((Value.int .i64 (0))) h403 rfl rfl rfl TF.sz_3 hst ?_)
     refine Run.region_end ?_
     refine Run.seqJ (fun e h405 => Agree [(4, (Value.pointer (some ⟨k8, 0, none⟩))), (5, (Value.pointer p16)), (6, (Value.pointer p17)), (7, (Value.pointer (some ⟨k392, 0, none⟩))), (9, (Value.string s398)), (15, (Value.pointer (some ⟨k401, 0, none⟩)))] e ∧ S_countermandlaw14_SheetDoes_J18 B k8 p16 p17 k392 s398 k401 h405 Q) ?_ fun j404 => ?_
     ·rintro e h405 ⟨hag, hS⟩
      refine Run.env hag ?_; clear hag
      refine Run.seq ?_
      refine Run.ops0 (idx := [0]) rfl ?_
      refine Run.go rfl rfl rfl (sem_assign ((Value.pointer none)) rfl ?_)
      refine Run.region_end ?_
      refine Run.seq ?_
      refine Run.ops0 (idx := [0, 1, 2, 3, 4, 5, 6, 7, 8]) rfl ?_
      refine Run.go rfl rfl rfl (sem_move ((Value.pointer none)) rfl ?_)
      refine Run.go rfl rfl rfl (sem_move ((Value.pointer p16)) rfl ?_)
      refine Run.go rfl rfl rfl (sem_callL [(Value.pointer none), (Value.pointer p16), (Value.int .i64 (0))] (TF.goes_23) rfl rfl (Spec.mono hS fun v h406 hv => ?_))
      obtain ⟨b407, s408, b409, rfl, hS⟩ := hv
      refine Run.go rfl rfl rfl (sem_move ((Value.tuple #[(Value.agg #[(Value.bool b407), (Value.string s408)]), (Value.bool b409)])) rfl ?_)
      refine Run.go rfl rfl rfl (sem_extract #[(Value.agg #[(Value.bool b407), (Value.string s408)]), (Value.bool b409)] ((Value.agg #[(Value.bool b407), (Value.string s408)])) rfl rfl ?_)
      obtain ⟨hT, hF⟩ := hS
      cases b409
      ·have hS := hF rfl; clear hT hF
       refine Run.go rfl rfl rfl (sem_extract #[(Value.agg #[(Value.bool b407), (Value.string s408)]), (Value.bool false)] (.bool false) rfl rfl ?_)
       refine Run.go rfl rfl rfl (sem_allocN [(Value.bool false), (Value.string ByteArray.empty)] TF.zero_41 (fun k410 hb1 hb2 h411 hb3 => ?_))
       have hS := hS k410 hb1 hb2 h411 hb3
       obtain ⟨h412, hst, hS⟩ := hS
       refine Run.go rfl rfl rfl (sem_storeN ⟨k410, 0, none⟩ [(Value.bool b407), (Value.string s408)] h412 rfl rfl TF.sz_41 hst ?_)
       refine Run.go rfl rfl rfl (sem_assign ((Value.bool false)) rfl ?_)
       refine Run.region_end ?_
       refine Run.seqJ (fun e h414 => Agree [(4, (Value.pointer (some ⟨k8, 0, none⟩))), (5, (Value.pointer p16)), (18, (Value.pointer none))] e ∧ S_countermandlaw14_SheetDoes_J19 B k8 p16 h414 Q) ?_ fun j413 => ?_
       ·rintro e h414 ⟨hag, hS⟩
        refine Run.env hag ?_; clear hag
        refine Run.seq ?_
        refine Run.ops0 (idx := [0, 1, 2, 3, 4, 5, 6, 7, 8, 9, 10, 11, 12, 13, 14, 15, 16, 17, 18, 19, 20, 21, 22, 23, 24, 25, 26, 27, 28, 29, 30, 31, 32, 33, 34, 35, 36, 37, 38, 39, 40, 41, 42, 43, 44]) rfl ?_
        refine Run.go rfl rfl rfl (sem_move ((Value.pointer none)) rfl ?_)
        refine Run.go rfl rfl rfl (sem_move ((Value.pointer p16)) rfl ?_)
        refine Run.go rfl rfl rfl (sem_callL [(Value.pointer none), (Value.pointer p16), (Value.int .i64 (0)), (Value.int .i64 (0)), (Value.int .u8 (0))] (TF.goes_54) rfl rfl (Spec.mono hS fun v h415 hv => ?_))
        obtain ⟨b416, rfl, hS⟩ := hv
        obtain ⟨hT, hF⟩ := hS
        cases b416
        ·have hS := hF rfl; clear hT hF
         refine Run.go rfl rfl rfl (sem_not false rfl ?_)
         refine Run.go rfl rfl rfl (sem_move ((Value.bool true)) rfl ?_)
         refine Run.go rfl rfl rfl (sem_move ((Value.pointer none)) rfl ?_)
         refine Run.go rfl rfl rfl (sem_move ((Value.pointer p16)) rfl ?_)
         refine Run.go rfl rfl rfl (sem_callL [(Value.pointer none), (Value.pointer p16), (Value.int .i64 (0)), (Value.int .i64 (0))] (TF.goes_55) rfl rfl (Spec.mono hS fun v h417 hv => ?_))
         obtain ⟨b418, rfl, hS⟩ := hv
         obtain ⟨hT, hF⟩ := hS
         cases b418
         ·have hS := hF rfl; clear hT hF
          refine Run.go rfl rfl rfl (sem_not false rfl ?_)
          refine Run.go rfl rfl rfl (sem_pick true ((Value.bool true)) rfl rfl ?_)
          refine Run.go rfl rfl rfl (sem_move ((Value.bool true)) rfl ?_)
          refine Run.go rfl rfl rfl (sem_move ((Value.pointer none)) rfl ?_)
          refine Run.go rfl rfl rfl (sem_move ((Value.pointer p16)) rfl ?_)
          refine Run.go rfl rfl rfl (sem_callL [(Value.pointer none), (Value.pointer p16), (Value.int .i64 (0))] (TF.goes_22) rfl rfl (Spec.mono hS fun v h419 hv => ?_))
          obtain ⟨b420, rfl, hS⟩ := hv
          obtain ⟨hT, hF⟩ := hS
          cases b420
          ·have hS := hF rfl; clear hT hF
           refine Run.go rfl rfl rfl (sem_not false rfl ?_)
           refine Run.go rfl rfl rfl (sem_pick true ((Value.bool true)) rfl rfl ?_)
           refine Run.go rfl rfl rfl (sem_move ((Value.bool true)) rfl ?_)
           refine Run.go rfl rfl rfl (sem_move ((Value.pointer none)) rfl ?_)
           refine Run.go rfl rfl rfl (sem_move ((Value.pointer p16)) rfl ?_)
           refine Run.go rfl rfl rfl (sem_callL [(Value.pointer none), (Value.pointer p16), (Value.int .i64 (0))] (TF.goes_56) rfl rfl (Spec.mono hS fun v h421 hv => ?_))
           obtain ⟨b422, rfl, hS⟩ := hv
           obtain ⟨hT, hF⟩ := hS
           cases b422
           ·have hS := hF rfl; clear hT hF
            refine Run.go rfl rfl rfl (sem_not false rfl ?_)
            refine Run.go rfl rfl rfl (sem_pick true ((Value.bool true)) rfl rfl ?_)
            refine Run.go rfl rfl rfl (sem_move ((Value.bool true)) rfl ?_)
            refine Run.go rfl rfl rfl (sem_move ((Value.pointer none)) rfl ?_)
            refine Run.go rfl rfl rfl (sem_move ((Value.pointer p16)) rfl ?_)
            refine Run.go rfl rfl rfl (sem_callL [(Value.pointer none), (Value.pointer p16), (Value.int .i64 (0)), (Value.int .i64 (1))] (TF.goes_45) rfl rfl (Spec.mono hS fun v h423 hv => ?_))
            obtain ⟨b424, rfl, hS⟩ := hv
            obtain ⟨hT, hF⟩ := hS
            cases b424
            ·have hS := hF rfl; clear hT hF
             refine Run.go rfl rfl rfl (sem_not false rfl ?_)
             refine Run.go rfl rfl rfl (sem_pick true ((Value.bool true)) rfl rfl ?_)
             refine Run.go rfl rfl rfl (sem_move ((Value.bool true)) rfl ?_)
             refine Run.go rfl rfl rfl (sem_move ((Value.pointer none)) rfl ?_)
             refine Run.go rfl rfl rfl (sem_callL [(Value.pointer none)] (TF.goes_51) rfl rfl (Spec.mono hS fun v h425 hv => ?_))
             obtain ⟨p426, rfl, hS⟩ := hv
             obtain ⟨hT, hF⟩ := hS
             by_cases hb427 : p426 = none
             ·have hS := hT hb427; clear hT hF
              refine Run.go rfl rfl rfl (sem_ptrNilT p426 (.inl rfl) true rfl rfl TF.ptr_95 hb427 rfl ?_)
              refine Run.go rfl rfl rfl (sem_pick true ((Value.bool true)) rfl rfl ?_)
              refine Run.go rfl rfl rfl (sem_move ((Value.bool true)) rfl ?_)
              refine Run.go rfl rfl rfl (sem_move ((Value.pointer none)) rfl ?_)
              refine Run.go rfl rfl rfl (sem_callL [(Value.pointer none)] (TF.goes_47) rfl rfl (Spec.mono hS fun v h428 hv => ?_))
              obtain ⟨p429, rfl, hS⟩ := hv
              obtain ⟨hT, hF⟩ := hS
              by_cases hb430 : p429 = none
              ·have hS := hT hb430; clear hT hF
               refine Run.go rfl rfl rfl (sem_ptrNilT p429 (.inl rfl) true rfl rfl TF.ptr_28 hb430 rfl ?_)
               refine Run.go rfl rfl rfl (sem_pick true ((Value.bool true)) rfl rfl ?_)
               refine Run.go rfl rfl rfl (sem_move ((Value.bool true)) rfl ?_)
               refine Run.go rfl rfl rfl (sem_move ((Value.pointer none)) rfl ?_)
               refine Run.go rfl rfl rfl (sem_move ((Value.pointer p16)) rfl ?_)
               refine Run.go rfl rfl rfl (sem_callL [(Value.pointer none), (Value.pointer p16), (Value.int .i64 (1))] (TF.goes_48) rfl rfl (Spec.mono hS fun v h431 hv => ?_))
               obtain ⟨i432, rfl, hS⟩ := hv
               refine Run.go rfl rfl rfl (sem_binI .i64 (i432) (0) ((Value.bool ((i432 : Int) == (0)))) rfl rfl rfl ?_)
               refine Run.go rfl rfl rfl (sem_pick true ((Value.bool ((i432 : Int) == (0)))) rfl rfl ?_)
               obtain ⟨h433, hst, hS⟩ := hS
               refine Run.go rfl rfl rfl (sem_store1 ⟨k8, 0, none⟩ ((Value.bool ((i432 : Int) == (0)))) h433 rfl rfl rfl TF.sz_4 hst ?_)
               refine Run.region_end ?_
               obtain ⟨b434, hl0, hS⟩ := hS
               refine Run.ret ⟨.inr rfl, ?_⟩
               exact ⟨⟨k8, 0, none⟩, (Value.bool b434), rfl, loadH1 TF.agg_4 hl0, hS.imp fun h' hq => ⟨(b434), rfl, hq⟩⟩
              ·have hS := hF hb430; clear hT hF
               refine Run.go rfl rfl rfl (sem_ptrNilF p429 (.inl rfl) false rfl rfl TF.ptr_28 hb430 rfl ?_)
               refine Run.go rfl rfl rfl (sem_pick true ((Value.bool false)) rfl rfl ?_)
               refine Run.go rfl rfl rfl (sem_move ((Value.bool false)) rfl ?_)
               refine Run.no rfl rfl rfl ?_
               refine Run.no rfl rfl rfl ?_
               refine Run.no rfl rfl rfl ?_
               refine Run.no rfl rfl rfl ?_
               refine Run.go rfl rfl rfl (sem_pick false ((Value.bool false)) rfl rfl ?_)
               obtain ⟨h435, hst, hS⟩ := hS
               refine Run.go rfl rfl rfl (sem_store1 ⟨k8, 0, none⟩ ((Value.bool false)) h435 rfl rfl rfl TF.sz_4 hst ?_)
               refine Run.region_end ?_
               obtain ⟨b436, hl0, hS⟩ := hS
               refine Run.ret ⟨.inr rfl, ?_⟩
               exact ⟨⟨k8, 0, none⟩, (Value.bool b436), rfl, loadH1 TF.agg_4 hl0, hS.imp fun h' hq => ⟨(b436), rfl, hq⟩⟩
             ·have hS := hF hb427; clear hT hF
              refine Run.go rfl rfl rfl (sem_ptrNilF p426 (.inl rfl) false rfl rfl TF.ptr_95 hb427 rfl ?_)
              refine Run.go rfl rfl rfl (sem_pick true ((Value.bool false)) rfl rfl ?_)
              refine Run.go rfl rfl rfl (sem_move ((Value.bool false)) rfl ?_)
              refine Run.no rfl rfl rfl ?_
              refine Run.no rfl rfl rfl ?_
              refine Run.no rfl rfl rfl ?_
              refine Run.go rfl rfl rfl (sem_pick false ((Value.bool false)) rfl rfl ?_)
              refine Run.go rfl rfl rfl (sem_move ((Value.bool false)) rfl ?_)
              refine Run.no rfl rfl rfl ?_
              refine Run.no rfl rfl rfl ?_
              refine Run.no rfl rfl rfl ?_
              refine Run.no rfl rfl rfl ?_
              refine Run.go rfl rfl rfl (sem_pick false ((Value.bool false)) rfl rfl ?_)
              obtain ⟨h437, hst, hS⟩ := hS
              refine Run.go rfl rfl rfl (sem_store1 ⟨k8, 0, none⟩ ((Value.bool false)) h437 rfl rfl rfl TF.sz_4 hst ?_)
              refine Run.region_end ?_
              obtain ⟨b438, hl0, hS⟩ := hS
              refine Run.ret ⟨.inr rfl, ?_⟩
              exact ⟨⟨k8, 0, none⟩, (Value.bool b438), rfl, loadH1 TF.agg_4 hl0, hS.imp fun h' hq => ⟨(b438), rfl, hq⟩⟩
            ·have hS := hT rfl; clear hT hF
             refine Run.go rfl rfl rfl (sem_not true rfl ?_)
             refine Run.go rfl rfl rfl (sem_pick true ((Value.bool false)) rfl rfl ?_)
             refine Run.go rfl rfl rfl (sem_move ((Value.bool false)) rfl ?_)
             refine Run.no rfl rfl rfl ?_
             refine Run.no rfl rfl rfl ?_
             refine Run.no rfl rfl rfl ?_
             refine Run.go rfl rfl rfl (sem_pick false ((Value.bool false)) rfl rfl ?_)
             refine Run.go rfl rfl rfl (sem_move ((Value.bool false)) rfl ?_)
             refine Run.no rfl rfl rfl ?_
             refine Run.no rfl rfl rfl ?_
             refine Run.no rfl rfl rfl ?_
             refine Run.go rfl rfl rfl (sem_pick false ((Value.bool false)) rfl rfl ?_)
             refine Run.go rfl rfl rfl (sem_move ((Value.bool false)) rfl ?_)
             refine Run.no rfl rfl rfl ?_
             refine Run.no rfl rfl rfl ?_
             refine Run.no rfl rfl rfl ?_
             refine Run.no rfl rfl rfl ?_
             refine Run.go rfl rfl rfl (sem_pick false ((Value.bool false)) rfl rfl ?_)
             obtain ⟨h439, hst, hS⟩ := hS
             refine Run.go rfl rfl rfl (sem_store1 ⟨k8, 0, none⟩ ((Value.bool false)) h439 rfl rfl rfl TF.sz_4 hst ?_)
             refine Run.region_end ?_
             obtain ⟨b440, hl0, hS⟩ := hS
             refine Run.ret ⟨.inr rfl, ?_⟩
             exact ⟨⟨k8, 0, none⟩, (Value.bool b440), rfl, loadH1 TF.agg_4 hl0, hS.imp fun h' hq => ⟨(b440), rfl, hq⟩⟩
           ·have hS := hT rfl; clear hT hF
            refine Run.go rfl rfl rfl (sem_not true rfl ?_)
            refine Run.go rfl rfl rfl (sem_pick true ((Value.bool false)) rfl rfl ?_)
            refine Run.go rfl rfl rfl (sem_move ((Value.bool false)) rfl ?_)
            refine Run.no rfl rfl rfl ?_
            refine Run.no rfl rfl rfl ?_
            refine Run.no rfl rfl rfl ?_
            refine Run.no rfl rfl rfl ?_
            refine Run.go rfl rfl rfl (sem_pick false ((Value.bool false)) rfl rfl ?_)
            refine Run.go rfl rfl rfl (sem_move ((Value.bool false)) rfl ?_)
            refine Run.no rfl rfl rfl ?_
            refine Run.no rfl rfl rfl ?_
            refine Run.no rfl rfl rfl ?_
            refine Run.go rfl rfl rfl (sem_pick false ((Value.bool false)) rfl rfl ?_)
            refine Run.go rfl rfl rfl (sem_move ((Value.bool false)) rfl ?_)
            refine Run.no rfl rfl rfl ?_
            refine Run.no rfl rfl rfl ?_
            refine Run.no rfl rfl rfl ?_
            refine Run.go rfl rfl rfl (sem_pick false ((Value.bool false)) rfl rfl ?_)
            refine Run.go rfl rfl rfl (sem_move ((Value.bool false)) rfl ?_)
            refine Run.no rfl rfl rfl ?_
            refine Run.no rfl rfl rfl ?_
            refine Run.no rfl rfl rfl ?_
            refine Run.no rfl rfl rfl ?_
            refine Run.go rfl rfl rfl (sem_pick false ((Value.bool false)) rfl rfl ?_)
            obtain ⟨h441, hst, hS⟩ := hS
            refine Run.go rfl rfl rfl (sem_store1 ⟨k8, 0, none⟩ ((Value.bool false)) h441 rfl rfl rfl TF.sz_4 hst ?_)
            refine Run.region_end ?_
            obtain ⟨b442, hl0, hS⟩ := hS
            refine Run.ret ⟨.inr rfl, ?_⟩
            exact ⟨⟨k8, 0, none⟩, (Value.bool b442), rfl, loadH1 TF.agg_4 hl0, hS.imp fun h' hq => ⟨(b442), rfl, hq⟩⟩
          ·have hS := hT rfl; clear hT hF
           refine Run.go rfl rfl rfl (sem_not true rfl ?_)
           refine Run.go rfl rfl rfl (sem_pick true ((Value.bool false)) rfl rfl ?_)
           refine Run.go rfl rfl rfl (sem_move ((Value.bool false)) rfl ?_)
           refine Run.no rfl rfl rfl ?_
           refine Run.no rfl rfl rfl ?_
           refine Run.no rfl rfl rfl ?_
           refine Run.no rfl rfl rfl ?_
           refine Run.go rfl rfl rfl (sem_pick false ((Value.bool false)) rfl rfl ?_)
           refine Run.go rfl rfl rfl (sem_move ((Value.bool false)) rfl ?_)
           refine Run.no rfl rfl rfl ?_
           refine Run.no rfl rfl rfl ?_
           refine Run.no rfl rfl rfl ?_
           refine Run.no rfl rfl rfl ?_
           refine Run.go rfl rfl rfl (sem_pick false ((Value.bool false)) rfl rfl ?_)
           refine Run.go rfl rfl rfl (sem_move ((Value.bool false)) rfl ?_)
           refine Run.no rfl rfl rfl ?_
           refine Run.no rfl rfl rfl ?_
           refine Run.no rfl rfl rfl ?_
           refine Run.go rfl rfl rfl (sem_pick false ((Value.bool false)) rfl rfl ?_)
           refine Run.go rfl rfl rfl (sem_move ((Value.bool false)) rfl ?_)
           refine Run.no rfl rfl rfl ?_
           refine Run.no rfl rfl rfl ?_
           refine Run.no rfl rfl rfl ?_
           refine Run.go rfl rfl rfl (sem_pick false ((Value.bool false)) rfl rfl ?_)
           refine Run.go rfl rfl rfl (sem_move ((Value.bool false)) rfl ?_)
           refine Run.no rfl rfl rfl ?_
           refine Run.no rfl rfl rfl ?_
           refine Run.no rfl rfl rfl ?_
           refine Run.no rfl rfl rfl ?_
           refine Run.go rfl rfl rfl (sem_pick false ((Value.bool false)) rfl rfl ?_)
           obtain ⟨h443, hst, hS⟩ := hS
           refine Run.go rfl rfl rfl (sem_store1 ⟨k8, 0, none⟩ ((Value.bool false)) h443 rfl rfl rfl TF.sz_4 hst ?_)
           refine Run.region_end ?_
           obtain ⟨b444, hl0, hS⟩ := hS
           refine Run.ret ⟨.inr rfl, ?_⟩
           exact ⟨⟨k8, 0, none⟩, (Value.bool b444), rfl, loadH1 TF.agg_4 hl0, hS.imp fun h' hq => ⟨(b444), rfl, hq⟩⟩
         ·have hS := hT rfl; clear hT hF
          refine Run.go rfl rfl rfl (sem_not true rfl ?_)
          refine Run.go rfl rfl rfl (sem_pick true ((Value.bool false)) rfl rfl ?_)
          refine Run.go rfl rfl rfl (sem_move ((Value.bool false)) rfl ?_)
          refine Run.no rfl rfl rfl ?_
          refine Run.no rfl rfl rfl ?_
          refine Run.no rfl rfl rfl ?_
          refine Run.no rfl rfl rfl ?_
          refine Run.go rfl rfl rfl (sem_pick false ((Value.bool false)) rfl rfl ?_)
          refine Run.go rfl rfl rfl (sem_move ((Value.bool false)) rfl ?_)
          refine Run.no rfl rfl rfl ?_
          refine Run.no rfl rfl rfl ?_
          refine Run.no rfl rfl rfl ?_
          refine Run.no rfl rfl rfl ?_
          refine Run.go rfl rfl rfl (sem_pick false ((Value.bool false)) rfl rfl ?_)
          refine Run.go rfl rfl rfl (sem_move ((Value.bool false)) rfl ?_)
          refine Run.no rfl rfl rfl ?_
          refine Run.no rfl rfl rfl ?_
          refine Run.no rfl rfl rfl ?_
          refine Run.no rfl rfl rfl ?_
          refine Run.go rfl rfl rfl (sem_pick false ((Value.bool false)) rfl rfl ?_)
          refine Run.go rfl rfl rfl (sem_move ((Value.bool false)) rfl ?_)
          refine Run.no rfl rfl rfl ?_
          refine Run.no rfl rfl rfl ?_
          refine Run.no rfl rfl rfl ?_
          refine Run.go rfl rfl rfl (sem_pick false ((Value.bool false)) rfl rfl ?_)
          refine Run.go rfl rfl rfl (sem_move ((Value.bool false)) rfl ?_)
          refine Run.no rfl rfl rfl ?_
          refine Run.no rfl rfl rfl ?_
          refine Run.no rfl rfl rfl ?_
          refine Run.go rfl rfl rfl (sem_pick false ((Value.bool false)) rfl rfl ?_)
          refine Run.go rfl rfl rfl (sem_move ((Value.bool false)) rfl ?_)
          refine Run.no rfl rfl rfl ?_
          refine Run.no rfl rfl rfl ?_
          refine Run.no rfl rfl rfl ?_
          refine Run.no rfl rfl rfl ?_
          refine Run.go rfl rfl rfl (sem_pick false ((Value.bool false)) rfl rfl ?_)
          obtain ⟨h445, hst, hS⟩ := hS
          refine Run.go rfl rfl rfl (sem_store1 ⟨k8, 0, none⟩ ((Value.bool false)) h445 rfl rfl rfl TF.sz_4 hst ?_)
          refine Run.region_end ?_
          obtain ⟨b446, hl0, hS⟩ := hS
          refine Run.ret ⟨.inr rfl, ?_⟩
          exact ⟨⟨k8, 0, none⟩, (Value.bool b446), rfl, loadH1 TF.agg_4 hl0, hS.imp fun h' hq => ⟨(b446), rfl, hq⟩⟩
        ·have hS := hT rfl; clear hT hF
         refine Run.go rfl rfl rfl (sem_not true rfl ?_)
         refine Run.go rfl rfl rfl (sem_move ((Value.bool false)) rfl ?_)
         refine Run.no rfl rfl rfl ?_
         refine Run.no rfl rfl rfl ?_
         refine Run.no rfl rfl rfl ?_
         refine Run.no rfl rfl rfl ?_
         refine Run.go rfl rfl rfl (sem_pick false ((Value.bool false)) rfl rfl ?_)
         refine Run.go rfl rfl rfl (sem_move ((Value.bool false)) rfl ?_)
         refine Run.no rfl rfl rfl ?_
         refine Run.no rfl rfl rfl ?_
         refine Run.no rfl rfl rfl ?_
         refine Run.no rfl rfl rfl ?_
         refine Run.go rfl rfl rfl (sem_pick false ((Value.bool false)) rfl rfl ?_)
         refine Run.go rfl rfl rfl (sem_move ((Value.bool false)) rfl ?_)
         refine Run.no rfl rfl rfl ?_
         refine Run.no rfl rfl rfl ?_
         refine Run.no rfl rfl rfl ?_
         refine Run.no rfl rfl rfl ?_
         refine Run.go rfl rfl rfl (sem_pick false ((Value.bool false)) rfl rfl ?_)
         refine Run.go rfl rfl rfl (sem_move ((Value.bool false)) rfl ?_)
         refine Run.no rfl rfl rfl ?_
         refine Run.no rfl rfl rfl ?_
         refine Run.no rfl rfl rfl ?_
         refine Run.no rfl rfl rfl ?_
         refine Run.go rfl rfl rfl (sem_pick false ((Value.bool false)) rfl rfl ?_)
         refine Run.go rfl rfl rfl (sem_move ((Value.bool false)) rfl ?_)
         refine Run.no rfl rfl rfl ?_
         refine Run.no rfl rfl rfl ?_
         refine Run.no rfl rfl rfl ?_
         refine Run.go rfl rfl rfl (sem_pick false ((Value.bool false)) rfl rfl ?_)
         refine Run.go rfl rfl rfl (sem_move ((Value.bool false)) rfl ?_)
         refine Run.no rfl rfl rfl ?_
         refine Run.no rfl rfl rfl ?_
         refine Run.no rfl rfl rfl ?_
         refine Run.go rfl rfl rfl (sem_pick false ((Value.bool false)) rfl rfl ?_)
         refine Run.go rfl rfl rfl (sem_move ((Value.bool false)) rfl ?_)
         refine Run.no rfl rfl rfl ?_
         refine Run.no rfl rfl rfl ?_
         refine Run.no rfl rfl rfl ?_
         refine Run.no rfl rfl rfl ?_
         refine Run.go rfl rfl rfl (sem_pick false ((Value.bool false)) rfl rfl ?_)
         obtain ⟨h447, hst, hS⟩ := hS
         refine Run.go rfl rfl rfl (sem_store1 ⟨k8, 0, none⟩ ((Value.bool false)) h447 rfl rfl rfl TF.sz_4 hst ?_)
         refine Run.region_end ?_
         obtain ⟨b448, hl0, hS⟩ := hS
         refine Run.ret ⟨.inr rfl, ?_⟩
         exact ⟨⟨k8, 0, none⟩, (Value.bool b448), rfl, loadH1 TF.agg_4 hl0, hS.imp fun h' hq => ⟨(b448), rfl, hq⟩⟩
       refine Run.seq ?_
       obtain ⟨i449, hl, hS⟩ := hS
       have f450 := hl
       skip
       refine Run.drawM (fun h' => cellH B h' ⟨k401, 0, none⟩ = some (Value.int .i64 (i449)) ∧ True) [] ⟨[0, 0, 2, 4, 9, 24, 32, 96, 32, 416, 544, 1152, 2048, 2048, 10240, 18432, 34816, 67584, 137216, 264192, 526336, 1048576, 3145728], [8388607, 8388607, 8388605, 8388603, 8388598, 8388591, 8388575, 8388511, 8388575, 8388191, 8388063, 8387583, 8386559, 8386559, 8378367, 8370175, 8353791, 8321023, 8251391, 8124415, 7864319, 7340031, 5242879], [0, 0, 0, 0, 0, 0, 0, 0, 0, 0, 0, 0, 0, 0, 0, 0, 0, 0, 0, 0, 0, 0, 0], 0⟩ (.q 0 (.q 1 (.x 2 (.x 3 (.q 4 (.q 5 (.q 6 (.q 8 (.x 7 (.q 9 (.q 10 (.q 11 (.x 12 (.x 13 (.q 14 (.q 15 (.q 16 (.x 17 (.q 18 (.q 19 (.q 20 (.q 21 (.q 22 .nil))))) .no)))) .no) (.x 13 (.q 14 (.q 15 (.q 16 (.x 12 (.x 17 (.q 18 (.q 19 (.q 20 (.q 21 (.q 22 .nil))))) .no) (.x 17 (.x 12 (.q 18 (.q 19 (.q 20 (.q 21 (.q 22 .nil))))) .no) .no))))) .no))))) .no))))) .no) .no))) TF.mixed (by kernel_rfl) ⟨f450, trivial⟩ ?_
       refine RunT.quiet rfl rfl rfl (fun h' hC => sem_load1 ⟨k401, 0, none⟩ ((Value.int .i64 (i449))) rfl TF.agg_3 hC.1 ⟨rfl, rfl⟩) ?_
       refine RunT.quiet rfl rfl rfl (fun h' hC => sem_move ((Value.pointer p17)) rfl ⟨rfl, rfl⟩) ?_
       refine ⟨?_, trivial⟩
       refine OpH.go rfl rfl rfl (sem_callL [(Value.pointer p17)] (TF.goes_51) rfl rfl (Spec.mono hS fun v h452 hv => ?_))
       obtain ⟨p453, rfl, hS⟩ := hv
       obtain ⟨g454, hS⟩ := hS
       refine ⟨fun _ => ⟨g454, trivial⟩, ?_⟩
       refine ⟨?_, trivial⟩
       refine OpH.go rfl rfl rfl (sem_callL [(Value.pointer p453)] (TF.goes_53) rfl rfl (Spec.mono hS fun v h455 hv => ?_))
       obtain ⟨i456, rfl, hS⟩ := hv
       obtain ⟨g457, hS⟩ := hS
       refine ⟨fun _ => ⟨g457, trivial⟩, ?_⟩
       obtain ⟨hT, hF⟩ := hS
       by_cases hb458 : (i449 : Int) = i456
       ·have hS := hT hb458; clear hT hF
        refine RunT.quiet rfl rfl rfl (fun h' hC => sem_binI .i64 (i449) (i456) (.bool false) rfl rfl (binI_neq_t hb458) ⟨rfl, rfl⟩) ?_
        refine RunT.quiet rfl rfl rfl (fun h' hC => sem_move ((Value.bool false)) rfl ⟨rfl, rfl⟩) ?_
        refine RunT.quiet rfl rfl rfl (fun h' hC => sem_move ((Value.pointer p16)) rfl ⟨rfl, rfl⟩) ?_
        refine RunT.quiet rfl rfl rfl (fun h' hC => sem_move ((Value.string s398)) rfl ⟨rfl, rfl⟩) ?_
        refine ⟨?_, trivial⟩
        refine OpH.go rfl rfl rfl (sem_callL [(Value.pointer p16)] (TF.goes_50) rfl rfl (Spec.mono hS fun v h459 hv => ?_))
        obtain ⟨s460, rfl, hS⟩ := hv
        obtain ⟨g461, hS⟩ := hS
        refine ⟨fun _ => ⟨g461, trivial⟩, ?_⟩
        obtain ⟨hT, hF⟩ := hS
        by_cases hb462 : s460 = s398
        ·have hS := hT hb462; clear hT hF
         refine RunT.quiet rfl rfl rfl (fun h' hC => sem_strNeT s460 s398 rfl rfl hb462 ⟨rfl, rfl⟩) ?_
         refine RunT.quiet rfl rfl rfl (fun h' hC => sem_pick false ((Value.bool false)) rfl rfl ⟨rfl, rfl⟩) ?_
         refine RunT.quiet rfl rfl rfl (fun h' hC => sem_move ((Value.bool false)) rfl ⟨rfl, rfl⟩) ?_
         refine RunT.joinJ (t := (.q 18 (.q 19 (.q 20 (.q 21 (.q 22 .nil)))))) (fun e h486 => ∃ b482 : Bool, ∃ s483 : ByteArray, ∃ b484 : Bool, ∃ s485 : ByteArray, Agree [(4, (Value.pointer (some ⟨k8, 0, none⟩))), (5, (Value.pointer p16)), (18, (Value.pointer none)), (20, (Value.bool false)), (127, (Value.bool false)), (128, (Value.agg #[(Value.bool b482), (Value.string s483)])), (133, (Value.agg #[(Value.bool b484), (Value.string s485)]))] e ∧ cellH B h486 ⟨k401, 0, none⟩ = some (Value.int .i64 (i449)) ∧ S_countermandlaw14_SheetDoes_J20 B k8 p16 k401 i449 b482 s483 b484 s485 h486 Q) ?_ fun j481 => ?_
         ·rintro e h486 ⟨b482, s483, b484, s485, hag, g487, hS⟩
          refine RunT.env hag ?_; clear hag
          obtain ⟨hT, hF⟩ := hS
          by_cases hb488 : eqL [(Value.bool b482), (Value.string s483)] [(Value.bool b484), (Value.string s485)] = true
          ·have hS := hT hb488; clear hT hF
           refine RunT.quiet rfl rfl rfl (fun h' hC => sem_aggEq [(Value.bool b482), (Value.string s483)] [(Value.bool b484), (Value.string s485)] _ (false) (.inr rfl) rfl rfl TF.agg_76 TF.flat_76 TF.eqg_76 ⟨⟨_, rfl⟩, ⟨_, rfl⟩, trivial⟩ ⟨⟨_, rfl⟩, ⟨_, rfl⟩, trivial⟩ (eqLT_neq hb488) ⟨rfl, rfl⟩) ?_
           refine RunT.quiet rfl rfl rfl (fun h' hC => sem_pick false ((Value.bool false)) rfl rfl ⟨rfl, rfl⟩) ?_
           refine RunT.quiet rfl rfl rfl (fun h' hC => sem_move ((Value.bool false)) rfl ⟨rfl, rfl⟩) ?_
           refine RunT.quiet rfl rfl rfl (fun h' hC => sem_move ((Value.bool false)) rfl ⟨rfl, rfl⟩) ?_
           refine RunT.quiet rfl rfl rfl (fun h' hC => sem_pick false ((Value.bool false)) rfl rfl ⟨rfl, rfl⟩) ?_
           refine Run.condF rfl ?_
           refine Run.skip ?_
           exact Run.of_fin (hS.imp fun h' hS => j413 _ _ ⟨⟨rfl, rfl, rfl, trivial⟩, hS⟩)
          ·have hS := hF hb488; clear hT hF
           refine RunT.quiet rfl rfl rfl (fun h' hC => sem_aggEq [(Value.bool b482), (Value.string s483)] [(Value.bool b484), (Value.string s485)] _ (true) (.inr rfl) rfl rfl TF.agg_76 TF.flat_76 TF.eqg_76 ⟨⟨_, rfl⟩, ⟨_, rfl⟩, trivial⟩ ⟨⟨_, rfl⟩, ⟨_, rfl⟩, trivial⟩ (eqLF_neq hb488) ⟨rfl, rfl⟩) ?_
           refine RunT.quiet rfl rfl rfl (fun h' hC => sem_pick false ((Value.bool true)) rfl rfl ⟨rfl, rfl⟩) ?_
           refine RunT.quiet rfl rfl rfl (fun h' hC => sem_move ((Value.bool true)) rfl ⟨rfl, rfl⟩) ?_
           refine RunT.skip rfl rfl rfl ?_
           refine RunT.quiet rfl rfl rfl (fun h' hC => sem_pick true ((Value.bool true)) rfl rfl ⟨rfl, rfl⟩) ?_
           refine Run.condT rfl ?_
           refine Run.seq ?_
           refine Run.ops0 (idx := [0]) rfl ?_
           obtain ⟨h489, hst, hS⟩ := hS
           refine Run.go rfl rfl rfl (sem_store1 ⟨k8, 0, none⟩ ((Value.bool false)) h489 rfl rfl rfl TF.sz_4 hst ?_)
           refine Run.region_end ?_
           obtain ⟨b490, hl0, hS⟩ := hS
           refine Run.ret ⟨.inr rfl, ?_⟩
           exact ⟨⟨k8, 0, none⟩, (Value.bool b490), rfl, loadH1 TF.agg_4 hl0, hS.imp fun h' hq => ⟨(b490), rfl, hq⟩⟩
         refine ⟨?_, ?_, trivial⟩
         ·have hS := hS.1
          obtain ⟨b491, s492, hl, hS⟩ := hS
          refine OpH.go rfl rfl rfl (sem_loadN ⟨k410, 0, none⟩ [(Value.bool b491), (Value.string s492)] rfl TF.agg_41 TF.sz_41 hl ?_)
          refine ⟨fun _ => ⟨g461, trivial⟩, ?_⟩
          refine ⟨?_, trivial⟩
          obtain ⟨p493, hl, hS⟩ := hS
          refine OpH.go rfl rfl rfl (sem_load1 ⟨k392, 0, none⟩ ((Value.pointer p493)) rfl TF.agg_72 hl ?_)
          refine ⟨fun _ => ⟨g461, trivial⟩, ?_⟩
          obtain ⟨A494, e495, hS⟩ := hS
          refine RunT.quiet rfl rfl rfl (fun h' hC => sem_nilCheck A494 (congrArg Value.pointer e495) ⟨rfl, rfl⟩) ?_
          refine RunT.quiet rfl rfl rfl (fun h' hC => sem_fieldAddr A494 0 rfl TF.fld_86_0 ⟨rfl, rfl⟩) ?_
          obtain ⟨hi0, hi1, hS⟩ := hS
          refine RunT.quiet rfl rfl rfl (fun h' hC => sem_indexAddrA A494 .i64 (0) rfl rfl TF.arr_77 hi0 hi1 ⟨rfl, rfl⟩) ?_
          refine ⟨?_, trivial⟩
          obtain ⟨b496, s497, hl, hS⟩ := hS
          refine OpH.go rfl rfl rfl (sem_loadN A494 [(Value.bool b496), (Value.string s497)] rfl TF.agg_76 TF.sz_76 hl ?_)
          refine ⟨fun _ => ⟨g461, trivial⟩, ?_⟩
          exact j481 _ _ ⟨(b491), s492, (b496), s497, ⟨rfl, rfl, rfl, rfl, rfl, rfl, rfl, trivial⟩, g461, hS⟩
         ·have hS := hS.2
          obtain ⟨p498, hl, hS⟩ := hS
          refine OpH.go rfl rfl rfl (sem_load1 ⟨k392, 0, none⟩ ((Value.pointer p498)) rfl TF.agg_72 hl ?_)
          refine ⟨fun _ => ⟨g461, trivial⟩, ?_⟩
          obtain ⟨A499, e500, hS⟩ := hS
          refine RunT.quiet rfl rfl rfl (fun h' hC => sem_nilCheck A499 (congrArg Value.pointer e500) ⟨rfl, rfl⟩) ?_
          refine RunT.quiet rfl rfl rfl (fun h' hC => sem_fieldAddr A499 0 rfl TF.fld_86_0 ⟨rfl, rfl⟩) ?_
          obtain ⟨hi0, hi1, hS⟩ := hS
          refine RunT.quiet rfl rfl rfl (fun h' hC => sem_indexAddrA A499 .i64 (0) rfl rfl TF.arr_77 hi0 hi1 ⟨rfl, rfl⟩) ?_
          refine ⟨?_, ?_, trivial⟩
          ·have hS := hS.1
           obtain ⟨b501, s502, hl, hS⟩ := hS
           refine OpH.go rfl rfl rfl (sem_loadN ⟨k410, 0, none⟩ [(Value.bool b501), (Value.string s502)] rfl TF.agg_41 TF.sz_41 hl ?_)
           refine ⟨fun _ => ⟨g461, trivial⟩, ?_⟩
           refine ⟨?_, trivial⟩
           obtain ⟨b503, s504, hl, hS⟩ := hS
           refine OpH.go rfl rfl rfl (sem_loadN A499 [(Value.bool b503), (Value.string s504)] rfl TF.agg_76 TF.sz_76 hl ?_)
           refine ⟨fun _ => ⟨g461, trivial⟩, ?_⟩
           exact j481 _ _ ⟨(b501), s502, (b503), s504, ⟨rfl, rfl, rfl, rfl, rfl, rfl, rfl, trivial⟩, g461, hS⟩
          ·have hS := hS.2
           obtain ⟨b505, s506, hl, hS⟩ := hS
           refine OpH.go rfl rfl rfl (sem_loadN A499 [(Value.bool b505), (Value.string s506)] rfl TF.agg_76 TF.sz_76 hl ?_)
           refine ⟨fun _ => ⟨g461, trivial⟩, ?_⟩
           refine ⟨?_, trivial⟩
           obtain ⟨b507, s508, hl, hS⟩ := hS
           refine OpH.go rfl rfl rfl (sem_loadN ⟨k410, 0, none⟩ [(Value.bool b507), (Value.string s508)] rfl TF.agg_41 TF.sz_41 hl ?_)
           refine ⟨fun _ => ⟨g461, trivial⟩, ?_⟩
           exact j481 _ _ ⟨(b507), s508, (b505), s506, ⟨rfl, rfl, rfl, rfl, rfl, rfl, rfl, trivial⟩, g461, hS⟩
        ·have hS := hF hb462; clear hT hF
         refine RunT.quiet rfl rfl rfl (fun h' hC => sem_strNeF s460 s398 rfl rfl hb462 ⟨rfl, rfl⟩) ?_
         refine RunT.quiet rfl rfl rfl (fun h' hC => sem_pick false ((Value.bool true)) rfl rfl ⟨rfl, rfl⟩) ?_
         refine RunT.quiet rfl rfl rfl (fun h' hC => sem_move ((Value.bool true)) rfl ⟨rfl, rfl⟩) ?_
         refine RunT.joinJ (t := (.q 18 (.q 19 (.q 20 (.q 21 (.q 22 .nil)))))) (fun e h510 => Agree [(4, (Value.pointer (some ⟨k8, 0, none⟩))), (5, (Value.pointer p16)), (18, (Value.pointer none)), (20, (Value.bool false)), (127, (Value.bool true))] e ∧ cellH B h510 ⟨k401, 0, none⟩ = some (Value.int .i64 (i449)) ∧ S_countermandlaw14_SheetDoes_J21 B k8 p16 k401 i449 h510 Q) ?_ fun j509 => ?_
         ·rintro e h510 ⟨hag, g511, hS⟩
          refine RunT.env hag ?_; clear hag
          refine RunT.skip rfl rfl rfl ?_
          refine RunT.quiet rfl rfl rfl (fun h' hC => sem_pick true ((Value.bool true)) rfl rfl ⟨rfl, rfl⟩) ?_
          refine RunT.quiet rfl rfl rfl (fun h' hC => sem_move ((Value.bool true)) rfl ⟨rfl, rfl⟩) ?_
          refine RunT.skip rfl rfl rfl ?_
          refine RunT.quiet rfl rfl rfl (fun h' hC => sem_pick true ((Value.bool true)) rfl rfl ⟨rfl, rfl⟩) ?_
          refine Run.condT rfl ?_
          refine Run.seq ?_
          refine Run.ops0 (idx := [0]) rfl ?_
          obtain ⟨h512, hst, hS⟩ := hS
          refine Run.go rfl rfl rfl (sem_store1 ⟨k8, 0, none⟩ ((Value.bool false)) h512 rfl rfl rfl TF.sz_4 hst ?_)
          refine Run.region_end ?_
          obtain ⟨b513, hl0, hS⟩ := hS
          refine Run.ret ⟨.inr rfl, ?_⟩
          exact ⟨⟨k8, 0, none⟩, (Value.bool b513), rfl, loadH1 TF.agg_4 hl0, hS.imp fun h' hq => ⟨(b513), rfl, hq⟩⟩
         refine ⟨?_, ?_, trivial⟩
         ·have hS := hS.1
          refine OpH.no rfl rfl rfl ⟨fun _ => ⟨g461, trivial⟩, ?_⟩
          refine ⟨?_, trivial⟩
          refine OpH.no rfl rfl rfl ⟨fun _ => ⟨g461, trivial⟩, ?_⟩
          refine RunT.skip rfl rfl rfl ?_
          refine RunT.skip rfl rfl rfl ?_
          refine RunT.skip rfl rfl rfl ?_
          refine ⟨?_, trivial⟩
          refine OpH.no rfl rfl rfl ⟨fun _ => ⟨g461, trivial⟩, ?_⟩
          exact j509 _ _ ⟨⟨rfl, rfl, rfl, rfl, rfl, trivial⟩, g461, hS⟩
         ·have hS := hS.2
          refine OpH.no rfl rfl rfl ⟨fun _ => ⟨g461, trivial⟩, ?_⟩
          refine RunT.skip rfl rfl rfl ?_
          refine RunT.skip rfl rfl rfl ?_
          refine RunT.skip rfl rfl rfl ?_
          refine ⟨?_, ?_, trivial⟩
          ·have hS := hS.1
           refine OpH.no rfl rfl rfl ⟨fun _ => ⟨g461, trivial⟩, ?_⟩
           refine ⟨?_, trivial⟩
           refine OpH.no rfl rfl rfl ⟨fun _ => ⟨g461, trivial⟩, ?_⟩
           exact j509 _ _ ⟨⟨rfl, rfl, rfl, rfl, rfl, trivial⟩, g461, hS⟩
          ·have hS := hS.2
           refine OpH.no rfl rfl rfl ⟨fun _ => ⟨g461, trivial⟩, ?_⟩
           refine ⟨?_, trivial⟩
           refine OpH.no rfl rfl rfl ⟨fun _ => ⟨g461, trivial⟩, ?_⟩
           exact j509 _ _ ⟨⟨rfl, rfl, rfl, rfl, rfl, trivial⟩, g461, hS⟩
       ·have hS := hF hb458; clear hT hF
        refine RunT.quiet rfl rfl rfl (fun h' hC => sem_binI .i64 (i449) (i456) (.bool true) rfl rfl (binI_neq_f hb458) ⟨rfl, rfl⟩) ?_
        refine RunT.quiet rfl rfl rfl (fun h' hC => sem_move ((Value.bool true)) rfl ⟨rfl, rfl⟩) ?_
        refine RunT.skip rfl rfl rfl ?_
        refine RunT.skip rfl rfl rfl ?_
        refine ⟨?_, trivial⟩
        refine OpH.no rfl rfl rfl ⟨fun _ => ⟨g457, trivial⟩, ?_⟩
        refine RunT.skip rfl rfl rfl ?_
        refine RunT.quiet rfl rfl rfl (fun h' hC => sem_pick true ((Value.bool true)) rfl rfl ⟨rfl, rfl⟩) ?_
        refine RunT.quiet rfl rfl rfl (fun h' hC => sem_move ((Value.bool true)) rfl ⟨rfl, rfl⟩) ?_
        refine RunT.joinJ (t := (.q 18 (.q 19 (.q 20 (.q 21 (.q 22 .nil)))))) (fun e h515 => Agree [(4, (Value.pointer (some ⟨k8, 0, none⟩))), (5, (Value.pointer p16)), (18, (Value.pointer none)), (20, (Value.bool false)), (127, (Value.bool true))] e ∧ cellH B h515 ⟨k401, 0, none⟩ = some (Value.int .i64 (i449)) ∧ S_countermandlaw14_SheetDoes_J22 B k8 p16 k401 i449 h515 Q) ?_ fun j514 => ?_
        ·rintro e h515 ⟨hag, g516, hS⟩
         refine RunT.env hag ?_; clear hag
         refine RunT.skip rfl rfl rfl ?_
         refine RunT.quiet rfl rfl rfl (fun h' hC => sem_pick true ((Value.bool true)) rfl rfl ⟨rfl, rfl⟩) ?_
         refine RunT.quiet rfl rfl rfl (fun h' hC => sem_move ((Value.bool true)) rfl ⟨rfl, rfl⟩) ?_
         refine RunT.skip rfl rfl rfl ?_
         refine RunT.quiet rfl rfl rfl (fun h' hC => sem_pick true ((Value.bool true)) rfl rfl ⟨rfl, rfl⟩) ?_
         refine Run.condT rfl ?_
         refine Run.seq ?_
         refine Run.ops0 (idx := [0]) rfl ?_
         obtain ⟨h517, hst, hS⟩ := hS
         refine Run.go rfl rfl rfl (sem_store1 ⟨k8, 0, none⟩ ((Value.bool false)) h517 rfl rfl rfl TF.sz_4 hst ?_)
         refine Run.region_end ?_
         obtain ⟨b518, hl0, hS⟩ := hS
         refine Run.ret ⟨.inr rfl, ?_⟩
         exact ⟨⟨k8, 0, none⟩, (Value.bool b518), rfl, loadH1 TF.agg_4 hl0, hS.imp fun h' hq => ⟨(b518), rfl, hq⟩⟩
        refine ⟨?_, ?_, trivial⟩
        ·have hS := hS.1
         refine OpH.no rfl rfl rfl ⟨fun _ => ⟨g457, trivial⟩, ?_⟩
         refine ⟨?_, trivial⟩
         refine OpH.no rfl rfl rfl ⟨fun _ => ⟨g457, trivial⟩, ?_⟩
         refine RunT.skip rfl rfl rfl ?_
         refine RunT.skip rfl rfl rfl ?_
         refine RunT.skip rfl rfl rfl ?_
         refine ⟨?_, trivial⟩
         refine OpH.no rfl rfl rfl ⟨fun _ => ⟨g457, trivial⟩, ?_⟩
         exact j514 _ _ ⟨⟨rfl, rfl, rfl, rfl, rfl, trivial⟩, g457, hS⟩
        ·have hS := hS.2
         refine OpH.no rfl rfl rfl ⟨fun _ => ⟨g457, trivial⟩, ?_⟩
         refine RunT.skip rfl rfl rfl ?_
         refine RunT.skip rfl rfl rfl ?_
         refine RunT.skip rfl rfl rfl ?_
         refine ⟨?_, ?_, trivial⟩
         ·have hS := hS.1
          refine OpH.no rfl rfl rfl ⟨fun _ => ⟨g457, trivial⟩, ?_⟩
          refine ⟨?_, trivial⟩
          refine OpH.no rfl rfl rfl ⟨fun _ => ⟨g457, trivial⟩, ?_⟩
          exact j514 _ _ ⟨⟨rfl, rfl, rfl, rfl, rfl, trivial⟩, g457, hS⟩
         ·have hS := hS.2
          refine OpH.no rfl rfl rfl ⟨fun _ => ⟨g457, trivial⟩, ?_⟩
          refine ⟨?_, trivial⟩
          refine OpH.no rfl rfl rfl ⟨fun _ => ⟨g457, trivial⟩, ?_⟩
          exact j514 _ _ ⟨⟨rfl, rfl, rfl, rfl, rfl, trivial⟩, g457, hS⟩
      ·have hS := hT rfl; clear hT hF
       refine Run.go rfl rfl rfl (sem_extract #[(Value.agg #[(Value.bool b407), (Value.string s408)]), (Value.bool true)] (.bool true) rfl rfl ?_)
       refine Run.go rfl rfl rfl (sem_allocN [(Value.bool false), (Value.string ByteArray.empty)] TF.zero_41 (fun k519 hb1 hb2 h520 hb3 => ?_))
       have hS := hS k519 hb1 hb2 h520 hb3
       obtain ⟨h521, hst, hS⟩ := hS
       refine Run.go rfl rfl rfl (sem_storeN ⟨k519, 0, none⟩ [(Value.bool b407), (Value.string s408)] h521 rfl rfl TF.sz_41 hst ?_)
       refine Run.go rfl rfl rfl (sem_assign ((Value.bool true)) rfl ?_)
       refine Run.region_end ?_
       refine Run.seqJ (fun e h523 => Agree [(4, (Value.pointer (some ⟨k8, 0, none⟩))), (5, (Value.pointer p16)), (18, (Value.pointer none))] e ∧ S_countermandlaw14_SheetDoes_J23 B k8 p16 h523 Q) ?_ fun j522 => ?_
       ·rintro e h523 ⟨hag, hS⟩
        refine Run.env hag ?_; clear hag
        refine Run.seq ?_
        refine Run.ops0 (idx := [0, 1, 2, 3, 4, 5, 6, 7, 8, 9, 10, 11, 12, 13, 14, 15, 16, 17, 18, 19, 20, 21, 22, 23, 24, 25, 26, 27, 28, 29, 30, 31, 32, 33, 34, 35, 36, 37, 38, 39, 40, 41, 42, 43, 44]) rfl ?_
        refine Run.go rfl rfl rfl (sem_move ((Value.pointer none)) rfl ?_)
        refine Run.go rfl rfl rfl (sem_move ((Value.pointer p16)) rfl ?_)
        refine Run.go rfl rfl rfl (sem_callL [(Value.pointer none), (Value.pointer p16), (Value.int .i64 (0)), (Value.int .i64 (0)), (Value.int .u8 (0))] (TF.goes_54) rfl rfl (Spec.mono hS fun v h524 hv => ?_))
        obtain ⟨b525, rfl, hS⟩ := hv
        obtain ⟨hT, hF⟩ := hS
        cases b525
        ·have hS := hF rfl; clear hT hF
         refine Run.go rfl rfl rfl (sem_not false rfl ?_)
         refine Run.go rfl rfl rfl (sem_move ((Value.bool true)) rfl ?_)
         refine Run.go rfl rfl rfl (sem_move ((Value.pointer none)) rfl ?_)
         refine Run.go rfl rfl rfl (sem_move ((Value.pointer p16)) rfl ?_)
         refine Run.go rfl rfl rfl (sem_callL [(Value.pointer none), (Value.pointer p16), (Value.int .i64 (0)), (Value.int .i64 (0))] (TF.goes_55) rfl rfl (Spec.mono hS fun v h526 hv => ?_))
         obtain ⟨b527, rfl, hS⟩ := hv
         obtain ⟨hT, hF⟩ := hS
         cases b527
         ·have hS := hF rfl; clear hT hF
          refine Run.go rfl rfl rfl (sem_not false rfl ?_)
          refine Run.go rfl rfl rfl (sem_pick true ((Value.bool true)) rfl rfl ?_)
          refine Run.go rfl rfl rfl (sem_move ((Value.bool true)) rfl ?_)
          refine Run.go rfl rfl rfl (sem_move ((Value.pointer none)) rfl ?_)
          refine Run.go rfl rfl rfl (sem_move ((Value.pointer p16)) rfl ?_)
          refine Run.go rfl rfl rfl (sem_callL [(Value.pointer none), (Value.pointer p16), (Value.int .i64 (0))] (TF.goes_22) rfl rfl (Spec.mono hS fun v h528 hv => ?_))
          obtain ⟨b529, rfl, hS⟩ := hv
          obtain ⟨hT, hF⟩ := hS
          cases b529
          ·have hS := hF rfl; clear hT hF
           refine Run.go rfl rfl rfl (sem_not false rfl ?_)
           refine Run.go rfl rfl rfl (sem_pick true ((Value.bool true)) rfl rfl ?_)
           refine Run.go rfl rfl rfl (sem_move ((Value.bool true)) rfl ?_)
           refine Run.go rfl rfl rfl (sem_move ((Value.pointer none)) rfl ?_)
           refine Run.go rfl rfl rfl (sem_move ((Value.pointer p16)) rfl ?_)
           refine Run.go rfl rfl rfl (sem_callL [(Value.pointer none), (Value.pointer p16), (Value.int .i64 (0))] (TF.goes_56) rfl rfl (Spec.mono hS fun v h530 hv => ?_))
           obtain ⟨b531, rfl, hS⟩ := hv
           obtain ⟨hT, hF⟩ := hS
           cases b531
           ·have hS := hF rfl; clear hT hF
            refine Run.go rfl rfl rfl (sem_not false rfl ?_)
            refine Run.go rfl rfl rfl (sem_pick true ((Value.bool true)) rfl rfl ?_)
            refine Run.go rfl rfl rfl (sem_move ((Value.bool true)) rfl ?_)
            refine Run.go rfl rfl rfl (sem_move ((Value.pointer none)) rfl ?_)
            refine Run.go rfl rfl rfl (sem_move ((Value.pointer p16)) rfl ?_)
            refine Run.go rfl rfl rfl (sem_callL [(Value.pointer none), (Value.pointer p16), (Value.int .i64 (0)), (Value.int .i64 (1))] (TF.goes_45) rfl rfl (Spec.mono hS fun v h532 hv => ?_))
            obtain ⟨b533, rfl, hS⟩ := hv
            obtain ⟨hT, hF⟩ := hS
            cases b533
            ·have hS := hF rfl; clear hT hF
             refine Run.go rfl rfl rfl (sem_not false rfl ?_)
             refine Run.go rfl rfl rfl (sem_pick true ((Value.bool true)) rfl rfl ?_)
             refine Run.go rfl rfl rfl (sem_move ((Value.bool true)) rfl ?_)
             refine Run.go rfl rfl rfl (sem_move ((Value.pointer none)) rfl ?_)
             refine Run.go rfl rfl rfl (sem_callL [(Value.pointer none)] (TF.goes_51) rfl rfl (Spec.mono hS fun v h534 hv => ?_))
             obtain ⟨p535, rfl, hS⟩ := hv
             obtain ⟨hT, hF⟩ := hS
             by_cases hb536 : p535 = none
             ·have hS := hT hb536; clear hT hF
              refine Run.go rfl rfl rfl (sem_ptrNilT p535 (.inl rfl) true rfl rfl TF.ptr_95 hb536 rfl ?_)
              refine Run.go rfl rfl rfl (sem_pick true ((Value.bool true)) rfl rfl ?_)
              refine Run.go rfl rfl rfl (sem_move ((Value.bool true)) rfl ?_)
              refine Run.go rfl rfl rfl (sem_move ((Value.pointer none)) rfl ?_)
              refine Run.go rfl rfl rfl (sem_callL [(Value.pointer none)] (TF.goes_47) rfl rfl (Spec.mono hS fun v h537 hv => ?_))
              obtain ⟨p538, rfl, hS⟩ := hv
              obtain ⟨hT, hF⟩ := hS
              by_cases hb539 : p538 = none
              ·have hS := hT hb539; clear hT hF
               refine Run.go rfl rfl rfl (sem_ptrNilT p538 (.inl rfl) true rfl rfl TF.ptr_28 hb539 rfl ?_)
               refine Run.go rfl rfl rfl (sem_pick true ((Value.bool true)) rfl rfl ?_)
               refine Run.go rfl rfl rfl (sem_move ((Value.bool true)) rfl ?_)
               refine Run.go rfl rfl rfl (sem_move ((Value.pointer none)) rfl ?_)
               refine Run.go rfl rfl rfl (sem_move ((Value.pointer p16)) rfl ?_)
               refine Run.go rfl rfl rfl (sem_callL [(Value.pointer none), (Value.pointer p16), (Value.int .i64 (1))] (TF.goes_48) rfl rfl (Spec.mono hS fun v h540 hv => ?_))
               obtain ⟨i541, rfl, hS⟩ := hv
               refine Run.go rfl rfl rfl (sem_binI .i64 (i541) (0) ((Value.bool ((i541 : Int) == (0)))) rfl rfl rfl ?_)
               refine Run.go rfl rfl rfl (sem_pick true ((Value.bool ((i541 : Int) == (0)))) rfl rfl ?_)
               obtain ⟨h542, hst, hS⟩ := hS
               refine Run.go rfl rfl rfl (sem_store1 ⟨k8, 0, none⟩ ((Value.bool ((i541 : Int) == (0)))) h542 rfl rfl rfl TF.sz_4 hst ?_)
               refine Run.region_end ?_
               obtain ⟨b543, hl0, hS⟩ := hS
               refine Run.ret ⟨.inr rfl, ?_⟩
               exact ⟨⟨k8, 0, none⟩, (Value.bool b543), rfl, loadH1 TF.agg_4 hl0, hS.imp fun h' hq => ⟨(b543), rfl, hq⟩⟩
              ·have hS := hF hb539; clear hT hF
               refine Run.go rfl rfl rfl (sem_ptrNilF p538 (.inl rfl) false rfl rfl TF.ptr_28 hb539 rfl ?_)
               refine Run.go rfl rfl rfl (sem_pick true ((Value.bool false)) rfl rfl ?_)
               refine Run.go rfl rfl rfl (sem_move ((Value.bool false)) rfl ?_)
               refine Run.no rfl rfl rfl ?_
               refine Run.no rfl rfl rfl ?_
               refine Run.no rfl rfl rfl ?_
               refine Run.no rfl rfl rfl ?_
               refine Run.go rfl rfl rfl (sem_pick false ((Value.bool false)) rfl rfl ?_)
               obtain ⟨h544, hst, hS⟩ := hS
               refine Run.go rfl rfl rfl (sem_store1 ⟨k8, 0, none⟩ ((Value.bool false)) h544 rfl rfl rfl TF.sz_4 hst ?_)
               refine Run.region_end ?_
               obtain ⟨b545, hl0, hS⟩ := hS
               refine Run.ret ⟨.inr rfl, ?_⟩
               exact ⟨⟨k8, 0, none⟩, (Value.bool b545), rfl, loadH1 TF.agg_4 hl0, hS.imp fun h' hq => ⟨(b545), rfl, hq⟩⟩
             ·have hS := hF hb536; clear hT hF
              refine Run.go rfl rfl rfl (sem_ptrNilF p535 (.inl rfl) false rfl rfl TF.ptr_95 hb536 rfl ?_)
              refine Run.go rfl rfl rfl (sem_pick true ((Value.bool false)) rfl rfl ?_)
              refine Run.go rfl rfl rfl (sem_move ((Value.bool false)) rfl ?_)
              refine Run.no rfl rfl rfl ?_
              refine Run.no rfl rfl rfl ?_
              refine Run.no rfl rfl rfl ?_
              refine Run.go rfl rfl rfl (sem_pick false ((Value.bool false)) rfl rfl ?_)
              refine Run.go rfl rfl rfl (sem_move ((Value.bool false)) rfl ?_)
              refine Run.no rfl rfl rfl ?_
              refine Run.no rfl rfl rfl ?_
              refine Run.no rfl rfl rfl ?_
              refine Run.no rfl rfl rfl ?_
              refine Run.go rfl rfl rfl (sem_pick false ((Value.bool false)) rfl rfl ?_)
              obtain ⟨h546, hst, hS⟩ := hS
              refine Run.go rfl rfl rfl (sem_store1 ⟨k8, 0, none⟩ ((Value.bool false)) h546 rfl rfl rfl TF.sz_4 hst ?_)
              refine Run.region_end ?_
              obtain ⟨b547, hl0, hS⟩ := hS
              refine Run.ret ⟨.inr rfl, ?_⟩
              exact ⟨⟨k8, 0, none⟩, (Value.bool b547), rfl, loadH1 TF.agg_4 hl0, hS.imp fun h' hq => ⟨(b547), rfl, hq⟩⟩
            ·have hS := hT rfl; clear hT hF
             refine Run.go rfl rfl rfl (sem_not true rfl ?_)
             refine Run.go rfl rfl rfl (sem_pick true ((Value.bool false)) rfl rfl ?_)
             refine Run.go rfl rfl rfl (sem_move ((Value.bool false)) rfl ?_)
             refine Run.no rfl rfl rfl ?_
             refine Run.no rfl rfl rfl ?_
             refine Run.no rfl rfl rfl ?_
             refine Run.go rfl rfl rfl (sem_pick false ((Value.bool false)) rfl rfl ?_)
             refine Run.go rfl rfl rfl (sem_move ((Value.bool false)) rfl ?_)
             refine Run.no rfl rfl rfl ?_
             refine Run.no rfl rfl rfl ?_
             refine Run.no rfl rfl rfl ?_
             refine Run.go rfl rfl rfl (sem_pick false ((Value.bool false)) rfl rfl ?_)
             refine Run.go rfl rfl rfl (sem_move ((Value.bool false)) rfl ?_)
             refine Run.no rfl rfl rfl ?_
             refine Run.no rfl rfl rfl ?_
             refine Run.no rfl rfl rfl ?_
             refine Run.no rfl rfl rfl ?_
             refine Run.go rfl rfl rfl (sem_pick false ((Value.bool false)) rfl rfl ?_)
             obtain ⟨h548, hst, hS⟩ := hS
             refine Run.go rfl rfl rfl (sem_store1 ⟨k8, 0, none⟩ ((Value.bool false)) h548 rfl rfl rfl TF.sz_4 hst ?_)
             refine Run.region_end ?_
             obtain ⟨b549, hl0, hS⟩ := hS
             refine Run.ret ⟨.inr rfl, ?_⟩
             exact ⟨⟨k8, 0, none⟩, (Value.bool b549), rfl, loadH1 TF.agg_4 hl0, hS.imp fun h' hq => ⟨(b549), rfl, hq⟩⟩
           ·have hS := hT rfl; clear hT hF
            refine Run.go rfl rfl rfl (sem_not true rfl ?_)
            refine Run.go rfl rfl rfl (sem_pick true ((Value.bool false)) rfl rfl ?_)
            refine Run.go rfl rfl rfl (sem_move ((Value.bool false)) rfl ?_)
            refine Run.no rfl rfl rfl ?_
            refine Run.no rfl rfl rfl ?_
            refine Run.no rfl rfl rfl ?_
            refine Run.no rfl rfl rfl ?_
            refine Run.go rfl rfl rfl (sem_pick false ((Value.bool false)) rfl rfl ?_)
            refine Run.go rfl rfl rfl (sem_move ((Value.bool false)) rfl ?_)
            refine Run.no rfl rfl rfl ?_
            refine Run.no rfl rfl rfl ?_
            refine Run.no rfl rfl rfl ?_
            refine Run.go rfl rfl rfl (sem_pick false ((Value.bool false)) rfl rfl ?_)
            refine Run.go rfl rfl rfl (sem_move ((Value.bool false)) rfl ?_)
            refine Run.no rfl rfl rfl ?_
            refine Run.no rfl rfl rfl ?_
            refine Run.no rfl rfl rfl ?_
            refine Run.go rfl rfl rfl (sem_pick false ((Value.bool false)) rfl rfl ?_)
            refine Run.go rfl rfl rfl (sem_move ((Value.bool false)) rfl ?_)
            refine Run.no rfl rfl rfl ?_
            refine Run.no rfl rfl rfl ?_
            refine Run.no rfl rfl rfl ?_
            refine Run.no rfl rfl rfl ?_
            refine Run.go rfl rfl rfl (sem_pick false ((Value.bool false)) rfl rfl ?_)
            obtain ⟨h550, hst, hS⟩ := hS
            refine Run.go rfl rfl rfl (sem_store1 ⟨k8, 0, none⟩ ((Value.bool false)) h550 rfl rfl rfl TF.sz_4 hst ?_)
            refine Run.region_end ?_
            obtain ⟨b551, hl0, hS⟩ := hS
            refine Run.ret ⟨.inr rfl, ?_⟩
            exact ⟨⟨k8, 0, none⟩, (Value.bool b551), rfl, loadH1 TF.agg_4 hl0, hS.imp fun h' hq => ⟨(b551), rfl, hq⟩⟩
          ·have hS := hT rfl; clear hT hF
           refine Run.go rfl rfl rfl (sem_not true rfl ?_)
           refine Run.go rfl rfl rfl (sem_pick true ((Value.bool false)) rfl rfl ?_)
           refine Run.go rfl rfl rfl (sem_move ((Value.bool false)) rfl ?_)
           refine Run.no rfl rfl rfl ?_
           refine Run.no rfl rfl rfl ?_
           refine Run.no rfl rfl rfl ?_
           refine Run.no rfl rfl rfl ?_
           refine Run.go rfl rfl rfl (sem_pick false ((Value.bool false)) rfl rfl ?_)
           refine Run.go rfl rfl rfl (sem_move ((Value.bool false)) rfl ?_)
           refine Run.no rfl rfl rfl ?_
           refine Run.no rfl rfl rfl ?_
           refine Run.no rfl rfl rfl ?_
           refine Run.no rfl rfl rfl ?_
           refine Run.go rfl rfl rfl (sem_pick false ((Value.bool false)) rfl rfl ?_)
           refine Run.go rfl rfl rfl (sem_move ((Value.bool false)) rfl ?_)
           refine Run.no rfl rfl rfl ?_
           refine Run.no rfl rfl rfl ?_
           refine Run.no rfl rfl rfl ?_
           refine Run.go rfl rfl rfl (sem_pick false ((Value.bool false)) rfl rfl ?_)
           refine Run.go rfl rfl rfl (sem_move ((Value.bool false)) rfl ?_)
           refine Run.no rfl rfl rfl ?_
           refine Run.no rfl rfl rfl ?_
           refine Run.no rfl rfl rfl ?_
           refine Run.go rfl rfl rfl (sem_pick false ((Value.bool false)) rfl rfl ?_)
           refine Run.go rfl rfl rfl (sem_move ((Value.bool false)) rfl ?_)
           refine Run.no rfl rfl rfl ?_
           refine Run.no rfl rfl rfl ?_
           refine Run.no rfl rfl rfl ?_
           refine Run.no rfl rfl rfl ?_
           refine Run.go rfl rfl rfl (sem_pick false ((Value.bool false)) rfl rfl ?_)
           obtain ⟨h552, hst, hS⟩ := hS
           refine Run.go rfl rfl rfl (sem_store1 ⟨k8, 0, none⟩ ((Value.bool false)) h552 rfl rfl rfl TF.sz_4 hst ?_)
           refine Run.region_end ?_
           obtain ⟨b553, hl0, hS⟩ := hS
           refine Run.ret ⟨.inr rfl, ?_⟩
           exact ⟨⟨k8, 0, none⟩, (Value.bool b553), rfl, loadH1 TF.agg_4 hl0, hS.imp fun h' hq => ⟨(b553), rfl, hq⟩⟩
         ·have hS := hT rfl; clear hT hF
          refine Run.go rfl rfl rfl (sem_not true rfl ?_)
          refine Run.go rfl rfl rfl (sem_pick true ((Value.bool false)) rfl rfl ?_)
          refine Run.go rfl rfl rfl (sem_move ((Value.bool false)) rfl ?_)
          refine Run.no rfl rfl rfl ?_
          refine Run.no rfl rfl rfl ?_
          refine Run.no rfl rfl rfl ?_
          refine Run.no rfl rfl rfl ?_
          refine Run.go rfl rfl rfl (sem_pick false ((Value.bool false)) rfl rfl ?_)
          refine Run.go rfl rfl rfl (sem_move ((Value.bool false)) rfl ?_)
          refine Run.no rfl rfl rfl ?_
          refine Run.no rfl rfl rfl ?_
          refine Run.no rfl rfl rfl ?_
          refine Run.no rfl rfl rfl ?_
          refine Run.go rfl rfl rfl (sem_pick false ((Value.bool false)) rfl rfl ?_)
          refine Run.go rfl rfl rfl (sem_move ((Value.bool false)) rfl ?_)
          refine Run.no rfl rfl rfl ?_
          refine Run.no rfl rfl rfl ?_
          refine Run.no rfl rfl rfl ?_
          refine Run.no rfl rfl rfl ?_
          refine Run.go rfl rfl rfl (sem_pick false ((Value.bool false)) rfl rfl ?_)
          refine Run.go rfl rfl rfl (sem_move ((Value.bool false)) rfl ?_)
          refine Run.no rfl rfl rfl ?_
          refine Run.no rfl rfl rfl ?_
          refine Run.no rfl rfl rfl ?_
          refine Run.go rfl rfl rfl (sem_pick false ((Value.bool false)) rfl rfl ?_)
          refine Run.go rfl rfl rfl (sem_move ((Value.bool false)) rfl ?_)
          refine Run.no rfl rfl rfl ?_
          refine Run.no rfl rfl rfl ?_
          refine Run.no rfl rfl rfl ?_
          refine Run.go rfl rfl rfl (sem_pick false ((Value.bool false)) rfl rfl ?_)
          refine Run.go rfl rfl rfl (sem_move ((Value.bool false)) rfl ?_)
          refine Run.no rfl rfl rfl ?_
          refine Run.no rfl rfl rfl ?_
          refine Run.no rfl rfl rfl ?_
          refine Run.no rfl rfl rfl ?_
          refine Run.go rfl rfl rfl (sem_pick false ((Value.bool false)) rfl rfl ?_)
          obtain ⟨h554, hst, hS⟩ := hS
          refine Run.go rfl rfl rfl (sem_store1 ⟨k8, 0, none⟩ ((Value.bool false)) h554 rfl rfl rfl TF.sz_4 hst ?_)
          refine Run.region_end ?_
          obtain ⟨b555, hl0, hS⟩ := hS
          refine Run.ret ⟨.inr rfl, ?_⟩
          exact ⟨⟨k8, 0, none⟩, (Value.bool b555), rfl, loadH1 TF.agg_4 hl0, hS.imp fun h' hq => ⟨(b555), rfl, hq⟩⟩
        ·have hS := hT rfl; clear hT hF
         refine Run.go rfl rfl rfl (sem_not true rfl ?_)
         refine Run.go rfl rfl rfl (sem_move ((Value.bool false)) rfl ?_)
         refine Run.no rfl rfl rfl ?_
         refine Run.no rfl rfl rfl ?_
         refine Run.no rfl rfl rfl ?_
         refine Run.no rfl rfl rfl ?_
         refine Run.go rfl rfl rfl (sem_pick false ((Value.bool false)) rfl rfl ?_)
         refine Run.go rfl rfl rfl (sem_move ((Value.bool false)) rfl ?_)
         refine Run.no rfl rfl rfl ?_
         refine Run.no rfl rfl rfl ?_
         refine Run.no rfl rfl rfl ?_
         refine Run.no rfl rfl rfl ?_
         refine Run.go rfl rfl rfl (sem_pick false ((Value.bool false)) rfl rfl ?_)
         refine Run.go rfl rfl rfl (sem_move ((Value.bool false)) rfl ?_)
         refine Run.no rfl rfl rfl ?_
         refine Run.no rfl rfl rfl ?_
         refine Run.no rfl rfl rfl ?_
         refine Run.no rfl rfl rfl ?_
         refine Run.go rfl rfl rfl (sem_pick false ((Value.bool false)) rfl rfl ?_)
         refine Run.go rfl rfl rfl (sem_move ((Value.bool false)) rfl ?_)
         refine Run.no rfl rfl rfl ?_
         refine Run.no rfl rfl rfl ?_
         refine Run.no rfl rfl rfl ?_
         refine Run.no rfl rfl rfl ?_
         refine Run.go rfl rfl rfl (sem_pick false ((Value.bool false)) rfl rfl ?_)
         refine Run.go rfl rfl rfl (sem_move ((Value.bool false)) rfl ?_)
         refine Run.no rfl rfl rfl ?_
         refine Run.no rfl rfl rfl ?_
         refine Run.no rfl rfl rfl ?_
         refine Run.go rfl rfl rfl (sem_pick false ((Value.bool false)) rfl rfl ?_)
         refine Run.go rfl rfl rfl (sem_move ((Value.bool false)) rfl ?_)
         refine Run.no rfl rfl rfl ?_
         refine Run.no rfl rfl rfl ?_
         refine Run.no rfl rfl rfl ?_
         refine Run.go rfl rfl rfl (sem_pick false ((Value.bool false)) rfl rfl ?_)
         refine Run.go rfl rfl rfl (sem_move ((Value.bool false)) rfl ?_)
         refine Run.no rfl rfl rfl ?_
         refine Run.no rfl rfl rfl ?_
         refine Run.no rfl rfl rfl ?_
         refine Run.no rfl rfl rfl ?_
         refine Run.go rfl rfl rfl (sem_pick false ((Value.bool false)) rfl rfl ?_)
         obtain ⟨h556, hst, hS⟩ := hS
         refine Run.go rfl rfl rfl (sem_store1 ⟨k8, 0, none⟩ ((Value.bool false)) h556 rfl rfl rfl TF.sz_4 hst ?_)
         refine Run.region_end ?_
         obtain ⟨b557, hl0, hS⟩ := hS
         refine Run.ret ⟨.inr rfl, ?_⟩
         exact ⟨⟨k8, 0, none⟩, (Value.bool b557), rfl, loadH1 TF.agg_4 hl0, hS.imp fun h' hq => ⟨(b557), rfl, hq⟩⟩
       refine Run.seq ?_
       obtain ⟨i558, hl, hS⟩ := hS
       have f559 := hl
       skip
       refine Run.drawM (fun h' => cellH B h' ⟨k401, 0, none⟩ = some (Value.int .i64 (i558)) ∧ True) [] ⟨[0, 0, 2, 4, 9, 24, 32, 96, 32, 416, 544, 1152, 2048, 2048, 10240, 18432, 34816, 67584, 137216, 264192, 526336, 1048576, 3145728], [8388607, 8388607, 8388605, 8388603, 8388598, 8388591, 8388575, 8388511, 8388575, 8388191, 8388063, 8387583, 8386559, 8386559, 8378367, 8370175, 8353791, 8321023, 8251391, 8124415, 7864319, 7340031, 5242879], [0, 0, 0, 0, 0, 0, 0, 0, 0, 0, 0, 0, 0, 0, 0, 0, 0, 0, 0, 0, 0, 0, 0], 0⟩ (.q 0 (.q 1 (.x 2 (.x 3 (.q 4 (.q 5 (.q 6 (.q 8 (.x 7 (.q 9 (.q 10 (.q 11 (.x 12 (.x 13 (.q 14 (.q 15 (.q 16 (.x 17 (.q 18 (.q 19 (.q 20 (.q 21 (.q 22 .nil))))) .no)))) .no) (.x 13 (.q 14 (.q 15 (.q 16 (.x 12 (.x 17 (.q 18 (.q 19 (.q 20 (.q 21 (.q 22 .nil))))) .no) (.x 17 (.x 12 (.q 18 (.q 19 (.q 20 (.q 21 (.q 22 .nil))))) .no) .no))))) .no))))) .no))))) .no) .no))) TF.mixed (by kernel_rfl) ⟨f559, trivial⟩ ?_
       refine RunT.quiet rfl rfl rfl (fun h' hC => sem_load1 ⟨k401, 0, none⟩ ((Value.int .i64 (i558))) rfl TF.agg_3 hC.1 ⟨rfl, rfl⟩) ?_
       refine RunT.quiet rfl rfl rfl (fun h' hC => sem_move ((Value.pointer p17)) rfl ⟨rfl, rfl⟩) ?_
       refine ⟨?_, trivial⟩
       refine OpH.go rfl rfl rfl (sem_callL [(Value.pointer p17)] (TF.goes_51) rfl rfl (Spec.mono hS fun v h561 hv => ?_))
       obtain ⟨p562, rfl, hS⟩ := hv
       obtain ⟨g563, hS⟩ := hS
       refine ⟨fun _ => ⟨g563, trivial⟩, ?_⟩
       refine ⟨?_, trivial⟩
       refine OpH.go rfl rfl rfl (sem_callL [(Value.pointer p562)] (TF.goes_53) rfl rfl (Spec.mono hS fun v h564 hv => ?_))
       obtain ⟨i565, rfl, hS⟩ := hv
       obtain ⟨g566, hS⟩ := hS
       refine ⟨fun _ => ⟨g566, trivial⟩, ?_⟩
       obtain ⟨hT, hF⟩ := hS
       by_cases hb567 : (i558 : Int) = i565
       ·have hS := hT hb567; clear hT hF
        refine RunT.quiet rfl rfl rfl (fun h' hC => sem_binI .i64 (i558) (i565) (.bool false) rfl rfl (binI_neq_t hb567) ⟨rfl, rfl⟩) ?_
        refine RunT.quiet rfl rfl rfl (fun h' hC => sem_move ((Value.bool false)) rfl ⟨rfl, rfl⟩) ?_
        refine RunT.quiet rfl rfl rfl (fun h' hC => sem_move ((Value.pointer p16)) rfl ⟨rfl, rfl⟩) ?_
        refine RunT.quiet rfl rfl rfl (fun h' hC => sem_move ((Value.string s398)) rfl ⟨rfl, rfl⟩) ?_
        refine ⟨?_, trivial⟩
        refine OpH.go rfl rfl rfl (sem_callL [(Value.pointer p16)] (TF.goes_50) rfl rfl (Spec.mono hS fun v h568 hv => ?_))
        obtain ⟨s569, rfl, hS⟩ := hv
        obtain ⟨g570, hS⟩ := hS
        refine ⟨fun _ => ⟨g570, trivial⟩, ?_⟩
        obtain ⟨hT, hF⟩ := hS
        by_cases hb571 : s569 = s398
        ·have hS := hT hb571; clear hT hF
         refine RunT.quiet rfl rfl rfl (fun h' hC => sem_strNeT s569 s398 rfl rfl hb571 ⟨rfl, rfl⟩) ?_
         refine RunT.quiet rfl rfl rfl (fun h' hC => sem_pick false ((Value.bool false)) rfl rfl ⟨rfl, rfl⟩) ?_
         refine RunT.quiet rfl rfl rfl (fun h' hC => sem_move ((Value.bool false)) rfl ⟨rfl, rfl⟩) ?_
         refine RunT.joinJ (t := (.q 18 (.q 19 (.q 20 (.q 21 (.q 22 .nil)))))) (fun e h595 => ∃ b591 : Bool, ∃ s592 : ByteArray, ∃ b593 : Bool, ∃ s594 : ByteArray, Agree [(4, (Value.pointer (some ⟨k8, 0, none⟩))), (5, (Value.pointer p16)), (18, (Value.pointer none)), (20, (Value.bool true)), (127, (Value.bool false)), (128, (Value.agg #[(Value.bool b591), (Value.string s592)])), (133, (Value.agg #[(Value.bool b593), (Value.string s594)]))] e ∧ cellH B h595 ⟨k401, 0, none⟩ = some (Value.int .i64 (i558)) ∧ S_countermandlaw14_SheetDoes_J24 B k8 p16 k401 i558 b591 s592 b593 s594 h595 Q) ?_ fun j590 => ?_
         ·rintro e h595 ⟨b591, s592, b593, s594, hag, g596, hS⟩
          refine RunT.env hag ?_; clear hag
          obtain ⟨hT, hF⟩ := hS
          by_cases hb597 : eqL [(Value.bool b591), (Value.string s592)] [(Value.bool b593), (Value.string s594)] = true
          ·have hS := hT hb597; clear hT hF
           refine RunT.quiet rfl rfl rfl (fun h' hC => sem_aggEq [(Value.bool b591), (Value.string s592)] [(Value.bool b593), (Value.string s594)] _ (false) (.inr rfl) rfl rfl TF.agg_76 TF.flat_76 TF.eqg_76 ⟨⟨_, rfl⟩, ⟨_, rfl⟩, trivial⟩ ⟨⟨_, rfl⟩, ⟨_, rfl⟩, trivial⟩ (eqLT_neq hb597) ⟨rfl, rfl⟩) ?_
           refine RunT.quiet rfl rfl rfl (fun h' hC => sem_pick false ((Value.bool false)) rfl rfl ⟨rfl, rfl⟩) ?_
           refine RunT.quiet rfl rfl rfl (fun h' hC => sem_move ((Value.bool false)) rfl ⟨rfl, rfl⟩) ?_
           refine RunT.quiet rfl rfl rfl (fun h' hC => sem_move ((Value.bool true)) rfl ⟨rfl, rfl⟩) ?_
           refine RunT.quiet rfl rfl rfl (fun h' hC => sem_pick false ((Value.bool true)) rfl rfl ⟨rfl, rfl⟩) ?_
           refine Run.condT rfl ?_
           refine Run.seq ?_
           refine Run.ops0 (idx := [0]) rfl ?_
           obtain ⟨h598, hst, hS⟩ := hS
           refine Run.go rfl rfl rfl (sem_store1 ⟨k8, 0, none⟩ ((Value.bool false)) h598 rfl rfl rfl TF.sz_4 hst ?_)
           refine Run.region_end ?_
           obtain ⟨b599, hl0, hS⟩ := hS
           refine Run.ret ⟨.inr rfl, ?_⟩
           exact ⟨⟨k8, 0, none⟩, (Value.bool b599), rfl, loadH1 TF.agg_4 hl0, hS.imp fun h' hq => ⟨(b599), rfl, hq⟩⟩
          ·have hS := hF hb597; clear hT hF
           refine RunT.quiet rfl rfl rfl (fun h' hC => sem_aggEq [(Value.bool b591), (Value.string s592)] [(Value.bool b593), (Value.string s594)] _ (true) (.inr rfl) rfl rfl TF.agg_76 TF.flat_76 TF.eqg_76 ⟨⟨_, rfl⟩, ⟨_, rfl⟩, trivial⟩ ⟨⟨_, rfl⟩, ⟨_, rfl⟩, trivial⟩ (eqLF_neq hb597) ⟨rfl, rfl⟩) ?_
           refine RunT.quiet rfl rfl rfl (fun h' hC => sem_pick false ((Value.bool true)) rfl rfl ⟨rfl, rfl⟩) ?_
           refine RunT.quiet rfl rfl rfl (fun h' hC => sem_move ((Value.bool true)) rfl ⟨rfl, rfl⟩) ?_
           refine RunT.skip rfl rfl rfl ?_
           refine RunT.quiet rfl rfl rfl (fun h' hC => sem_pick true ((Value.bool true)) rfl rfl ⟨rfl, rfl⟩) ?_
           refine Run.condT rfl ?_
           refine Run.seq ?_
           refine Run.ops0 (idx := [0]) rfl ?_
           obtain ⟨h600, hst, hS⟩ := hS
           refine Run.go rfl rfl rfl (sem_store1 ⟨k8, 0, none⟩ ((Value.bool false)) h600 rfl rfl rfl TF.sz_4 hst ?_)
           refine Run.region_end ?_
           obtain ⟨b601, hl0, hS⟩ := hS
           refine Run.ret ⟨.inr rfl, ?_⟩
           exact ⟨⟨k8, 0, none⟩, (Value.bool b601), rfl, loadH1 TF.agg_4 hl0, hS.imp fun h' hq => ⟨(b601), rfl, hq⟩⟩
         refine ⟨?_, ?_, trivial⟩
         ·have hS := hS.1
          obtain ⟨b602, s603, hl, hS⟩ := hS
          refine OpH.go rfl rfl rfl (sem_loadN ⟨k519, 0, none⟩ [(Value.bool b602), (Value.string s603)] rfl TF.agg_41 TF.sz_41 hl ?_)
          refine ⟨fun _ => ⟨g570, trivial⟩, ?_⟩
          refine ⟨?_, trivial⟩
          obtain ⟨p604, hl, hS⟩ := hS
          refine OpH.go rfl rfl rfl (sem_load1 ⟨k392, 0, none⟩ ((Value.pointer p604)) rfl TF.agg_72 hl ?_)
          refine ⟨fun _ => ⟨g570, trivial⟩, ?_⟩
          obtain ⟨A605, e606, hS⟩ := hS
          refine RunT.quiet rfl rfl rfl (fun h' hC => sem_nilCheck A605 (congrArg Value.pointer e606) ⟨rfl, rfl⟩) ?_
          refine RunT.quiet rfl rfl rfl (fun h' hC => sem_fieldAddr A605 0 rfl TF.fld_86_0 ⟨rfl, rfl⟩) ?_
          obtain ⟨hi0, hi1, hS⟩ := hS
          refine RunT.quiet rfl rfl rfl (fun h' hC => sem_indexAddrA A605 .i64 (0) rfl rfl TF.arr_77 hi0 hi1 ⟨rfl, rfl⟩) ?_
          refine ⟨?_, trivial⟩
          obtain ⟨b607, s608, hl, hS⟩ := hS
          refine OpH.go rfl rfl rfl (sem_loadN A605 [(Value.bool b607), (Value.string s608)] rfl TF.agg_76 TF.sz_76 hl ?_)
          refine ⟨fun _ => ⟨g570, trivial⟩, ?_⟩
          exact j590 _ _ ⟨(b602), s603, (b607), s608, ⟨rfl, rfl, rfl, rfl, rfl, rfl, rfl, trivial⟩, g570, hS⟩
         ·have hS := hS.2
          obtain ⟨p609, hl, hS⟩ := hS
          refine OpH.go rfl rfl rfl (sem_load1 ⟨k392, 0, none⟩ ((Value.pointer p609)) rfl TF.agg_72 hl ?_)
          refine ⟨fun _ => ⟨g570, trivial⟩, ?_⟩
          obtain ⟨A610, e611, hS⟩ := hS
          refine RunT.quiet rfl rfl rfl (fun h' hC => sem_nilCheck A610 (congrArg Value.pointer e611) ⟨rfl, rfl⟩) ?_
          refine RunT.quiet rfl rfl rfl (fun h' hC => sem_fieldAddr A610 0 rfl TF.fld_86_0 ⟨rfl, rfl⟩) ?_
          obtain ⟨hi0, hi1, hS⟩ := hS
          refine RunT.quiet rfl rfl rfl (fun h' hC => sem_indexAddrA A610 .i64 (0) rfl rfl TF.arr_77 hi0 hi1 ⟨rfl, rfl⟩) ?_
          refine ⟨?_, ?_, trivial⟩
          ·have hS := hS.1
           obtain ⟨b612, s613, hl, hS⟩ := hS
           refine OpH.go rfl rfl rfl (sem_loadN ⟨k519, 0, none⟩ [(Value.bool b612), (Value.string s613)] rfl TF.agg_41 TF.sz_41 hl ?_)
           refine ⟨fun _ => ⟨g570, trivial⟩, ?_⟩
           refine ⟨?_, trivial⟩
           obtain ⟨b614, s615, hl, hS⟩ := hS
           refine OpH.go rfl rfl rfl (sem_loadN A610 [(Value.bool b614), (Value.string s615)] rfl TF.agg_76 TF.sz_76 hl ?_)
           refine ⟨fun _ => ⟨g570, trivial⟩, ?_⟩
           exact j590 _ _ ⟨(b612), s613, (b614), s615, ⟨rfl, rfl, rfl, rfl, rfl, rfl, rfl, trivial⟩, g570, hS⟩
          ·have hS := hS.2
           obtain ⟨b616, s617, hl, hS⟩ := hS
           refine OpH.go rfl rfl rfl (sem_loadN A610 [(Value.bool b616), (Value.string s617)] rfl TF.agg_76 TF.sz_76 hl ?_)
           refine ⟨fun _ => ⟨g570, trivial⟩, ?_⟩
           refine ⟨?_, trivial⟩
           obtain ⟨b618, s619, hl, hS⟩ := hS
           refine OpH.go rfl rfl rfl (sem_loadN ⟨k519, 0, none⟩ [(Value.bool b618), (Value.string s619)] rfl TF.agg_41 TF.sz_41 hl ?_)
           refine ⟨fun _ => ⟨g570, trivial⟩, ?_⟩
           exact j590 _ _ ⟨(b618), s619, (b616), s617, ⟨rfl, rfl, rfl, rfl, rfl, rfl, rfl, trivial⟩, g570, hS⟩
        ·have hS := hF hb571; clear hT hF
         refine RunT.quiet rfl rfl rfl (fun h' hC => sem_strNeF s569 s398 rfl rfl hb571 ⟨rfl, rfl⟩) ?_
         refine RunT.quiet rfl rfl rfl (fun h' hC => sem_pick false ((Value.bool true)) rfl rfl ⟨rfl, rfl⟩) ?_
         refine RunT.quiet rfl rfl rfl (fun h' hC => sem_move ((Value.bool true)) rfl ⟨rfl, rfl⟩) ?_
         refine RunT.joinJ (t := (.q 18 (.q 19 (.q 20 (.q 21 (.q 22 .nil)))))) (fun e h621 => Agree [(4, (Value.pointer (some ⟨k8, 0, none⟩))), (5, (Value.pointer p16)), (18, (Value.pointer none)), (20, (Value.bool true)), (127, (Value.bool true))] e ∧ cellH B h621 ⟨k401, 0, none⟩ = some (Value.int .i64 (i558)) ∧ S_countermandlaw14_SheetDoes_J25 B k8 p16 k401 i558 h621 Q) ?_ fun j620 => ?_
         ·rintro e h621 ⟨hag, g622, hS⟩
          refine RunT.env hag ?_; clear hag
          refine RunT.skip rfl rfl rfl ?_
          refine RunT.quiet rfl rfl rfl (fun h' hC => sem_pick true ((Value.bool true)) rfl rfl ⟨rfl, rfl⟩) ?_
          refine RunT.quiet rfl rfl rfl (fun h' hC => sem_move ((Value.bool true)) rfl ⟨rfl, rfl⟩) ?_
          refine RunT.skip rfl rfl rfl ?_
          refine RunT.quiet rfl rfl rfl (fun h' hC => sem_pick true ((Value.bool true)) rfl rfl ⟨rfl, rfl⟩) ?_
          refine Run.condT rfl ?_
          refine Run.seq ?_
          refine Run.ops0 (idx := [0]) rfl ?_
          obtain ⟨h623, hst, hS⟩ := hS
          refine Run.go rfl rfl rfl (sem_store1 ⟨k8, 0, none⟩ ((Value.bool false)) h623 rfl rfl rfl TF.sz_4 hst ?_)
          refine Run.region_end ?_
          obtain ⟨b624, hl0, hS⟩ := hS
          refine Run.ret ⟨.inr rfl, ?_⟩
          exact ⟨⟨k8, 0, none⟩, (Value.bool b624), rfl, loadH1 TF.agg_4 hl0, hS.imp fun h' hq => ⟨(b624), rfl, hq⟩⟩
         refine ⟨?_, ?_, trivial⟩
         ·have hS := hS.1
          refine OpH.no rfl rfl rfl ⟨fun _ => ⟨g570, trivial⟩, ?_⟩
          refine ⟨?_, trivial⟩
          refine OpH.no rfl rfl rfl ⟨fun _ => ⟨g570, trivial⟩, ?_⟩
          refine RunT.skip rfl rfl rfl ?_
          refine RunT.skip rfl rfl rfl ?_
          refine RunT.skip rfl rfl rfl ?_
          refine ⟨?_, trivial⟩
          refine OpH.no rfl rfl rfl ⟨fun _ => ⟨g570, trivial⟩, ?_⟩
          exact j620 _ _ ⟨⟨rfl, rfl, rfl, rfl, rfl, trivial⟩, g570, hS⟩
         ·have hS := hS.2
          refine OpH.no rfl rfl rfl ⟨fun _ => ⟨g570, trivial⟩, ?_⟩
          refine RunT.skip rfl rfl rfl ?_
          refine RunT.skip rfl rfl rfl ?_
          refine RunT.skip rfl rfl rfl ?_
          refine ⟨?_, ?_, trivial⟩
          ·have hS := hS.1
           refine OpH.no rfl rfl rfl ⟨fun _ => ⟨g570, trivial⟩, ?_⟩
           refine ⟨?_, trivial⟩
           refine OpH.no rfl rfl rfl ⟨fun _ => ⟨g570, trivial⟩, ?_⟩
           exact j620 _ _ ⟨⟨rfl, rfl, rfl, rfl, rfl, trivial⟩, g570, hS⟩
          ·have hS := hS.2
           refine OpH.no rfl rfl rfl ⟨fun _ => ⟨g570, trivial⟩, ?_⟩
           refine ⟨?_, trivial⟩
           refine OpH.no rfl rfl rfl ⟨fun _ => ⟨g570, trivial⟩, ?_⟩
           exact j620 _ _ ⟨⟨rfl, rfl, rfl, rfl, rfl, trivial⟩, g570, hS⟩
       ·have hS := hF hb567; clear hT hF
        refine RunT.quiet rfl rfl rfl (fun h' hC => sem_binI .i64 (i558) (i565) (.bool true) rfl rfl (binI_neq_f hb567) ⟨rfl, rfl⟩) ?_
        refine RunT.quiet rfl rfl rfl (fun h' hC => sem_move ((Value.bool true)) rfl ⟨rfl, rfl⟩) ?_
        refine RunT.skip rfl rfl rfl ?_
        refine RunT.skip rfl rfl rfl ?_
        refine ⟨?_, trivial⟩
        refine OpH.no rfl rfl rfl ⟨fun _ => ⟨g566, trivial⟩, ?_⟩
        refine RunT.skip rfl rfl rfl ?_
        refine RunT.quiet rfl rfl rfl (fun h' hC => sem_pick true ((Value.bool true)) rfl rfl ⟨rfl, rfl⟩) ?_
        refine RunT.quiet rfl rfl rfl (fun h' hC => sem_move ((Value.bool true)) rfl ⟨rfl, rfl⟩) ?_
        refine RunT.joinJ (t := (.q 18 (.q 19 (.q 20 (.q 21 (.q 22 .nil)))))) (fun e h626 => Agree [(4, (Value.pointer (some ⟨k8, 0, none⟩))), (5, (Value.pointer p16)), (18, (Value.pointer none)), (20, (Value.bool true)), (127, (Value.bool true))] e ∧ cellH B h626 ⟨k401, 0, none⟩ = some (Value.int .i64 (i558)) ∧ S_countermandlaw14_SheetDoes_J26 B k8 p16 k401 i558 h626 Q) ?_ fun j625 => ?_
        ·rintro e h626 ⟨hag, g627, hS⟩
         refine RunT.env hag ?_; clear hag
         refine RunT.skip rfl rfl rfl ?_
         refine RunT.quiet rfl rfl rfl (fun h' hC => sem_pick true ((Value.bool true)) rfl rfl ⟨rfl, rfl⟩) ?_
         refine RunT.quiet rfl rfl rfl (fun h' hC => sem_move ((Value.bool true)) rfl ⟨rfl, rfl⟩) ?_
         refine RunT.skip rfl rfl rfl ?_
         refine RunT.quiet rfl rfl rfl (fun h' hC => sem_pick true ((Value.bool true)) rfl rfl ⟨rfl, rfl⟩) ?_
         refine Run.condT rfl ?_
         refine Run.seq ?_
         refine Run.ops0 (idx := [0]) rfl ?_
         obtain ⟨h628, hst, hS⟩ := hS
         refine Run.go rfl rfl rfl (sem_store1 ⟨k8, 0, none⟩ ((Value.bool false)) h628 rfl rfl rfl TF.sz_4 hst ?_)
         refine Run.region_end ?_
         obtain ⟨b629, hl0, hS⟩ := hS
         refine Run.ret ⟨.inr rfl, ?_⟩
         exact ⟨⟨k8, 0, none⟩, (Value.bool b629), rfl, loadH1 TF.agg_4 hl0, hS.imp fun h' hq => ⟨(b629), rfl, hq⟩⟩
        refine ⟨?_, ?_, trivial⟩
        ·have hS := hS.1
         refine OpH.no rfl rfl rfl ⟨fun _ => ⟨g566, trivial⟩, ?_⟩
         refine ⟨?_, trivial⟩
         refine OpH.no rfl rfl rfl ⟨fun _ => ⟨g566, trivial⟩, ?_⟩
         refine RunT.skip rfl rfl rfl ?_
         refine RunT.skip rfl rfl rfl ?_
         refine RunT.skip rfl rfl rfl ?_
         refine ⟨?_, trivial⟩
         refine OpH.no rfl rfl rfl ⟨fun _ => ⟨g566, trivial⟩, ?_⟩
         exact j625 _ _ ⟨⟨rfl, rfl, rfl, rfl, rfl, trivial⟩, g566, hS⟩
        ·have hS := hS.2
         refine OpH.no rfl rfl rfl ⟨fun _ => ⟨g566, trivial⟩, ?_⟩
         refine RunT.skip rfl rfl rfl ?_
         refine RunT.skip rfl rfl rfl ?_
         refine RunT.skip rfl rfl rfl ?_
         refine ⟨?_, ?_, trivial⟩
         ·have hS := hS.1
          refine OpH.no rfl rfl rfl ⟨fun _ => ⟨g566, trivial⟩, ?_⟩
          refine ⟨?_, trivial⟩
          refine OpH.no rfl rfl rfl ⟨fun _ => ⟨g566, trivial⟩, ?_⟩
          exact j625 _ _ ⟨⟨rfl, rfl, rfl, rfl, rfl, trivial⟩, g566, hS⟩
         ·have hS := hS.2
          refine OpH.no rfl rfl rfl ⟨fun _ => ⟨g566, trivial⟩, ?_⟩
          refine ⟨?_, trivial⟩
          refine OpH.no rfl rfl rfl ⟨fun _ => ⟨g566, trivial⟩, ?_⟩
          exact j625 _ _ ⟨⟨rfl, rfl, rfl, rfl, rfl, trivial⟩, g566, hS⟩
     refine Run.seq ?_
     refine Run.ops0 (idx := [0, 1, 2]) rfl ?_
     refine Run.go rfl rfl rfl (sem_move ((Value.pointer p17)) rfl ?_)
     refine Run.go rfl rfl rfl (sem_callL [(Value.pointer p17)] (TF.goes_51) rfl rfl (Spec.mono hS fun v h630 hv => ?_))
     obtain ⟨p631, rfl, hS⟩ := hv
     refine Run.go rfl rfl rfl (sem_callL [(Value.pointer p631)] (TF.goes_52) rfl rfl (Spec.mono hS fun v633 h632 hv => ?_))
     obtain ⟨_, rfl, hS⟩ := hv
     refine Run.region_end ?_
     refine Run.block ?_
     obtain ⟨xs641, G637, J640, hit, hins, hG, h0, hS, hR⟩ := hS
     refine Run.of_fin (h0.imp fun h' h0 => ?_)
     refine Run.range (v633) (xs641.map (fun x : Int × Bool × ByteArray => [(Value.int .i64 (x.1)), (Value.agg #[(Value.bool x.2.1), (Value.string x.2.2)])])) G637 J640 rfl hit hins hG h0 rfl (fun a ha => by obtain ⟨x, _, rfl⟩ := List.mem_map.1 ha; rfl) ?_ ?_
     ·rintro q639 args h638 ha hJ
      obtain ⟨⟨i634, b635, s636⟩, hx, rfl⟩ := Option.map_eq_some_iff.1 ((List.getElem?_map ..).symm.trans ha)
      have hS := hS q639 h638 i634 b635 s636 hx hJ; clear hJ hx ha
      refine Run.seq ?_
      refine Run.ops0 (idx := [0]) rfl ?_
      refine Run.go rfl rfl rfl (sem_assign ((Value.int .i64 (i634))) rfl ?_)
      refine Run.region_end ?_
      refine Run.ops0 (idx := [0, 1]) rfl ?_
      refine Run.go rfl rfl rfl (sem_allocN [(Value.bool false), (Value.string ByteArray.empty)] TF.zero_41 (fun k642 hb1 hb2 h643 hb3 => ?_))
      have hS := hS k642 hb1 hb2 h643 hb3
      obtain ⟨h644, hst, hS⟩ := hS
      refine Run.go rfl rfl rfl (sem_storeN ⟨k642, 0, none⟩ [(Value.bool b635), (Value.string s636)] h644 rfl rfl TF.sz_41 hst ?_)
      refine Run.region_end ?_
      refine Run.begin ⟨rfl, ?_⟩
      refine Run.block ?_
      refine Run.seq ?_
      refine Run.seq ?_
      refine Run.anyJ (fun e h647 => ∃ b646 : Bool, Agree [(4, (Value.pointer (some ⟨k8, 0, none⟩))), (15, (Value.pointer (some ⟨k401, 0, none⟩))), (107, (Value.bool b646))] e ∧ S_countermandlaw14_SheetDoes_J27 B k8 k401 q639 J640 b646 h647 Q) ?_ fun j645 => ?_
      ·rintro e h647 ⟨b646, hag, hS⟩
       refine Run.env hag ?_; clear hag
       obtain ⟨hT, hF⟩ := hS
       cases b646
       ·have hS := hF rfl; clear hT hF
        refine Run.condF rfl ?_
        refine Run.skip ?_
        refine Run.ops0 (idx := [0, 1, 2]) rfl ?_
        obtain ⟨i648, hl, hS⟩ := hS
        refine Run.go rfl rfl rfl (sem_load1 ⟨k401, 0, none⟩ ((Value.int .i64 (i648))) rfl TF.agg_3 hl ?_)
        refine Run.go rfl rfl rfl (sem_binI .i64 (i648) (1) ((Value.int .i64 (IntKind.wrap .i64 ((i648) + (1))))) rfl rfl rfl ?_)
        obtain ⟨h649, hst, hS⟩ := hS
        refine Run.go rfl rfl rfl (sem_store1 ⟨k401, 0, none⟩ ((Value.int .i64 (IntKind.wrap .i64 ((i648) + (1))))) h649 rfl rfl rfl TF.sz_3 hst ?_)
        refine Run.region_end ?_
        refine Run.inBlock ?_
        refine Run.of_fin (hS.imp fun h' hS => ?_)
        exact Run.fall (.inl ⟨rfl, hS⟩)
       ·have hS := hT rfl; clear hT hF
        refine Run.condT rfl ?_
        refine Run.seq ?_
        refine Run.ops0 (idx := [0]) rfl ?_
        obtain ⟨h650, hst, hS⟩ := hS
        refine Run.go rfl rfl rfl (sem_store1 ⟨k8, 0, none⟩ ((Value.bool false)) h650 rfl rfl rfl TF.sz_4 hst ?_)
        refine Run.region_end ?_
        refine Run.ret (.inr ⟨_, rfl, ?_⟩)
        obtain ⟨b651, hl0, hS⟩ := hS
        refine Run.ret ⟨.inr rfl, ?_⟩
        exact ⟨⟨k8, 0, none⟩, (Value.bool b651), rfl, loadH1 TF.agg_4 hl0, hS.imp fun h' hq => ⟨(b651), rfl, hq⟩⟩
      skip
      refine Run.drawM (fun h' => True) [] ⟨[0, 1, 2, 6, 8, 8, 24, 72, 168, 264, 520, 1032, 2056, 4096, 4096, 4096, 20480, 69632, 167936, 266240, 536576, 1052672], [4194303, 4194302, 4194301, 4194299, 4194295, 4194295, 4194279, 4194231, 4194135, 4194039, 4193783, 4193271, 4192255, 4190207, 4190207, 4190207, 4173823, 4124671, 4026367, 3928063, 3657727, 3141631], [0, 0, 0, 0, 0, 0, 0, 0, 0, 0, 0, 0, 0, 0, 0, 0, 0, 0, 0, 0, 0, 0], 0⟩ (.q 0 (.x 1 (.q 2 (.q 3 (.q 5 (.x 4 (.q 6 (.q 7 (.q 8 (.x 9 (.q 10 (.q 11 (.q 12 (.q 15 (.x 13 (.x 14 (.q 16 (.q 17 (.q 18 (.x 19 (.q 20 (.q 21 .nil)) .no)))) .no) (.x 14 (.q 16 (.q 17 (.q 18 (.x 13 (.x 19 (.q 20 (.q 21 .nil)) .no) (.x 19 (.x 13 (.q 20 (.q 21 .nil)) .no) .no))))) .no)))))) .no)))) .no)))) .no)) TF.mixed (by kernel_rfl) trivial ?_
      refine RunT.quiet rfl rfl rfl (fun h' hC => sem_move ((Value.int .i64 (i634))) rfl ⟨rfl, rfl⟩) ?_
      refine ⟨?_, trivial⟩
      refine OpH.go rfl rfl rfl (sem_callL [(Value.int .i64 (i634))] (TF.goes_44) rfl rfl (Spec.mono hS fun v h653 hv => ?_))
      obtain ⟨b654, rfl, hS⟩ := hv
      obtain ⟨hT, hF⟩ := hS
      cases b654
      ·have hS := hF rfl; clear hT hF
       refine ⟨fun _ => trivial, ?_⟩
       refine RunT.quiet rfl rfl rfl (fun h' hC => sem_not false rfl ⟨rfl, rfl⟩) ?_
       refine RunT.quiet rfl rfl rfl (fun h' hC => sem_move ((Value.bool true)) rfl ⟨rfl, rfl⟩) ?_
       refine RunT.skip rfl rfl rfl ?_
       refine ⟨?_, trivial⟩
       refine OpH.no rfl rfl rfl ⟨fun _ => trivial, ?_⟩
       refine RunT.skip rfl rfl rfl ?_
       refine RunT.skip rfl rfl rfl ?_
       refine RunT.skip rfl rfl rfl ?_
       refine ⟨?_, trivial⟩
       refine OpH.no rfl rfl rfl ⟨fun _ => trivial, ?_⟩
       refine RunT.skip rfl rfl rfl ?_
       refine RunT.quiet rfl rfl rfl (fun h' hC => sem_pick true ((Value.bool true)) rfl rfl ⟨rfl, rfl⟩) ?_
       refine RunT.quiet rfl rfl rfl (fun h' hC => sem_move ((Value.bool true)) rfl ⟨rfl, rfl⟩) ?_
       refine RunT.skip rfl rfl rfl ?_
       refine RunT.joinJ (t := (.q 20 (.q 21 .nil))) (fun e h656 => Agree [(4, (Value.pointer (some ⟨k8, 0, none⟩))), (15, (Value.pointer (some ⟨k401, 0, none⟩))), (98, (Value.bool true))] e ∧ S_countermandlaw14_SheetDoes_J28 B k8 k401 q639 J640 h656 Q) ?_ fun j655 => ?_
       ·rintro e h656 ⟨hag, hS⟩
        refine RunT.env hag ?_; clear hag
        refine RunT.skip rfl rfl rfl ?_
        refine RunT.quiet rfl rfl rfl (fun h' hC => sem_pick true ((Value.bool true)) rfl rfl ⟨rfl, rfl⟩) ?_
        exact Run.of_fin (hS.imp fun h' hS => j645 _ _ ⟨(true), ⟨rfl, rfl, rfl, trivial⟩, hS⟩)
       refine ⟨?_, ?_, trivial⟩
       ·have hS := hS.1
        refine OpH.no rfl rfl rfl ⟨fun _ => trivial, ?_⟩
        refine ⟨?_, trivial⟩
        refine OpH.no rfl rfl rfl ⟨fun _ => trivial, ?_⟩
        refine RunT.skip rfl rfl rfl ?_
        refine RunT.skip rfl rfl rfl ?_
        refine RunT.skip rfl rfl rfl ?_
        refine ⟨?_, trivial⟩
        refine OpH.no rfl rfl rfl ⟨fun _ => trivial, ?_⟩
        exact j655 _ _ ⟨⟨rfl, rfl, rfl, trivial⟩, hS⟩
       ·have hS := hS.2
        refine OpH.no rfl rfl rfl ⟨fun _ => trivial, ?_⟩
        refine RunT.skip rfl rfl rfl ?_
        refine RunT.skip rfl rfl rfl ?_
        refine RunT.skip rfl rfl rfl ?_
        refine ⟨?_, ?_, trivial⟩
        ·have hS := hS.1
         refine OpH.no rfl rfl rfl ⟨fun _ => trivial, ?_⟩
         refine ⟨?_, trivial⟩
         refine OpH.no rfl rfl rfl ⟨fun _ => trivial, ?_⟩
         exact j655 _ _ ⟨⟨rfl, rfl, rfl, trivial⟩, hS⟩
        ·have hS := hS.2
         refine OpH.no rfl rfl rfl ⟨fun _ => trivial, ?_⟩
         refine ⟨?_, trivial⟩
         refine OpH.no rfl rfl rfl ⟨fun _ => trivial, ?_⟩
         exact j655 _ _ ⟨⟨rfl, rfl, rfl, trivial⟩, hS⟩
      ·have hS := hT rfl; clear hT hF
       refine ⟨fun _ => trivial, ?_⟩
       refine RunT.quiet rfl rfl rfl (fun h' hC => sem_not true rfl ⟨rfl, rfl⟩) ?_
       refine RunT.quiet rfl rfl rfl (fun h' hC => sem_move ((Value.bool false)) rfl ⟨rfl, rfl⟩) ?_
       refine RunT.quiet rfl rfl rfl (fun h' hC => sem_move ((Value.int .i64 (i634))) rfl ⟨rfl, rfl⟩) ?_
       refine ⟨?_, trivial⟩
       obtain ⟨p657, hl, hS⟩ := hS
       refine OpH.go rfl rfl rfl (sem_load1 ⟨k392, 0, none⟩ ((Value.pointer p657)) rfl TF.agg_72 hl ?_)
       refine ⟨fun _ => trivial, ?_⟩
       obtain ⟨A658, e659, hS⟩ := hS
       refine RunT.quiet rfl rfl rfl (fun h' hC => sem_nilCheck A658 (congrArg Value.pointer e659) ⟨rfl, rfl⟩) ?_
       refine RunT.quiet rfl rfl rfl (fun h' hC => sem_fieldAddr A658 24 rfl TF.fld_86_2 ⟨rfl, rfl⟩) ?_
       obtain ⟨hi0, hi1, hS⟩ := hS
       refine RunT.quiet rfl rfl rfl (fun h' hC => sem_indexAddrA (Addr.add A658 24) .i64 (i634) rfl rfl TF.arr_84 hi0 hi1 ⟨rfl, rfl⟩) ?_
       refine ⟨?_, trivial⟩
       obtain ⟨b660, hl, hS⟩ := hS
       obtain ⟨hT, hF⟩ := hS
       cases b660
       ·have hS := hF rfl; clear hT hF
        refine OpH.go rfl rfl rfl (sem_load1 (Addr.add (Addr.add A658 24) (Int.toNat (i634) * 1)) (.bool false) rfl TF.agg_4 hl ?_)
        refine ⟨fun _ => trivial, ?_⟩
        refine RunT.quiet rfl rfl rfl (fun h' hC => sem_not false rfl ⟨rfl, rfl⟩) ?_
        refine RunT.quiet rfl rfl rfl (fun h' hC => sem_pick false ((Value.bool true)) rfl rfl ⟨rfl, rfl⟩) ?_
        refine RunT.quiet rfl rfl rfl (fun h' hC => sem_move ((Value.bool true)) rfl ⟨rfl, rfl⟩) ?_
        refine RunT.skip rfl rfl rfl ?_
        refine RunT.joinJ (t := (.q 20 (.q 21 .nil))) (fun e h662 => Agree [(4, (Value.pointer (some ⟨k8, 0, none⟩))), (15, (Value.pointer (some ⟨k401, 0, none⟩))), (98, (Value.bool true))] e ∧ S_countermandlaw14_SheetDoes_J29 B k8 k401 q639 J640 h662 Q) ?_ fun j661 => ?_
        ·rintro e h662 ⟨hag, hS⟩
         refine RunT.env hag ?_; clear hag
         refine RunT.skip rfl rfl rfl ?_
         refine RunT.quiet rfl rfl rfl (fun h' hC => sem_pick true ((Value.bool true)) rfl rfl ⟨rfl, rfl⟩) ?_
         exact Run.of_fin (hS.imp fun h' hS => j645 _ _ ⟨(true), ⟨rfl, rfl, rfl, trivial⟩, hS⟩)
        refine ⟨?_, ?_, trivial⟩
        ·have hS := hS.1
         refine OpH.no rfl rfl rfl ⟨fun _ => trivial, ?_⟩
         refine ⟨?_, trivial⟩
         refine OpH.no rfl rfl rfl ⟨fun _ => trivial, ?_⟩
         refine RunT.skip rfl rfl rfl ?_
         refine RunT.skip rfl rfl rfl ?_
         refine RunT.skip rfl rfl rfl ?_
         refine ⟨?_, trivial⟩
         refine OpH.no rfl rfl rfl ⟨fun _ => trivial, ?_⟩
         exact j661 _ _ ⟨⟨rfl, rfl, rfl, trivial⟩, hS⟩
        ·have hS := hS.2
         refine OpH.no rfl rfl rfl ⟨fun _ => trivial, ?_⟩
         refine RunT.skip rfl rfl rfl ?_
         refine RunT.skip rfl rfl rfl ?_
         refine RunT.skip rfl rfl rfl ?_
         refine ⟨?_, ?_, trivial⟩
         ·have hS := hS.1
          refine OpH.no rfl rfl rfl ⟨fun _ => trivial, ?_⟩
          refine ⟨?_, trivial⟩
          refine OpH.no rfl rfl rfl ⟨fun _ => trivial, ?_⟩
          exact j661 _ _ ⟨⟨rfl, rfl, rfl, trivial⟩, hS⟩
         ·have hS := hS.2
          refine OpH.no rfl rfl rfl ⟨fun _ => trivial, ?_⟩
          refine ⟨?_, trivial⟩
          refine OpH.no rfl rfl rfl ⟨fun _ => trivial, ?_⟩
          exact j661 _ _ ⟨⟨rfl, rfl, rfl, trivial⟩, hS⟩
       ·have hS := hT rfl; clear hT hF
        refine OpH.go rfl rfl rfl (sem_load1 (Addr.add (Addr.add A658 24) (Int.toNat (i634) * 1)) (.bool true) rfl TF.agg_4 hl ?_)
        refine ⟨fun _ => trivial, ?_⟩
        refine RunT.quiet rfl rfl rfl (fun h' hC => sem_not true rfl ⟨rfl, rfl⟩) ?_
        refine RunT.quiet rfl rfl rfl (fun h' hC => sem_pick false ((Value.bool false)) rfl rfl ⟨rfl, rfl⟩) ?_
        refine RunT.quiet rfl rfl rfl (fun h' hC => sem_move ((Value.bool false)) rfl ⟨rfl, rfl⟩) ?_
        refine RunT.quiet rfl rfl rfl (fun h' hC => sem_move ((Value.int .i64 (i634))) rfl ⟨rfl, rfl⟩) ?_
        refine RunT.joinJ (t := (.q 20 (.q 21 .nil))) (fun e h686 => ∃ b682 : Bool, ∃ s683 : ByteArray, ∃ b684 : Bool, ∃ s685 : ByteArray, Agree [(4, (Value.pointer (some ⟨k8, 0, none⟩))), (15, (Value.pointer (some ⟨k401, 0, none⟩))), (98, (Value.bool false)), (99, (Value.agg #[(Value.bool b682), (Value.string s683)])), (105, (Value.agg #[(Value.bool b684), (Value.string s685)]))] e ∧ S_countermandlaw14_SheetDoes_J30 B k8 k401 q639 J640 b682 s683 b684 s685 h686 Q) ?_ fun j681 => ?_
        ·rintro e h686 ⟨b682, s683, b684, s685, hag, hS⟩
         refine RunT.env hag ?_; clear hag
         obtain ⟨hT, hF⟩ := hS
         by_cases hb687 : eqL [(Value.bool b682), (Value.string s683)] [(Value.bool b684), (Value.string s685)] = true
         ·have hS := hT hb687; clear hT hF
          refine RunT.quiet rfl rfl rfl (fun h' hC => sem_aggEq [(Value.bool b682), (Value.string s683)] [(Value.bool b684), (Value.string s685)] _ (false) (.inr rfl) rfl rfl TF.agg_76 TF.flat_76 TF.eqg_76 ⟨⟨_, rfl⟩, ⟨_, rfl⟩, trivial⟩ ⟨⟨_, rfl⟩, ⟨_, rfl⟩, trivial⟩ (eqLT_neq hb687) ⟨rfl, rfl⟩) ?_
          refine RunT.quiet rfl rfl rfl (fun h' hC => sem_pick false ((Value.bool false)) rfl rfl ⟨rfl, rfl⟩) ?_
          exact Run.of_fin (hS.imp fun h' hS => j645 _ _ ⟨(false), ⟨rfl, rfl, rfl, trivial⟩, hS⟩)
         ·have hS := hF hb687; clear hT hF
          refine RunT.quiet rfl rfl rfl (fun h' hC => sem_aggEq [(Value.bool b682), (Value.string s683)] [(Value.bool b684), (Value.string s685)] _ (true) (.inr rfl) rfl rfl TF.agg_76 TF.flat_76 TF.eqg_76 ⟨⟨_, rfl⟩, ⟨_, rfl⟩, trivial⟩ ⟨⟨_, rfl⟩, ⟨_, rfl⟩, trivial⟩ (eqLF_neq hb687) ⟨rfl, rfl⟩) ?_
          refine RunT.quiet rfl rfl rfl (fun h' hC => sem_pick false ((Value.bool true)) rfl rfl ⟨rfl, rfl⟩) ?_
          exact Run.of_fin (hS.imp fun h' hS => j645 _ _ ⟨(true), ⟨rfl, rfl, rfl, trivial⟩, hS⟩)
        refine ⟨?_, ?_, trivial⟩
        ·have hS := hS.1
         obtain ⟨b688, s689, hl, hS⟩ := hS
         refine OpH.go rfl rfl rfl (sem_loadN ⟨k642, 0, none⟩ [(Value.bool b688), (Value.string s689)] rfl TF.agg_41 TF.sz_41 hl ?_)
         refine ⟨fun _ => trivial, ?_⟩
         refine ⟨?_, trivial⟩
         obtain ⟨p690, hl, hS⟩ := hS
         refine OpH.go rfl rfl rfl (sem_load1 ⟨k392, 0, none⟩ ((Value.pointer p690)) rfl TF.agg_72 hl ?_)
         refine ⟨fun _ => trivial, ?_⟩
         obtain ⟨A691, e692, hS⟩ := hS
         refine RunT.quiet rfl rfl rfl (fun h' hC => sem_nilCheck A691 (congrArg Value.pointer e692) ⟨rfl, rfl⟩) ?_
         refine RunT.quiet rfl rfl rfl (fun h' hC => sem_fieldAddr A691 12 rfl TF.fld_86_1 ⟨rfl, rfl⟩) ?_
         obtain ⟨hi0, hi1, hS⟩ := hS
         refine RunT.quiet rfl rfl rfl (fun h' hC => sem_indexAddrA (Addr.add A691 12) .i64 (i634) rfl rfl TF.arr_77 hi0 hi1 ⟨rfl, rfl⟩) ?_
         refine ⟨?_, trivial⟩
         obtain ⟨b693, s694, hl, hS⟩ := hS
         refine OpH.go rfl rfl rfl (sem_loadN (Addr.add (Addr.add A691 12) (Int.toNat (i634) * 2)) [(Value.bool b693), (Value.string s694)] rfl TF.agg_76 TF.sz_76 hl ?_)
         refine ⟨fun _ => trivial, ?_⟩
         exact j681 _ _ ⟨(b688), s689, (b693), s694, ⟨rfl, rfl, rfl, rfl, rfl, trivial⟩, hS⟩
        ·have hS := hS.2
         obtain ⟨p695, hl, hS⟩ := hS
         refine OpH.go rfl rfl rfl (sem_load1 ⟨k392, 0, none⟩ ((Value.pointer p695)) rfl TF.agg_72 hl ?_)
         refine ⟨fun _ => trivial, ?_⟩
         obtain ⟨A696, e697, hS⟩ := hS
         refine RunT.quiet rfl rfl rfl (fun h' hC => sem_nilCheck A696 (congrArg Value.pointer e697) ⟨rfl, rfl⟩) ?_
         refine RunT.quiet rfl rfl rfl (fun h' hC => sem_fieldAddr A696 12 rfl TF.fld_86_1 ⟨rfl, rfl⟩) ?_
         obtain ⟨hi0, hi1, hS⟩ := hS
         refine RunT.quiet rfl rfl rfl (fun h' hC => sem_indexAddrA (Addr.add A696 12) .i64 (i634) rfl rfl TF.arr_77 hi0 hi1 ⟨rfl, rfl⟩) ?_
         refine ⟨?_, ?_, trivial⟩
         ·have hS := hS.1
          obtain ⟨b698, s699, hl, hS⟩ := hS
          refine OpH.go rfl rfl rfl (sem_loadN ⟨k642, 0, none⟩ [(Value.bool b698), (Value.string s699)] rfl TF.agg_41 TF.sz_41 hl ?_)
          refine ⟨fun _ => trivial, ?_⟩
          refine ⟨?_, trivial⟩
          obtain ⟨b700, s701, hl, hS⟩ := hS
          refine OpH.go rfl rfl rfl (sem_loadN (Addr.add (Addr.add A696 12) (Int.toNat (i634) * 2)) [(Value.bool b700), (Value.string s701)] rfl TF.agg_76 TF.sz_76 hl ?_)
          refine ⟨fun _ => trivial, ?_⟩
          exact j681 _ _ ⟨(b698), s699, (b700), s701, ⟨rfl, rfl, rfl, rfl, rfl, trivial⟩, hS⟩
         ·have hS := hS.2
          obtain ⟨b702, s703, hl, hS⟩ := hS
          refine OpH.go rfl rfl rfl (sem_loadN (Addr.add (Addr.add A696 12) (Int.toNat (i634) * 2)) [(Value.bool b702), (Value.string s703)] rfl TF.agg_76 TF.sz_76 hl ?_)
          refine ⟨fun _ => trivial, ?_⟩
          refine ⟨?_, trivial⟩
          obtain ⟨b704, s705, hl, hS⟩ := hS
          refine OpH.go rfl rfl rfl (sem_loadN ⟨k642, 0, none⟩ [(Value.bool b704), (Value.string s705)] rfl TF.agg_41 TF.sz_41 hl ?_)
          refine ⟨fun _ => trivial, ?_⟩
          exact j681 _ _ ⟨(b704), s705, (b702), s703, ⟨rfl, rfl, rfl, rfl, rfl, trivial⟩, hS⟩
     ·intro h638 hJ
      have hS := hR h638 (by simpa using hJ); clear hJ hR
      refine Run.inBlock ?_
      exact Run.of_fin (hS.imp fun h' hS => j404 _ _ ⟨⟨rfl, rfl, rfl, rfl, rfl, rfl, trivial⟩, hS⟩)
    refine Run.seq ?_
    refine Run.ops0 (idx := [0, 1, 2]) rfl ?_
    refine Run.go rfl rfl rfl (sem_move ((Value.slice a2 n3 c4)) rfl ?_)
    refine Run.go rfl rfl rfl (sem_lenSl a2 n3 c4 rfl TF.sl_79 ?_)
    refine Run.go rfl rfl rfl (sem_move ((Value.int .i64 (0))) rfl ?_)
    refine Run.region_end ?_
    refine Run.block ?_
    obtain ⟨J711, m709, h0, hS⟩ := hS
    refine Run.of_fin (h0.imp fun h' h0 => ?_)
    refine Run.loop (σ := Int × Nat) (fun x e h => J711 x.1 x.2 h ∧ Agree [(4, (Value.pointer (some ⟨k8, 0, none⟩))), (5, (Value.pointer p16)), (6, (Value.pointer p17)), (7, (Value.pointer (some ⟨k392, 0, none⟩))), (9, (Value.string s398)), (39, (Value.slice a2 n3 c4)), (40, (Value.int .i64 ((n3 : Nat)))), (41, (Value.int .i64 (x.1)))] e) (fun x => x.2) ((0), m709) ⟨h0, ⟨rfl, rfl, rfl, rfl, rfl, rfl, rfl, rfl, trivial⟩⟩ ?_; clear h0
    rintro ⟨i706, m708⟩ e h707 ⟨hJ, hag⟩ ih710
    have hS := hS i706 m708 h707 hJ; clear hJ
    refine Run.env hag ?_; clear hag
    refine Run.seq ?_
    refine Run.ops0 (idx := [0]) rfl ?_
    obtain ⟨hT, hF⟩ := hS
    by_cases hb712 : (i706 : Int) < ((n3 : Nat))
    ·have hS := hT hb712; clear hT hF
     refine Run.go rfl rfl rfl (sem_binI .i64 (i706) ((n3 : Nat)) (.bool true) rfl rfl (binI_lss_t hb712) ?_)
     refine Run.region_end ?_
     refine Run.seq ?_
     refine Run.condT rfl ?_
     refine Run.skip ?_
     refine Run.seq ?_
     refine Run.block ?_
     refine Run.seq ?_
     refine Run.ops0 (idx := [0, 1, 2, 3]) rfl ?_
     obtain ⟨A713, e714, hi0, hi1, hS⟩ := hS
     refine Run.go rfl rfl rfl (sem_indexAddrS A713 n3 c4 .i64 (i706) (congrArg (fun a => Value.slice a n3 c4) e714) rfl TF.slc_79 hi0 hi1 ?_)
     obtain ⟨i715, i716, i717, i718, hl, hS⟩ := hS
     refine Run.go rfl rfl rfl (sem_loadN (Addr.add A713 (Int.toNat (i706) * 4)) [(Value.int .i64 (i715)), (Value.int .i64 (i716)), (Value.int .i64 (i717)), (Value.int .u8 (i718))] rfl TF.agg_81 TF.sz_81 hl ?_)
     refine Run.go rfl rfl rfl (sem_allocN [(Value.int .i64 (0)), (Value.int .i64 (0)), (Value.int .i64 (0)), (Value.int .u8 (0))] TF.zero_81 (fun k719 hb1 hb2 h720 hb3 => ?_))
     have hS := hS k719 hb1 hb2 h720 hb3
     obtain ⟨h721, hst, hS⟩ := hS
     refine Run.go rfl rfl rfl (sem_storeN ⟨k719, 0, none⟩ [(Value.int .i64 (i715)), (Value.int .i64 (i716)), (Value.int .i64 (i717)), (Value.int .u8 (i718))] h721 rfl rfl TF.sz_81 hst ?_)
     refine Run.region_end ?_
     refine Run.seq ?_
     refine Run.seq ?_
     refine Run.ops0 (idx := [0, 1, 2, 3, 4, 5]) rfl ?_
     refine Run.go rfl rfl rfl (sem_move ((Value.pointer p16)) rfl ?_)
     refine Run.go rfl rfl rfl (sem_move ((Value.pointer p17)) rfl ?_)
     obtain ⟨p722, hl, hS⟩ := hS
     refine Run.go rfl rfl rfl (sem_load1 ⟨k392, 0, none⟩ ((Value.pointer p722)) rfl TF.agg_72 hl ?_)
     obtain ⟨i723, i724, i725, i726, hl, hS⟩ := hS
     refine Run.go rfl rfl rfl (sem_loadN ⟨k719, 0, none⟩ [(Value.int .i64 (i723)), (Value.int .i64 (i724)), (Value.int .i64 (i725)), (Value.int .u8 (i726))] rfl TF.agg_81 TF.sz_81 hl ?_)
     refine Run.go rfl rfl rfl (sem_callL [(Value.pointer p16), (Value.pointer p17), (Value.pointer p722), (Value.agg #[(Value.int .i64 (i723)), (Value.int .i64 (i724)), (Value.int .i64 (i725)), (Value.int .u8 (i726))])] (TF.goes_46) rfl rfl (Spec.mono hS fun v h727 hv => ?_))
     obtain ⟨b728, rfl, hS⟩ := hv
     obtain ⟨hT, hF⟩ := hS
     cases b728
     ·have hS := hF rfl; clear hT hF
      refine Run.go rfl rfl rfl (sem_not false rfl ?_)
      refine Run.region_end ?_
      refine Run.condT rfl ?_
      refine Run.seq ?_
      refine Run.ops0 (idx := [0]) rfl ?_
      obtain ⟨h729, hst, hS⟩ := hS
      refine Run.go rfl rfl rfl (sem_store1 ⟨k8, 0, none⟩ ((Value.bool false)) h729 rfl rfl rfl TF.sz_4 hst ?_)
      refine Run.region_end ?_
      obtain ⟨b730, hl0, hS⟩ := hS
      refine Run.ret ⟨.inr rfl, ?_⟩
      exact ⟨⟨k8, 0, none⟩, (Value.bool b730), rfl, loadH1 TF.agg_4 hl0, hS.imp fun h' hq => ⟨(b730), rfl, hq⟩⟩
     ·have hS := hT rfl; clear hT hF
      refine Run.go rfl rfl rfl (sem_not true rfl ?_)
      refine Run.region_end ?_
      refine Run.condF rfl ?_
      refine Run.skip ?_
      refine Run.seq ?_
      refine Run.ops0 (idx := [0]) rfl ?_
      refine Run.go rfl rfl rfl (sem_move ((Value.int .i64 (0))) rfl ?_)
      refine Run.region_end ?_
      refine Run.block ?_
      obtain ⟨J736, m734, h0, hS⟩ := hS
      refine Run.of_fin (h0.imp fun h' h0 => ?_)
      refine Run.loop (σ := Int × Nat) (fun x e h => J736 x.1 x.2 h ∧ Agree [(4, (Value.pointer (some ⟨k8, 0, none⟩))), (5, (Value.pointer p16)), (6, (Value.pointer p17)), (7, (Value.pointer (some ⟨k392, 0, none⟩))), (9, (Value.string s398)), (39, (Value.slice a2 n3 c4)), (40, (Value.int .i64 ((n3 : Nat)))), (41, (Value.int .i64 (i706))), (51, (Value.int .i64 (x.1)))] e) (fun x => x.2) ((0), m734) ⟨h0, ⟨rfl, rfl, rfl, rfl, rfl, rfl, rfl, rfl, rfl, trivial⟩⟩ ?_; clear h0
      rintro ⟨i731, m733⟩ e h732 ⟨hJ, hag⟩ ih735
      have hS := hS i731 m733 h732 hJ; clear hJ
      refine Run.env hag ?_; clear hag
      refine Run.seq ?_
      refine Run.ops0 (idx := [0]) rfl ?_
      obtain ⟨hT, hF⟩ := hS
      by_cases hb737 : (i731 : Int) < (6)
      ·have hS := hT hb737; clear hT hF
       refine Run.go rfl rfl rfl (sem_binI .i64 (i731) (6) (.bool true) rfl rfl (binI_lss_t hb737) ?_)
       refine Run.region_end ?_
       refine Run.seq ?_
       refine Run.condT rfl ?_
       refine Run.skip ?_
       refine Run.seq ?_
       refine Run.block ?_
       refine Run.seq ?_
       refine Run.ops0 (idx := [0, 1]) rfl ?_
       refine Run.go rfl rfl rfl (sem_move ((Value.int .i64 (i731))) rfl ?_)
       refine Run.go rfl rfl rfl (sem_assign ((Value.int .i64 (i731))) rfl ?_)
       refine Run.region_end ?_
       refine Run.seq ?_
       refine Run.ops0 (idx := [0, 1, 2, 3, 4, 5, 6, 7, 8, 9]) rfl ?_
       refine Run.go rfl rfl rfl (sem_move ((Value.pointer p17)) rfl ?_)
       refine Run.go rfl rfl rfl (sem_move ((Value.pointer p16)) rfl ?_)
       refine Run.go rfl rfl rfl (sem_move ((Value.int .i64 (i731))) rfl ?_)
       refine Run.go rfl rfl rfl (sem_callL [(Value.pointer p17), (Value.pointer p16), (Value.int .i64 (i731))] (TF.goes_23) rfl rfl (Spec.mono hS fun v h738 hv => ?_))
       obtain ⟨b739, s740, b741, rfl, hS⟩ := hv
       refine Run.go rfl rfl rfl (sem_move ((Value.tuple #[(Value.agg #[(Value.bool b739), (Value.string s740)]), (Value.bool b741)])) rfl ?_)
       refine Run.go rfl rfl rfl (sem_extract #[(Value.agg #[(Value.bool b739), (Value.string s740)]), (Value.bool b741)] ((Value.agg #[(Value.bool b739), (Value.string s740)])) rfl rfl ?_)
       refine Run.go rfl rfl rfl (sem_extract #[(Value.agg #[(Value.bool b739), (Value.string s740)]), (Value.bool b741)] ((Value.bool b741)) rfl rfl ?_)
       refine Run.go rfl rfl rfl (sem_allocN [(Value.bool false), (Value.string ByteArray.empty)] TF.zero_41 (fun k742 hb1 hb2 h743 hb3 => ?_))
       have hS := hS k742 hb1 hb2 h743 hb3
       obtain ⟨h744, hst, hS⟩ := hS
       refine Run.go rfl rfl rfl (sem_storeN ⟨k742, 0, none⟩ [(Value.bool b739), (Value.string s740)] h744 rfl rfl TF.sz_41 hst ?_)
       refine Run.go rfl rfl rfl (sem_assign ((Value.bool b741)) rfl ?_)
       refine Run.region_end ?_
       refine Run.seq ?_
       refine Run.drawM (fun h' => h' = h744) [] ⟨[0, 0, 0, 2, 8, 20, 32, 65, 128, 256, 256, 256, 1280, 4352, 10496, 16640, 33536, 65792], [262143, 262143, 262143, 262141, 262135, 262123, 262111, 262078, 262015, 261887, 261887, 261887, 260863, 257791, 251647, 245503, 228607, 196351], [0, 0, 0, 0, 0, 0, 0, 0, 0, 0, 0, 0, 0, 0, 0, 0, 0, 0], 0⟩ (.q 0 (.q 1 (.q 2 (.q 3 (.q 4 (.q 5 (.q 6 (.q 7 (.q 8 (.q 9 (.q 10 (.q 11 (.q 12 (.q 13 (.q 14 (.q 15 (.q 16 (.q 17 .nil)))))))))))))))))) TF.mixed (by kernel_rfl) rfl ?_
       obtain ⟨b745, s746, hl, hS⟩ := hS
       refine RunT.quiet rfl rfl rfl (quiet_eq (sem_loadN ⟨k742, 0, none⟩ [(Value.bool b745), (Value.string s746)] rfl TF.agg_41 TF.sz_41 hl ⟨rfl, rfl⟩)) ?_
       obtain ⟨p747, hl, hS⟩ := hS
       refine RunT.quiet rfl rfl rfl (quiet_eq (sem_load1 ⟨k392, 0, none⟩ ((Value.pointer p747)) rfl TF.agg_72 hl ⟨rfl, rfl⟩)) ?_
       refine RunT.quiet rfl rfl rfl (quiet_eq (sem_move ((Value.int .i64 (i731))) rfl ⟨rfl, rfl⟩)) ?_
       obtain ⟨A748, e749, hS⟩ := hS
       refine RunT.quiet rfl rfl rfl (quiet_eq (sem_nilCheck A748 (congrArg Value.pointer e749) ⟨rfl, rfl⟩)) ?_
       refine RunT.quiet rfl rfl rfl (quiet_eq (sem_fieldAddr A748 12 rfl TF.fld_86_1 ⟨rfl, rfl⟩)) ?_
       obtain ⟨hi0, hi1, hS⟩ := hS
       refine RunT.quiet rfl rfl rfl (quiet_eq (sem_indexAddrA (Addr.add A748 12) .i64 (i731) rfl rfl TF.arr_77 hi0 hi1 ⟨rfl, rfl⟩)) ?_
       obtain ⟨b750, s751, hl, hS⟩ := hS
       refine RunT.quiet rfl rfl rfl (quiet_eq (sem_loadN (Addr.add (Addr.add A748 12) (Int.toNat (i731) * 2)) [(Value.bool b750), (Value.string s751)] rfl TF.agg_76 TF.sz_76 hl ⟨rfl, rfl⟩)) ?_
       obtain ⟨hT, hF⟩ := hS
       by_cases hb752 : eqL [(Value.bool b745), (Value.string s746)] [(Value.bool b750), (Value.string s751)] = true
       ·have hS := hT hb752; clear hT hF
        refine RunT.quiet rfl rfl rfl (quiet_eq (sem_aggEq [(Value.bool b745), (Value.string s746)] [(Value.bool b750), (Value.string s751)] _ (false) (.inr rfl) rfl rfl TF.agg_76 TF.flat_76 TF.eqg_76 ⟨⟨_, rfl⟩, ⟨_, rfl⟩, trivial⟩ ⟨⟨_, rfl⟩, ⟨_, rfl⟩, trivial⟩ (eqLT_neq hb752) ⟨rfl, rfl⟩)) ?_
        refine RunT.quiet rfl rfl rfl (quiet_eq (sem_move ((Value.bool false)) rfl ⟨rfl, rfl⟩)) ?_
        refine RunT.quiet rfl rfl rfl (quiet_eq (sem_move ((Value.bool b741)) rfl ⟨rfl, rfl⟩)) ?_
        obtain ⟨p753, hl, hS⟩ := hS
        refine RunT.quiet rfl rfl rfl (quiet_eq (sem_load1 ⟨k392, 0, none⟩ ((Value.pointer p753)) rfl TF.agg_72 hl ⟨rfl, rfl⟩)) ?_
        refine RunT.quiet rfl rfl rfl (quiet_eq (sem_move ((Value.int .i64 (i731))) rfl ⟨rfl, rfl⟩)) ?_
        obtain ⟨A754, e755, hS⟩ := hS
        refine RunT.quiet rfl rfl rfl (quiet_eq (sem_nilCheck A754 (congrArg Value.pointer e755) ⟨rfl, rfl⟩)) ?_
        refine RunT.quiet rfl rfl rfl (quiet_eq (sem_fieldAddr A754 24 rfl TF.fld_86_2 ⟨rfl, rfl⟩)) ?_
        obtain ⟨hi0, hi1, hS⟩ := hS
        refine RunT.quiet rfl rfl rfl (quiet_eq (sem_indexAddrA (Addr.add A754 24) .i64 (i731) rfl rfl TF.arr_84 hi0 hi1 ⟨rfl, rfl⟩)) ?_
        obtain ⟨b756, hl, hS⟩ := hS
        refine RunT.quiet rfl rfl rfl (quiet_eq (sem_load1 (Addr.add (Addr.add A754 24) (Int.toNat (i731) * 1)) ((Value.bool b756)) rfl TF.agg_4 hl ⟨rfl, rfl⟩)) ?_
        obtain ⟨hT, hF⟩ := hS
        by_cases hb757 : b741 = b756
        ·have hS := hT hb757; clear hT hF
         refine RunT.quiet rfl rfl rfl (quiet_eq (sem_boolEqT b741 b756 (.inr rfl) false rfl rfl TF.bool_4 hb757 rfl ⟨rfl, rfl⟩)) ?_
         refine RunT.quiet rfl rfl rfl (quiet_eq (sem_pick false ((Value.bool false)) rfl rfl ⟨rfl, rfl⟩)) ?_
         refine Run.condF rfl ?_
         refine Run.skip ?_
         refine Run.inBlock ?_
         refine Run.ops0 (idx := [0, 1]) rfl ?_
         refine Run.go rfl rfl rfl (sem_binI .i64 (i731) (1) ((Value.int .i64 (IntKind.wrap .i64 ((i731) + (1))))) rfl rfl rfl ?_)
         refine Run.go rfl rfl rfl (sem_move ((Value.int .i64 (IntKind.wrap .i64 ((i731) + (1))))) rfl ?_)
         refine Run.region_end ?_
         exact Run.of_fin (hS.imp fun h' ⟨m', hm, hS⟩ => ih735 ((IntKind.wrap .i64 ((i731) + (1))), m') _ _ ⟨hS, ⟨rfl, rfl, rfl, rfl, rfl, rfl, rfl, rfl, rfl, trivial⟩⟩ hm)
        ·have hS := hF hb757; clear hT hF
         refine RunT.quiet rfl rfl rfl (quiet_eq (sem_boolEqF b741 b756 (.inr rfl) true rfl rfl TF.bool_4 hb757 rfl ⟨rfl, rfl⟩)) ?_
         refine RunT.quiet rfl rfl rfl (quiet_eq (sem_pick false ((Value.bool true)) rfl rfl ⟨rfl, rfl⟩)) ?_
         refine Run.condT rfl ?_
         refine Run.seq ?_
         refine Run.ops0 (idx := [0]) rfl ?_
         obtain ⟨h758, hst, hS⟩ := hS
         refine Run.go rfl rfl rfl (sem_store1 ⟨k8, 0, none⟩ ((Value.bool false)) h758 rfl rfl rfl TF.sz_4 hst ?_)
         refine Run.region_end ?_
         obtain ⟨b759, hl0, hS⟩ := hS
         refine Run.ret ⟨.inr rfl, ?_⟩
         exact ⟨⟨k8, 0, none⟩, (Value.bool b759), rfl, loadH1 TF.agg_4 hl0, hS.imp fun h' hq => ⟨(b759), rfl, hq⟩⟩
       ·have hS := hF hb752; clear hT hF
        refine RunT.quiet rfl rfl rfl (quiet_eq (sem_aggEq [(Value.bool b745), (Value.string s746)] [(Value.bool b750), (Value.string s751)] _ (true) (.inr rfl) rfl rfl TF.agg_76 TF.flat_76 TF.eqg_76 ⟨⟨_, rfl⟩, ⟨_, rfl⟩, trivial⟩ ⟨⟨_, rfl⟩, ⟨_, rfl⟩, trivial⟩ (eqLF_neq hb752) ⟨rfl, rfl⟩)) ?_
        refine RunT.quiet rfl rfl rfl (quiet_eq (sem_move ((Value.bool true)) rfl ⟨rfl, rfl⟩)) ?_
        refine RunT.skip rfl rfl rfl ?_
        refine RunT.skip rfl rfl rfl ?_
        refine RunT.skip rfl rfl rfl ?_
        refine RunT.skip rfl rfl rfl ?_
        refine RunT.skip rfl rfl rfl ?_
        refine RunT.skip rfl rfl rfl ?_
        refine RunT.skip rfl rfl rfl ?_
        refine RunT.skip rfl rfl rfl ?_
        refine RunT.quiet rfl rfl rfl (quiet_eq (sem_pick true ((Value.bool true)) rfl rfl ⟨rfl, rfl⟩)) ?_
        refine Run.condT rfl ?_
        refine Run.seq ?_
        refine Run.ops0 (idx := [0]) rfl ?_
        obtain ⟨h760, hst, hS⟩ := hS
        refine Run.go rfl rfl rfl (sem_store1 ⟨k8, 0, none⟩ ((Value.bool false)) h760 rfl rfl rfl TF.sz_4 hst ?_)
        refine Run.region_end ?_
        obtain ⟨b761, hl0, hS⟩ := hS
        refine Run.ret ⟨.inr rfl, ?_⟩
        exact ⟨⟨k8, 0, none⟩, (Value.bool b761), rfl, loadH1 TF.agg_4 hl0, hS.imp fun h' hq => ⟨(b761), rfl, hq⟩⟩
      ·have hS := hF hb737; clear hT hF
       refine Run.go rfl rfl rfl (sem_binI .i64 (i731) (6) (.bool false) rfl rfl (binI_lss_f hb737) ?_)
       refine Run.region_end ?_
       refine Run.seq ?_
       refine Run.condF rfl ?_
       refine Run.exit rfl ?_
       refine Run.inBlock ?_
       refine Run.ops0 (idx := [0, 1]) rfl ?_
       refine Run.go rfl rfl rfl (sem_binI .i64 (i706) (1) ((Value.int .i64 (IntKind.wrap .i64 ((i706) + (1))))) rfl rfl rfl ?_)
       refine Run.go rfl rfl rfl (sem_move ((Value.int .i64 (IntKind.wrap .i64 ((i706) + (1))))) rfl ?_)
       refine Run.region_end ?_
       exact Run.of_fin (hS.imp fun h' ⟨m', hm, hS⟩ => ih710 ((IntKind.wrap .i64 ((i706) + (1))), m') _ _ ⟨hS, ⟨rfl, rfl, rfl, rfl, rfl, rfl, rfl, rfl, trivial⟩⟩ hm)
    ·have hS := hF hb712; clear hT hF
     refine Run.go rfl rfl rfl (sem_binI .i64 (i706) ((n3 : Nat)) (.bool false) rfl rfl (binI_lss_f hb712) ?_)
     refine Run.region_end ?_
     refine Run.seq ?_
     refine Run.condF rfl ?_
     refine Run.exit rfl ?_
     exact Run.of_fin (hS.imp fun h' hS => j399 _ _ ⟨⟨rfl, rfl, rfl, rfl, rfl, trivial⟩, hS⟩)
   refine Run.seq ?_
   refine Run.ops0 (idx := [0, 1, 2, 3, 4, 5, 6]) rfl ?_
   refine Run.go rfl rfl rfl (sem_move ((Value.bool true)) rfl ?_)
   refine Run.go rfl rfl rfl (sem_not true rfl ?_)
   refine Run.go rfl rfl rfl (sem_move ((Value.bool false)) rfl ?_)
   refine Run.go rfl rfl rfl (sem_move ((Value.slice a2 n3 c4)) rfl ?_)
   refine Run.go rfl rfl rfl (sem_lenSl a2 n3 c4 rfl TF.sl_79 ?_)
   obtain ⟨hT, hF⟩ := hS
   by_cases hb762 : ((n3 : Nat) : Int) > (60)
   ·have hS := hT hb762; clear hT hF
    refine Run.go rfl rfl rfl (sem_binI .i64 ((n3 : Nat)) (60) (.bool true) rfl rfl (binI_gtr_t hb762) ?_)
    refine Run.go rfl rfl rfl (sem_pick false ((Value.bool true)) rfl rfl ?_)
    refine Run.region_end ?_
    refine Run.condT rfl ?_
    refine Run.seq ?_
    refine Run.ops0 (idx := [0]) rfl ?_
    obtain ⟨h763, hst, hS⟩ := hS
    refine Run.go rfl rfl rfl (sem_store1 ⟨k8, 0, none⟩ ((Value.bool true)) h763 rfl rfl rfl TF.sz_4 hst ?_)
    refine Run.region_end ?_
    obtain ⟨b764, hl0, hS⟩ := hS
    refine Run.ret ⟨.inr rfl, ?_⟩
    exact ⟨⟨k8, 0, none⟩, (Value.bool b764), rfl, loadH1 TF.agg_4 hl0, hS.imp fun h' hq => ⟨(b764), rfl, hq⟩⟩
   ·have hS := hF hb762; clear hT hF
    refine Run.go rfl rfl rfl (sem_binI .i64 ((n3 : Nat)) (60) (.bool false) rfl rfl (binI_gtr_f hb762) ?_)
    refine Run.go rfl rfl rfl (sem_pick false ((Value.bool false)) rfl rfl ?_)
    refine Run.region_end ?_
    refine Run.condF rfl ?_
    refine Run.skip ?_
    exact Run.of_fin (hS.imp fun h' hS => j395 _ _ ⟨⟨rfl, rfl, rfl, rfl, rfl, trivial⟩, hS⟩)
end Go.Proofs.Ytcncdfmnpmmikaa.H
