/- The functions do what they ask for. No condition. -/
import Derived.Test.YthlnibaechobmaaXfS
namespace Go.Proofs.Ythlnibaechobmaa.H
open Go
set_option linter.unusedVariables false
set_option maxRecDepth 100000

set_option maxHeartbeats 4000000 in
theorem C_countermandlaw17_MarkStack.of {B : RO} {a1 : Option Addr} {n2 : Nat} {c3 : Nat} {h : Heap} {Q : Bool → Heap → Prop} (hS : S_countermandlaw17_MarkStack B a1 n2 c3 h Q) : C_countermandlaw17_MarkStack B a1 n2 c3 h Q := by
  unfold S_countermandlaw17_MarkStack at hS
  unfold C_countermandlaw17_MarkStack
  refine Spec.of_run Try.func14 (N := 87) (rs := [ResultVar.tmp 2]) rfl rfl rfl (Nat.le_of_ble_eq_true rfl) ?_
  refine Run.seq ?_
  refine Run.ops0 (idx := [0]) rfl ?_
  refine Run.go rfl rfl rfl (sem_assign ((Value.bool false)) rfl ?_)
  refine Run.region_end ?_
  refine Run.seq ?_
  refine Run.seq ?_
  refine Run.ops0 (idx := [0, 1]) rfl ?_
  refine Run.go rfl rfl rfl (sem_callL [] (TF.goes_57) rfl rfl (Spec.mono hS fun v h5 hv => ?_))
  obtain ⟨b6, rfl, hS⟩ := hv
  obtain ⟨hT, hF⟩ := hS
  cases b6
  · have hS := hF rfl; clear hT hF
    refine Run.go rfl rfl rfl (sem_not false rfl ?_)
    refine Run.region_end ?_
    refine Run.condT rfl ?_
    refine Run.seq ?_
    refine Run.ops0 (idx := [0]) rfl ?_
    refine Run.go rfl rfl rfl (sem_assign ((Value.bool false)) rfl ?_)
    refine Run.region_end ?_
    refine Run.ret ⟨.inr rfl, ?_⟩
    exact hS.imp fun h' hq => ⟨(false), rfl, hq⟩
  · have hS := hT rfl; clear hT hF
    refine Run.go rfl rfl rfl (sem_not true rfl ?_)
    refine Run.region_end ?_
    refine Run.condF rfl ?_
    refine Run.skip ?_
    refine Run.seq ?_
    refine Run.seq ?_
    refine Run.ops0 (idx := [0, 1, 2]) rfl ?_
    refine Run.go rfl rfl rfl (sem_move ((Value.slice a1 n2 c3)) rfl ?_)
    refine Run.go rfl rfl rfl (sem_lenSl a1 n2 c3 rfl TF.sl_65 ?_)
    obtain ⟨hT, hF⟩ := hS
    by_cases hb7 : ((n2 : Nat) : Int) > (60)
    · have hS := hT hb7; clear hT hF
      refine Run.go rfl rfl rfl (sem_binI .i64 ((n2 : Nat)) (60) (.bool true) rfl rfl (binI_gtr_t hb7) ?_)
      refine Run.region_end ?_
      refine Run.condT rfl ?_
      refine Run.seq ?_
      refine Run.ops0 (idx := [0]) rfl ?_
      refine Run.go rfl rfl rfl (sem_assign ((Value.bool true)) rfl ?_)
      refine Run.region_end ?_
      refine Run.ret ⟨.inr rfl, ?_⟩
      exact hS.imp fun h' hq => ⟨(true), rfl, hq⟩
    · have hS := hF hb7; clear hT hF
      refine Run.go rfl rfl rfl (sem_binI .i64 ((n2 : Nat)) (60) (.bool false) rfl rfl (binI_gtr_f hb7) ?_)
      refine Run.region_end ?_
      refine Run.condF rfl ?_
      refine Run.skip ?_
      refine Run.seq ?_
      refine Run.ops0 (idx := [0, 1, 2]) rfl ?_
      refine Run.go rfl rfl rfl (sem_buildSL [] [(Value.slice none 0 0)] TF.zero_105 TF.places_105 rfl rfl ?_)
      refine Run.go rfl rfl rfl (sem_boxNN [(Value.slice none 0 0)] rfl (fun k8 hb1 hb2 h9 hb3 => ?_))
      have hS := hS k8 hb1 hb2 h9 hb3
      refine Run.go rfl rfl rfl (sem_assign ((Value.pointer (some ⟨k8, 0, none⟩))) rfl ?_)
      refine Run.region_end ?_
      refine Run.seqJ (fun e h11 => Agree [(0, (Value.slice a1 n2 c3)), (3, (Value.pointer (some ⟨k8, 0, none⟩)))] e ∧ S_countermandlaw17_MarkStack_J1 B a1 n2 c3 k8 h11 Q) ?_ fun j10 => ?_
      · rintro e h11 ⟨hag, hS⟩
        refine Run.env hag ?_; clear hag
        refine Run.seqJ (fun e h13 => Agree [(3, (Value.pointer (some ⟨k8, 0, none⟩)))] e ∧ S_countermandlaw17_MarkStack_J2 B k8 h13 Q) ?_ fun j12 => ?_
        · rintro e h13 ⟨hag, hS⟩
          refine Run.env hag ?_; clear hag
          refine Run.seq ?_
          refine Run.ops0 (idx := [0, 1, 2, 3, 4, 5, 6, 7]) rfl ?_
          refine Run.go rfl rfl rfl (sem_move ((Value.pointer (some ⟨k8, 0, none⟩))) rfl ?_)
          refine Run.go rfl rfl rfl (sem_callL [(Value.pointer (some ⟨k8, 0, none⟩))] (TF.goes_61) rfl rfl (Spec.mono hS fun v h14 hv => ?_))
          obtain ⟨p15, p16, p17, i18, i19, i20, i21, i22, i23, i24, i25, i26, b27, rfl, hS⟩ := hv
          refine Run.go rfl rfl rfl (sem_move ((Value.tuple #[(Value.agg #[(Value.pointer p15), (Value.pointer p16), (Value.pointer p17), (Value.int .i64 (i18)), (Value.int .i64 (i19)), (Value.int .i64 (i20)), (Value.int .i64 (i21)), (Value.int .i64 (i22)), (Value.int .i64 (i23)), (Value.int .i64 (i24)), (Value.int .i64 (i25)), (Value.int .i64 (i26))]), (Value.bool b27)])) rfl ?_)
          refine Run.go rfl rfl rfl (sem_extract #[(Value.agg #[(Value.pointer p15), (Value.pointer p16), (Value.pointer p17), (Value.int .i64 (i18)), (Value.int .i64 (i19)), (Value.int .i64 (i20)), (Value.int .i64 (i21)), (Value.int .i64 (i22)), (Value.int .i64 (i23)), (Value.int .i64 (i24)), (Value.int .i64 (i25)), (Value.int .i64 (i26))]), (Value.bool b27)] ((Value.agg #[(Value.pointer p15), (Value.pointer p16), (Value.pointer p17), (Value.int .i64 (i18)), (Value.int .i64 (i19)), (Value.int .i64 (i20)), (Value.int .i64 (i21)), (Value.int .i64 (i22)), (Value.int .i64 (i23)), (Value.int .i64 (i24)), (Value.int .i64 (i25)), (Value.int .i64 (i26))])) rfl rfl ?_)
          obtain ⟨hT, hF⟩ := hS
          cases b27
          · have hS := hF rfl; clear hT hF
            refine Run.go rfl rfl rfl (sem_extract #[(Value.agg #[(Value.pointer p15), (Value.pointer p16), (Value.pointer p17), (Value.int .i64 (i18)), (Value.int .i64 (i19)), (Value.int .i64 (i20)), (Value.int .i64 (i21)), (Value.int .i64 (i22)), (Value.int .i64 (i23)), (Value.int .i64 (i24)), (Value.int .i64 (i25)), (Value.int .i64 (i26))]), (Value.bool false)] (.bool false) rfl rfl ?_)
            refine Run.go rfl rfl rfl (sem_allocN [(Value.pointer none), (Value.pointer none), (Value.pointer none), (Value.int .i64 (0)), (Value.int .i64 (0)), (Value.int .i64 (0)), (Value.int .i64 (0)), (Value.int .i64 (0)), (Value.int .i64 (0)), (Value.int .i64 (0)), (Value.int .i64 (0)), (Value.int .i64 (0))] TF.zero_115 (fun k28 hb1 hb2 h29 hb3 => ?_))
            have hS := hS k28 hb1 hb2 h29 hb3
            obtain ⟨h30, hst, hS⟩ := hS
            refine Run.go rfl rfl rfl (sem_storeN ⟨k28, 0, none⟩ [(Value.pointer p15), (Value.pointer p16), (Value.pointer p17), (Value.int .i64 (i18)), (Value.int .i64 (i19)), (Value.int .i64 (i20)), (Value.int .i64 (i21)), (Value.int .i64 (i22)), (Value.int .i64 (i23)), (Value.int .i64 (i24)), (Value.int .i64 (i25)), (Value.int .i64 (i26))] h30 rfl rfl TF.sz_115 hst ?_)
            refine Run.go rfl rfl rfl (sem_assign ((Value.bool false)) rfl ?_)
            refine Run.region_end ?_
            refine Run.seq ?_
            refine Run.ops0 (idx := [0, 1, 2, 3, 4, 5, 6, 7]) rfl ?_
            refine Run.go rfl rfl rfl (sem_move ((Value.bool false)) rfl ?_)
            refine Run.go rfl rfl rfl (sem_not false rfl ?_)
            refine Run.go rfl rfl rfl (sem_move ((Value.bool true)) rfl ?_)
            refine Run.go rfl rfl rfl (sem_move ((Value.pointer (some ⟨k8, 0, none⟩))) rfl ?_)
            refine Run.go rfl rfl rfl (sem_callL [(Value.pointer (some ⟨k8, 0, none⟩))] (TF.goes_60) rfl rfl (Spec.mono hS fun v h31 hv => ?_))
            obtain ⟨i32, rfl, hS⟩ := hv
            refine Run.go rfl rfl rfl (sem_binI .i64 (i32) (0) ((Value.bool ((i32 : Int) == (0)))) rfl rfl rfl ?_)
            refine Run.go rfl rfl rfl (sem_pick true ((Value.bool ((i32 : Int) == (0)))) rfl rfl ?_)
            refine Run.go rfl rfl rfl (sem_assign ((Value.bool ((i32 : Int) == (0)))) rfl ?_)
            refine Run.region_end ?_
            refine Run.ret ⟨.inr rfl, ?_⟩
            exact hS.imp fun h' hq => ⟨(((i32 : Int) == (0))), rfl, hq⟩
          · have hS := hT rfl; clear hT hF
            refine Run.go rfl rfl rfl (sem_extract #[(Value.agg #[(Value.pointer p15), (Value.pointer p16), (Value.pointer p17), (Value.int .i64 (i18)), (Value.int .i64 (i19)), (Value.int .i64 (i20)), (Value.int .i64 (i21)), (Value.int .i64 (i22)), (Value.int .i64 (i23)), (Value.int .i64 (i24)), (Value.int .i64 (i25)), (Value.int .i64 (i26))]), (Value.bool true)] (.bool true) rfl rfl ?_)
            refine Run.go rfl rfl rfl (sem_allocN [(Value.pointer none), (Value.pointer none), (Value.pointer none), (Value.int .i64 (0)), (Value.int .i64 (0)), (Value.int .i64 (0)), (Value.int .i64 (0)), (Value.int .i64 (0)), (Value.int .i64 (0)), (Value.int .i64 (0)), (Value.int .i64 (0)), (Value.int .i64 (0))] TF.zero_115 (fun k33 hb1 hb2 h34 hb3 => ?_))
            have hS := hS k33 hb1 hb2 h34 hb3
            obtain ⟨h35, hst, hS⟩ := hS
            refine Run.go rfl rfl rfl (sem_storeN ⟨k33, 0, none⟩ [(Value.pointer p15), (Value.pointer p16), (Value.pointer p17), (Value.int .i64 (i18)), (Value.int .i64 (i19)), (Value.int .i64 (i20)), (Value.int .i64 (i21)), (Value.int .i64 (i22)), (Value.int .i64 (i23)), (Value.int .i64 (i24)), (Value.int .i64 (i25)), (Value.int .i64 (i26))] h35 rfl rfl TF.sz_115 hst ?_)
            refine Run.go rfl rfl rfl (sem_assign ((Value.bool true)) rfl ?_)
            refine Run.region_end ?_
            refine Run.seq ?_
            refine Run.ops0 (idx := [0, 1, 2, 3, 4, 5, 6, 7]) rfl ?_
            refine Run.go rfl rfl rfl (sem_move ((Value.bool true)) rfl ?_)
            refine Run.go rfl rfl rfl (sem_not true rfl ?_)
            refine Run.go rfl rfl rfl (sem_move ((Value.bool false)) rfl ?_)
            refine Run.no rfl rfl rfl ?_
            refine Run.no rfl rfl rfl ?_
            refine Run.no rfl rfl rfl ?_
            refine Run.go rfl rfl rfl (sem_pick false ((Value.bool false)) rfl rfl ?_)
            refine Run.go rfl rfl rfl (sem_assign ((Value.bool false)) rfl ?_)
            refine Run.region_end ?_
            refine Run.ret ⟨.inr rfl, ?_⟩
            exact hS.imp fun h' hq => ⟨(false), rfl, hq⟩
        refine Run.seq ?_
        refine Run.ops0 (idx := [0, 1, 2, 3]) rfl ?_
        refine Run.go rfl rfl rfl (sem_move ((Value.slice a1 n2 c3)) rfl ?_)
        refine Run.go rfl rfl rfl (sem_lenSl a1 n2 c3 rfl TF.sl_65 ?_)
        refine Run.go rfl rfl rfl (sem_binI .i64 ((n2 : Nat)) (1) ((Value.int .i64 (IntKind.wrap .i64 (((n2 : Nat)) - (1))))) rfl rfl rfl ?_)
        refine Run.go rfl rfl rfl (sem_assign ((Value.int .i64 (IntKind.wrap .i64 (((n2 : Nat)) - (1))))) rfl ?_)
        refine Run.region_end ?_
        refine Run.block ?_
        obtain ⟨J41, m39, h0, hS⟩ := hS
        refine Run.of_fin (h0.imp fun h' h0 => ?_)
        refine Run.loop (σ := Int × Nat) (fun x e h => J41 x.1 x.2 h ∧ Agree [(0, (Value.slice a1 n2 c3)), (3, (Value.pointer (some ⟨k8, 0, none⟩))), (6, (Value.int .i64 (x.1)))] e) (fun x => x.2) ((IntKind.wrap .i64 (((n2 : Nat)) - (1))), m39) ⟨h0, ⟨rfl, rfl, rfl, trivial⟩⟩ ?_; clear h0
        rintro ⟨i36, m38⟩ e h37 ⟨hJ, hag⟩ ih40
        have hS := hS i36 m38 h37 hJ; clear hJ
        refine Run.env hag ?_; clear hag
        refine Run.seq ?_
        refine Run.seq ?_
        refine Run.ops0 (idx := [0, 1]) rfl ?_
        refine Run.go rfl rfl rfl (sem_move ((Value.int .i64 (i36))) rfl ?_)
        obtain ⟨hT, hF⟩ := hS
        by_cases hb42 : (i36 : Int) ≥ (0)
        · have hS := hT hb42; clear hT hF
          refine Run.go rfl rfl rfl (sem_binI .i64 (i36) (0) (.bool true) rfl rfl (binI_geq_t hb42) ?_)
          refine Run.region_end ?_
          refine Run.condT rfl ?_
          refine Run.skip ?_
          refine Run.seq ?_
          refine Run.block ?_
          refine Run.seq ?_
          refine Run.ops0 (idx := [0, 1, 2, 3, 4, 5, 6, 7]) rfl ?_
          refine Run.go rfl rfl rfl (sem_move ((Value.pointer (some ⟨k8, 0, none⟩))) rfl ?_)
          refine Run.go rfl rfl rfl (sem_callL [(Value.pointer (some ⟨k8, 0, none⟩))] (TF.goes_61) rfl rfl (Spec.mono hS fun v h43 hv => ?_))
          obtain ⟨p44, p45, p46, i47, i48, i49, i50, i51, i52, i53, i54, i55, b56, rfl, hS⟩ := hv
          refine Run.go rfl rfl rfl (sem_move ((Value.tuple #[(Value.agg #[(Value.pointer p44), (Value.pointer p45), (Value.pointer p46), (Value.int .i64 (i47)), (Value.int .i64 (i48)), (Value.int .i64 (i49)), (Value.int .i64 (i50)), (Value.int .i64 (i51)), (Value.int .i64 (i52)), (Value.int .i64 (i53)), (Value.int .i64 (i54)), (Value.int .i64 (i55))]), (Value.bool b56)])) rfl ?_)
          refine Run.go rfl rfl rfl (sem_extract #[(Value.agg #[(Value.pointer p44), (Value.pointer p45), (Value.pointer p46), (Value.int .i64 (i47)), (Value.int .i64 (i48)), (Value.int .i64 (i49)), (Value.int .i64 (i50)), (Value.int .i64 (i51)), (Value.int .i64 (i52)), (Value.int .i64 (i53)), (Value.int .i64 (i54)), (Value.int .i64 (i55))]), (Value.bool b56)] ((Value.agg #[(Value.pointer p44), (Value.pointer p45), (Value.pointer p46), (Value.int .i64 (i47)), (Value.int .i64 (i48)), (Value.int .i64 (i49)), (Value.int .i64 (i50)), (Value.int .i64 (i51)), (Value.int .i64 (i52)), (Value.int .i64 (i53)), (Value.int .i64 (i54)), (Value.int .i64 (i55))])) rfl rfl ?_)
          obtain ⟨hT, hF⟩ := hS
          cases b56
          · have hS := hF rfl; clear hT hF
            refine Run.go rfl rfl rfl (sem_extract #[(Value.agg #[(Value.pointer p44), (Value.pointer p45), (Value.pointer p46), (Value.int .i64 (i47)), (Value.int .i64 (i48)), (Value.int .i64 (i49)), (Value.int .i64 (i50)), (Value.int .i64 (i51)), (Value.int .i64 (i52)), (Value.int .i64 (i53)), (Value.int .i64 (i54)), (Value.int .i64 (i55))]), (Value.bool false)] (.bool false) rfl rfl ?_)
            refine Run.go rfl rfl rfl (sem_allocN [(Value.pointer none), (Value.pointer none), (Value.pointer none), (Value.int .i64 (0)), (Value.int .i64 (0)), (Value.int .i64 (0)), (Value.int .i64 (0)), (Value.int .i64 (0)), (Value.int .i64 (0)), (Value.int .i64 (0)), (Value.int .i64 (0)), (Value.int .i64 (0))] TF.zero_115 (fun k57 hb1 hb2 h58 hb3 => ?_))
            have hS := hS k57 hb1 hb2 h58 hb3
            obtain ⟨h59, hst, hS⟩ := hS
            refine Run.go rfl rfl rfl (sem_storeN ⟨k57, 0, none⟩ [(Value.pointer p44), (Value.pointer p45), (Value.pointer p46), (Value.int .i64 (i47)), (Value.int .i64 (i48)), (Value.int .i64 (i49)), (Value.int .i64 (i50)), (Value.int .i64 (i51)), (Value.int .i64 (i52)), (Value.int .i64 (i53)), (Value.int .i64 (i54)), (Value.int .i64 (i55))] h59 rfl rfl TF.sz_115 hst ?_)
            refine Run.go rfl rfl rfl (sem_assign ((Value.bool false)) rfl ?_)
            refine Run.region_end ?_
            refine Run.seq ?_
            refine Run.draw (fun h' => h' = h59) [] [.q 0, .q 1, .q 2, .q 3, .q 4, .q 5, .q 6, .q 7, .q 8, .q 9, .q 10, .q 11, .q 12, .q 13, .q 14, .q 15, .q 16, .q 17, .q 18, .q 19, .q 20, .q 21] TF.mixed (by kernel_rfl) rfl ?_
            refine RunO.quiet rfl rfl rfl (quiet_eq (sem_move ((Value.bool false)) rfl ⟨rfl, rfl⟩)) ?_
            refine RunO.quiet rfl rfl rfl (quiet_eq (sem_not false rfl ⟨rfl, rfl⟩)) ?_
            refine RunO.quiet rfl rfl rfl (quiet_eq (sem_move ((Value.bool true)) rfl ⟨rfl, rfl⟩)) ?_
            refine RunO.skip rfl rfl rfl ?_
            refine RunO.skip rfl rfl rfl ?_
            refine RunO.skip rfl rfl rfl ?_
            refine RunO.skip rfl rfl rfl ?_
            refine RunO.skip rfl rfl rfl ?_
            refine RunO.skip rfl rfl rfl ?_
            refine RunO.skip rfl rfl rfl ?_
            refine RunO.quiet rfl rfl rfl (quiet_eq (sem_pick true ((Value.bool true)) rfl rfl ⟨rfl, rfl⟩)) ?_
            refine RunO.quiet rfl rfl rfl (quiet_eq (sem_move ((Value.bool true)) rfl ⟨rfl, rfl⟩)) ?_
            refine RunO.skip rfl rfl rfl ?_
            refine RunO.skip rfl rfl rfl ?_
            refine RunO.skip rfl rfl rfl ?_
            refine RunO.skip rfl rfl rfl ?_
            refine RunO.skip rfl rfl rfl ?_
            refine RunO.skip rfl rfl rfl ?_
            refine RunO.skip rfl rfl rfl ?_
            refine RunO.skip rfl rfl rfl ?_
            refine RunO.skip rfl rfl rfl ?_
            refine RunO.quiet rfl rfl rfl (quiet_eq (sem_pick true ((Value.bool true)) rfl rfl ⟨rfl, rfl⟩)) ?_
            refine Run.condT rfl ?_
            refine Run.seq ?_
            refine Run.ops0 (idx := [0]) rfl ?_
            refine Run.go rfl rfl rfl (sem_assign ((Value.bool false)) rfl ?_)
            refine Run.region_end ?_
            refine Run.ret ⟨.inr rfl, ?_⟩
            exact hS.imp fun h' hq => ⟨(false), rfl, hq⟩
          · have hS := hT rfl; clear hT hF
            refine Run.go rfl rfl rfl (sem_extract #[(Value.agg #[(Value.pointer p44), (Value.pointer p45), (Value.pointer p46), (Value.int .i64 (i47)), (Value.int .i64 (i48)), (Value.int .i64 (i49)), (Value.int .i64 (i50)), (Value.int .i64 (i51)), (Value.int .i64 (i52)), (Value.int .i64 (i53)), (Value.int .i64 (i54)), (Value.int .i64 (i55))]), (Value.bool true)] (.bool true) rfl rfl ?_)
            refine Run.go rfl rfl rfl (sem_allocN [(Value.pointer none), (Value.pointer none), (Value.pointer none), (Value.int .i64 (0)), (Value.int .i64 (0)), (Value.int .i64 (0)), (Value.int .i64 (0)), (Value.int .i64 (0)), (Value.int .i64 (0)), (Value.int .i64 (0)), (Value.int .i64 (0)), (Value.int .i64 (0))] TF.zero_115 (fun k60 hb1 hb2 h61 hb3 => ?_))
            have hS := hS k60 hb1 hb2 h61 hb3
            obtain ⟨h62, hst, hS⟩ := hS
            refine Run.go rfl rfl rfl (sem_storeN ⟨k60, 0, none⟩ [(Value.pointer p44), (Value.pointer p45), (Value.pointer p46), (Value.int .i64 (i47)), (Value.int .i64 (i48)), (Value.int .i64 (i49)), (Value.int .i64 (i50)), (Value.int .i64 (i51)), (Value.int .i64 (i52)), (Value.int .i64 (i53)), (Value.int .i64 (i54)), (Value.int .i64 (i55))] h62 rfl rfl TF.sz_115 hst ?_)
            refine Run.go rfl rfl rfl (sem_assign ((Value.bool true)) rfl ?_)
            refine Run.region_end ?_
            refine Run.seq ?_
            refine Run.draw (fun h' => h' = h62) [] [.q 0, .q 1, .q 2, .q 3, .q 4, .q 5, .q 6, .q 7, .q 8, .q 9, .q 10, .q 11, .q 12, .q 13, .q 14, .q 15, .q 16, .q 17, .q 18, .q 19, .q 20, .q 21] TF.mixed (by kernel_rfl) rfl ?_
            refine RunO.quiet rfl rfl rfl (quiet_eq (sem_move ((Value.bool true)) rfl ⟨rfl, rfl⟩)) ?_
            refine RunO.quiet rfl rfl rfl (quiet_eq (sem_not true rfl ⟨rfl, rfl⟩)) ?_
            refine RunO.quiet rfl rfl rfl (quiet_eq (sem_move ((Value.bool false)) rfl ⟨rfl, rfl⟩)) ?_
            refine RunO.quiet rfl rfl rfl (quiet_eq (sem_fieldAddr ⟨k60, 0, none⟩ 11 rfl TF.fld_115_2 ⟨rfl, rfl⟩)) ?_
            obtain ⟨i63, hl, hS⟩ := hS
            refine RunO.quiet rfl rfl rfl (quiet_eq (sem_load1 ⟨k60, 11, none⟩ ((Value.int .i64 (i63))) rfl TF.agg_3 hl ⟨rfl, rfl⟩)) ?_
            refine RunO.quiet rfl rfl rfl (quiet_eq (sem_move ((Value.slice a1 n2 c3)) rfl ⟨rfl, rfl⟩)) ?_
            refine RunO.quiet rfl rfl rfl (quiet_eq (sem_move ((Value.int .i64 (i36))) rfl ⟨rfl, rfl⟩)) ?_
            obtain ⟨A64, e65, hi0, hi1, hS⟩ := hS
            refine RunO.quiet rfl rfl rfl (quiet_eq (sem_indexAddrS A64 n2 c3 .i64 (i36) (congrArg (fun a => Value.slice a n2 c3) e65) rfl TF.slc_65 hi0 hi1 ⟨rfl, rfl⟩)) ?_
            obtain ⟨i66, hl, hS⟩ := hS
            refine RunO.quiet rfl rfl rfl (quiet_eq (sem_load1 (Addr.add A64 (Int.toNat (i36) * 1)) ((Value.int .i64 (i66))) rfl TF.agg_3 hl ⟨rfl, rfl⟩)) ?_
            obtain ⟨hT, hF⟩ := hS
            by_cases hb67 : (i63 : Int) = i66
            · have hS := hT hb67; clear hT hF
              refine RunO.quiet rfl rfl rfl (quiet_eq (sem_binI .i64 (i63) (i66) (.bool false) rfl rfl (binI_neq_t hb67) ⟨rfl, rfl⟩)) ?_
              refine RunO.quiet rfl rfl rfl (quiet_eq (sem_pick false ((Value.bool false)) rfl rfl ⟨rfl, rfl⟩)) ?_
              refine RunO.quiet rfl rfl rfl (quiet_eq (sem_move ((Value.bool false)) rfl ⟨rfl, rfl⟩)) ?_
              refine RunO.quiet rfl rfl rfl (quiet_eq (sem_fieldAddr ⟨k60, 0, none⟩ 0 rfl TF.fld_115_0 ⟨rfl, rfl⟩)) ?_
              refine RunO.quiet rfl rfl rfl (quiet_eq (sem_fieldAddr ⟨k60, 0, none⟩ 3 rfl TF.fld_112_3 ⟨rfl, rfl⟩)) ?_
              obtain ⟨hi0, hi1, hS⟩ := hS
              refine RunO.quiet rfl rfl rfl (quiet_eq (sem_indexAddrA ⟨k60, 3, none⟩ .i64 (0) rfl rfl TF.arr_110 hi0 hi1 ⟨rfl, rfl⟩)) ?_
              obtain ⟨i68, hl, hS⟩ := hS
              refine RunO.quiet rfl rfl rfl (quiet_eq (sem_load1 ⟨k60, 3, none⟩ ((Value.int .i64 (i68))) rfl TF.agg_3 hl ⟨rfl, rfl⟩)) ?_
              refine RunO.quiet rfl rfl rfl (quiet_eq (sem_move ((Value.slice a1 n2 c3)) rfl ⟨rfl, rfl⟩)) ?_
              refine RunO.quiet rfl rfl rfl (quiet_eq (sem_move ((Value.int .i64 (i36))) rfl ⟨rfl, rfl⟩)) ?_
              obtain ⟨A69, e70, hi0, hi1, hS⟩ := hS
              refine RunO.quiet rfl rfl rfl (quiet_eq (sem_indexAddrS A69 n2 c3 .i64 (i36) (congrArg (fun a => Value.slice a n2 c3) e70) rfl TF.slc_65 hi0 hi1 ⟨rfl, rfl⟩)) ?_
              obtain ⟨i71, hl, hS⟩ := hS
              refine RunO.quiet rfl rfl rfl (quiet_eq (sem_load1 (Addr.add A69 (Int.toNat (i36) * 1)) ((Value.int .i64 (i71))) rfl TF.agg_3 hl ⟨rfl, rfl⟩)) ?_
              obtain ⟨hT, hF⟩ := hS
              by_cases hb72 : (i68 : Int) = i71
              · have hS := hT hb72; clear hT hF
                refine RunO.quiet rfl rfl rfl (quiet_eq (sem_binI .i64 (i68) (i71) (.bool false) rfl rfl (binI_neq_t hb72) ⟨rfl, rfl⟩)) ?_
                refine RunO.quiet rfl rfl rfl (quiet_eq (sem_pick false ((Value.bool false)) rfl rfl ⟨rfl, rfl⟩)) ?_
                refine Run.condF rfl ?_
                refine Run.skip ?_
                refine Run.inBlock ?_
                refine Run.ops0 (idx := [0, 1, 2]) rfl ?_
                refine Run.go rfl rfl rfl (sem_move ((Value.int .i64 (i36))) rfl ?_)
                refine Run.go rfl rfl rfl (sem_binI .i64 (i36) (1) ((Value.int .i64 (IntKind.wrap .i64 ((i36) - (1))))) rfl rfl rfl ?_)
                refine Run.go rfl rfl rfl (sem_assign ((Value.int .i64 (IntKind.wrap .i64 ((i36) - (1))))) rfl ?_)
                refine Run.region_end ?_
                exact Run.of_fin (hS.imp fun h' ⟨m', hm, hS⟩ => ih40 ((IntKind.wrap .i64 ((i36) - (1))), m') _ _ ⟨hS, ⟨rfl, rfl, rfl, trivial⟩⟩ hm)
              · have hS := hF hb72; clear hT hF
                refine RunO.quiet rfl rfl rfl (quiet_eq (sem_binI .i64 (i68) (i71) (.bool true) rfl rfl (binI_neq_f hb72) ⟨rfl, rfl⟩)) ?_
                refine RunO.quiet rfl rfl rfl (quiet_eq (sem_pick false ((Value.bool true)) rfl rfl ⟨rfl, rfl⟩)) ?_
                refine Run.condT rfl ?_
                refine Run.seq ?_
                refine Run.ops0 (idx := [0]) rfl ?_
                refine Run.go rfl rfl rfl (sem_assign ((Value.bool false)) rfl ?_)
                refine Run.region_end ?_
                refine Run.ret ⟨.inr rfl, ?_⟩
                exact hS.imp fun h' hq => ⟨(false), rfl, hq⟩
            · have hS := hF hb67; clear hT hF
              refine RunO.quiet rfl rfl rfl (quiet_eq (sem_binI .i64 (i63) (i66) (.bool true) rfl rfl (binI_neq_f hb67) ⟨rfl, rfl⟩)) ?_
              refine RunO.quiet rfl rfl rfl (quiet_eq (sem_pick false ((Value.bool true)) rfl rfl ⟨rfl, rfl⟩)) ?_
              refine RunO.quiet rfl rfl rfl (quiet_eq (sem_move ((Value.bool true)) rfl ⟨rfl, rfl⟩)) ?_
              refine RunO.skip rfl rfl rfl ?_
              refine RunO.skip rfl rfl rfl ?_
              refine RunO.skip rfl rfl rfl ?_
              refine RunO.skip rfl rfl rfl ?_
              refine RunO.skip rfl rfl rfl ?_
              refine RunO.skip rfl rfl rfl ?_
              refine RunO.skip rfl rfl rfl ?_
              refine RunO.skip rfl rfl rfl ?_
              refine RunO.skip rfl rfl rfl ?_
              refine RunO.quiet rfl rfl rfl (quiet_eq (sem_pick true ((Value.bool true)) rfl rfl ⟨rfl, rfl⟩)) ?_
              refine Run.condT rfl ?_
              refine Run.seq ?_
              refine Run.ops0 (idx := [0]) rfl ?_
              refine Run.go rfl rfl rfl (sem_assign ((Value.bool false)) rfl ?_)
              refine Run.region_end ?_
              refine Run.ret ⟨.inr rfl, ?_⟩
              exact hS.imp fun h' hq => ⟨(false), rfl, hq⟩
        · have hS := hF hb42; clear hT hF
          refine Run.go rfl rfl rfl (sem_binI .i64 (i36) (0) (.bool false) rfl rfl (binI_geq_f hb42) ?_)
          refine Run.region_end ?_
          refine Run.condF rfl ?_
          refine Run.exit rfl ?_
          exact Run.of_fin (hS.imp fun h' hS => j12 _ _ ⟨⟨rfl, trivial⟩, hS⟩)
      refine Run.seq ?_
      refine Run.ops0 (idx := [0, 1, 2]) rfl ?_
      refine Run.go rfl rfl rfl (sem_move ((Value.slice a1 n2 c3)) rfl ?_)
      refine Run.go rfl rfl rfl (sem_lenSl a1 n2 c3 rfl TF.sl_65 ?_)
      refine Run.go rfl rfl rfl (sem_move ((Value.int .i64 (0))) rfl ?_)
      refine Run.region_end ?_
      refine Run.block ?_
      obtain ⟨J78, m76, h0, hS⟩ := hS
      refine Run.of_fin (h0.imp fun h' h0 => ?_)
      refine Run.loop (σ := Int × Nat) (fun x e h => J78 x.1 x.2 h ∧ Agree [(0, (Value.slice a1 n2 c3)), (3, (Value.pointer (some ⟨k8, 0, none⟩))), (18, (Value.slice a1 n2 c3)), (19, (Value.int .i64 ((n2 : Nat)))), (20, (Value.int .i64 (x.1)))] e) (fun x => x.2) ((0), m76) ⟨h0, ⟨rfl, rfl, rfl, rfl, rfl, trivial⟩⟩ ?_; clear h0
      rintro ⟨i73, m75⟩ e h74 ⟨hJ, hag⟩ ih77
      have hS := hS i73 m75 h74 hJ; clear hJ
      refine Run.env hag ?_; clear hag
      refine Run.seq ?_
      refine Run.ops0 (idx := [0]) rfl ?_
      obtain ⟨hT, hF⟩ := hS
      by_cases hb79 : (i73 : Int) < ((n2 : Nat))
      · have hS := hT hb79; clear hT hF
        refine Run.go rfl rfl rfl (sem_binI .i64 (i73) ((n2 : Nat)) (.bool true) rfl rfl (binI_lss_t hb79) ?_)
        refine Run.region_end ?_
        refine Run.seq ?_
        refine Run.condT rfl ?_
        refine Run.skip ?_
        refine Run.seq ?_
        refine Run.block ?_
        refine Run.seq ?_
        refine Run.ops0 (idx := [0, 1, 2, 3, 4]) rfl ?_
        refine Run.go rfl rfl rfl (sem_move ((Value.int .i64 (i73))) rfl ?_)
        obtain ⟨A80, e81, hi0, hi1, hS⟩ := hS
        refine Run.go rfl rfl rfl (sem_indexAddrS A80 n2 c3 .i64 (i73) (congrArg (fun a => Value.slice a n2 c3) e81) rfl TF.slc_65 hi0 hi1 ?_)
        obtain ⟨i82, hl, hS⟩ := hS
        refine Run.go rfl rfl rfl (sem_load1 (Addr.add A80 (Int.toNat (i73) * 1)) ((Value.int .i64 (i82))) rfl TF.agg_3 hl ?_)
        refine Run.go rfl rfl rfl (sem_assign ((Value.int .i64 (i73))) rfl ?_)
        refine Run.go rfl rfl rfl (sem_assign ((Value.int .i64 (i82))) rfl ?_)
        refine Run.region_end ?_
        refine Run.seq ?_
        refine Run.ops0 (idx := [0, 1, 2, 3, 4, 5, 6, 7, 8, 9, 10, 11, 12, 13, 14]) rfl ?_
        refine Run.go rfl rfl rfl (sem_move ((Value.pointer (some ⟨k8, 0, none⟩))) rfl ?_)
        refine Run.go rfl rfl rfl (sem_move ((Value.int .i64 (i82))) rfl ?_)
        refine Run.go rfl rfl rfl (sem_buildAL [(0, (Value.int .i64 (i82)))] [(Value.int .i64 (i82)), (Value.int .i64 (0)), (Value.int .i64 (0)), (Value.int .i64 (0))] TF.zero_110 TF.arr_110 rfl rfl ?_)
        refine Run.go rfl rfl rfl (sem_callL [(Value.agg #[(Value.int .i64 (i82)), (Value.int .i64 (0)), (Value.int .i64 (0)), (Value.int .i64 (0))])] (TF.goes_59) rfl rfl (Spec.mono hS fun v h83 hv => ?_))
        obtain ⟨p84, p85, p86, i87, i88, i89, i90, rfl, hS⟩ := hv
        refine Run.go rfl rfl rfl (sem_move ((Value.int .i64 (i82))) rfl ?_)
        refine Run.go rfl rfl rfl (sem_buildSL [(0, (Value.agg #[(Value.pointer p84), (Value.pointer p85), (Value.pointer p86), (Value.int .i64 (i87)), (Value.int .i64 (i88)), (Value.int .i64 (i89)), (Value.int .i64 (i90))])), (2, (Value.int .i64 (i82)))] [(Value.pointer p84), (Value.pointer p85), (Value.pointer p86), (Value.int .i64 (i87)), (Value.int .i64 (i88)), (Value.int .i64 (i89)), (Value.int .i64 (i90)), (Value.int .i64 (0)), (Value.int .i64 (0)), (Value.int .i64 (0)), (Value.int .i64 (0)), (Value.int .i64 (i82))] TF.zero_115 TF.places_115 rfl rfl ?_)
        refine Run.go rfl rfl rfl (sem_callL [(Value.pointer (some ⟨k8, 0, none⟩)), (Value.agg #[(Value.pointer p84), (Value.pointer p85), (Value.pointer p86), (Value.int .i64 (i87)), (Value.int .i64 (i88)), (Value.int .i64 (i89)), (Value.int .i64 (i90)), (Value.int .i64 (0)), (Value.int .i64 (0)), (Value.int .i64 (0)), (Value.int .i64 (0)), (Value.int .i64 (i82))])] (TF.goes_58) rfl rfl (Spec.mono hS fun v h91 hv => ?_))
        obtain ⟨b92, rfl, hS⟩ := hv
        obtain ⟨hT, hF⟩ := hS
        cases b92
        · have hS := hF rfl; clear hT hF
          refine Run.go rfl rfl rfl (sem_not false rfl ?_)
          refine Run.go rfl rfl rfl (sem_move ((Value.bool true)) rfl ?_)
          refine Run.no rfl rfl rfl ?_
          refine Run.no rfl rfl rfl ?_
          refine Run.no rfl rfl rfl ?_
          refine Run.no rfl rfl rfl ?_
          refine Run.no rfl rfl rfl ?_
          refine Run.go rfl rfl rfl (sem_pick true ((Value.bool true)) rfl rfl ?_)
          refine Run.region_end ?_
          refine Run.condT rfl ?_
          refine Run.seq ?_
          refine Run.ops0 (idx := [0]) rfl ?_
          refine Run.go rfl rfl rfl (sem_assign ((Value.bool false)) rfl ?_)
          refine Run.region_end ?_
          refine Run.ret ⟨.inr rfl, ?_⟩
          exact hS.imp fun h' hq => ⟨(false), rfl, hq⟩
        · have hS := hT rfl; clear hT hF
          refine Run.go rfl rfl rfl (sem_not true rfl ?_)
          refine Run.go rfl rfl rfl (sem_move ((Value.bool false)) rfl ?_)
          refine Run.go rfl rfl rfl (sem_move ((Value.pointer (some ⟨k8, 0, none⟩))) rfl ?_)
          refine Run.go rfl rfl rfl (sem_callL [(Value.pointer (some ⟨k8, 0, none⟩))] (TF.goes_60) rfl rfl (Spec.mono hS fun v h93 hv => ?_))
          obtain ⟨i94, rfl, hS⟩ := hv
          refine Run.go rfl rfl rfl (sem_move ((Value.int .i64 (i73))) rfl ?_)
          refine Run.go rfl rfl rfl (sem_binI .i64 (i73) (1) ((Value.int .i64 (IntKind.wrap .i64 ((i73) + (1))))) rfl rfl rfl ?_)
          obtain ⟨hT, hF⟩ := hS
          by_cases hb95 : (i94 : Int) = IntKind.wrap .i64 ((i73) + (1))
          · have hS := hT hb95; clear hT hF
            refine Run.go rfl rfl rfl (sem_binI .i64 (i94) (IntKind.wrap .i64 ((i73) + (1))) (.bool false) rfl rfl (binI_neq_t hb95) ?_)
            refine Run.go rfl rfl rfl (sem_pick false ((Value.bool false)) rfl rfl ?_)
            refine Run.region_end ?_
            refine Run.condF rfl ?_
            refine Run.skip ?_
            refine Run.inBlock ?_
            refine Run.ops0 (idx := [0, 1]) rfl ?_
            refine Run.go rfl rfl rfl (sem_binI .i64 (i73) (1) ((Value.int .i64 (IntKind.wrap .i64 ((i73) + (1))))) rfl rfl rfl ?_)
            refine Run.go rfl rfl rfl (sem_move ((Value.int .i64 (IntKind.wrap .i64 ((i73) + (1))))) rfl ?_)
            refine Run.region_end ?_
            exact Run.of_fin (hS.imp fun h' ⟨m', hm, hS⟩ => ih77 ((IntKind.wrap .i64 ((i73) + (1))), m') _ _ ⟨hS, ⟨rfl, rfl, rfl, rfl, rfl, trivial⟩⟩ hm)
          · have hS := hF hb95; clear hT hF
            refine Run.go rfl rfl rfl (sem_binI .i64 (i94) (IntKind.wrap .i64 ((i73) + (1))) (.bool true) rfl rfl (binI_neq_f hb95) ?_)
            refine Run.go rfl rfl rfl (sem_pick false ((Value.bool true)) rfl rfl ?_)
            refine Run.region_end ?_
            refine Run.condT rfl ?_
            refine Run.seq ?_
            refine Run.ops0 (idx := [0]) rfl ?_
            refine Run.go rfl rfl rfl (sem_assign ((Value.bool false)) rfl ?_)
            refine Run.region_end ?_
            refine Run.ret ⟨.inr rfl, ?_⟩
            exact hS.imp fun h' hq => ⟨(false), rfl, hq⟩
      · have hS := hF hb79; clear hT hF
        refine Run.go rfl rfl rfl (sem_binI .i64 (i73) ((n2 : Nat)) (.bool false) rfl rfl (binI_lss_f hb79) ?_)
        refine Run.region_end ?_
        refine Run.seq ?_
        refine Run.condF rfl ?_
        refine Run.exit rfl ?_
        exact Run.of_fin (hS.imp fun h' hS => j10 _ _ ⟨⟨rfl, rfl, trivial⟩, hS⟩)
set_option maxHeartbeats 4000000 in
theorem C_countermandlaw17_alive.of {B : RO} {h : Heap} {Q : Bool → Heap → Prop} (hS : S_countermandlaw17_alive B h Q) : C_countermandlaw17_alive B h Q := by
  unfold S_countermandlaw17_alive at hS
  unfold C_countermandlaw17_alive
  refine Spec.of_run Try.func57 (N := 37) (rs := [ResultVar.tmp 0]) rfl rfl rfl (Nat.le_of_ble_eq_true rfl) ?_
  refine Run.seq ?_
  refine Run.ops0 (idx := [0]) rfl ?_
  refine Run.go rfl rfl rfl (sem_assign ((Value.bool false)) rfl ?_)
  refine Run.region_end ?_
  refine Run.seq ?_
  refine Run.ops0 (idx := [0, 1, 2]) rfl ?_
  refine Run.go rfl rfl rfl (sem_buildSL [] [(Value.slice none 0 0)] TF.zero_105 TF.places_105 rfl rfl ?_)
  refine Run.go rfl rfl rfl (sem_boxNN [(Value.slice none 0 0)] rfl (fun k2 hb1 hb2 h3 hb3 => ?_))
  have hS := hS k2 hb1 hb2 h3 hb3
  refine Run.go rfl rfl rfl (sem_assign ((Value.pointer (some ⟨k2, 0, none⟩))) rfl ?_)
  refine Run.region_end ?_
  refine Run.seq ?_
  refine Run.ops0 (idx := [0, 1, 2, 3]) rfl ?_
  refine Run.go rfl rfl rfl (sem_buildAL [(0, (Value.int .i64 (1)))] [(Value.int .i64 (1)), (Value.int .i64 (0)), (Value.int .i64 (0)), (Value.int .i64 (0))] TF.zero_110 TF.arr_110 rfl rfl ?_)
  refine Run.go rfl rfl rfl (sem_callL [(Value.agg #[(Value.int .i64 (1)), (Value.int .i64 (0)), (Value.int .i64 (0)), (Value.int .i64 (0))])] (TF.goes_59) rfl rfl (Spec.mono hS fun v h4 hv => ?_))
  obtain ⟨p5, p6, p7, i8, i9, i10, i11, rfl, hS⟩ := hv
  refine Run.go rfl rfl rfl (sem_allocN [(Value.pointer none), (Value.pointer none), (Value.pointer none), (Value.int .i64 (0)), (Value.int .i64 (0)), (Value.int .i64 (0)), (Value.int .i64 (0))] TF.zero_112 (fun k12 hb1 hb2 h13 hb3 => ?_))
  have hS := hS k12 hb1 hb2 h13 hb3
  obtain ⟨h14, hst, hS⟩ := hS
  refine Run.go rfl rfl rfl (sem_storeN ⟨k12, 0, none⟩ [(Value.pointer p5), (Value.pointer p6), (Value.pointer p7), (Value.int .i64 (i8)), (Value.int .i64 (i9)), (Value.int .i64 (i10)), (Value.int .i64 (i11))] h14 rfl rfl TF.sz_112 hst ?_)
  refine Run.region_end ?_
  refine Run.seqJ (fun e h16 => Agree [(1, (Value.pointer (some ⟨k2, 0, none⟩)))] e ∧ S_countermandlaw17_alive_J1 B k2 h16 Q) ?_ fun j15 => ?_
  · rintro e h16 ⟨hag, hS⟩
    refine Run.env hag ?_; clear hag
    refine Run.seq ?_
    refine Run.ops0 (idx := [0, 1, 2, 3, 4, 5, 6, 7]) rfl ?_
    refine Run.go rfl rfl rfl (sem_move ((Value.pointer (some ⟨k2, 0, none⟩))) rfl ?_)
    refine Run.go rfl rfl rfl (sem_callL [(Value.pointer (some ⟨k2, 0, none⟩))] (TF.goes_61) rfl rfl (Spec.mono hS fun v h17 hv => ?_))
    obtain ⟨p18, p19, p20, i21, i22, i23, i24, i25, i26, i27, i28, i29, b30, rfl, hS⟩ := hv
    refine Run.go rfl rfl rfl (sem_move ((Value.tuple #[(Value.agg #[(Value.pointer p18), (Value.pointer p19), (Value.pointer p20), (Value.int .i64 (i21)), (Value.int .i64 (i22)), (Value.int .i64 (i23)), (Value.int .i64 (i24)), (Value.int .i64 (i25)), (Value.int .i64 (i26)), (Value.int .i64 (i27)), (Value.int .i64 (i28)), (Value.int .i64 (i29))]), (Value.bool b30)])) rfl ?_)
    refine Run.go rfl rfl rfl (sem_extract #[(Value.agg #[(Value.pointer p18), (Value.pointer p19), (Value.pointer p20), (Value.int .i64 (i21)), (Value.int .i64 (i22)), (Value.int .i64 (i23)), (Value.int .i64 (i24)), (Value.int .i64 (i25)), (Value.int .i64 (i26)), (Value.int .i64 (i27)), (Value.int .i64 (i28)), (Value.int .i64 (i29))]), (Value.bool b30)] ((Value.agg #[(Value.pointer p18), (Value.pointer p19), (Value.pointer p20), (Value.int .i64 (i21)), (Value.int .i64 (i22)), (Value.int .i64 (i23)), (Value.int .i64 (i24)), (Value.int .i64 (i25)), (Value.int .i64 (i26)), (Value.int .i64 (i27)), (Value.int .i64 (i28)), (Value.int .i64 (i29))])) rfl rfl ?_)
    obtain ⟨hT, hF⟩ := hS
    cases b30
    · have hS := hF rfl; clear hT hF
      refine Run.go rfl rfl rfl (sem_extract #[(Value.agg #[(Value.pointer p18), (Value.pointer p19), (Value.pointer p20), (Value.int .i64 (i21)), (Value.int .i64 (i22)), (Value.int .i64 (i23)), (Value.int .i64 (i24)), (Value.int .i64 (i25)), (Value.int .i64 (i26)), (Value.int .i64 (i27)), (Value.int .i64 (i28)), (Value.int .i64 (i29))]), (Value.bool false)] (.bool false) rfl rfl ?_)
      refine Run.go rfl rfl rfl (sem_allocN [(Value.pointer none), (Value.pointer none), (Value.pointer none), (Value.int .i64 (0)), (Value.int .i64 (0)), (Value.int .i64 (0)), (Value.int .i64 (0)), (Value.int .i64 (0)), (Value.int .i64 (0)), (Value.int .i64 (0)), (Value.int .i64 (0)), (Value.int .i64 (0))] TF.zero_115 (fun k31 hb1 hb2 h32 hb3 => ?_))
      have hS := hS k31 hb1 hb2 h32 hb3
      obtain ⟨h33, hst, hS⟩ := hS
      refine Run.go rfl rfl rfl (sem_storeN ⟨k31, 0, none⟩ [(Value.pointer p18), (Value.pointer p19), (Value.pointer p20), (Value.int .i64 (i21)), (Value.int .i64 (i22)), (Value.int .i64 (i23)), (Value.int .i64 (i24)), (Value.int .i64 (i25)), (Value.int .i64 (i26)), (Value.int .i64 (i27)), (Value.int .i64 (i28)), (Value.int .i64 (i29))] h33 rfl rfl TF.sz_115 hst ?_)
      refine Run.go rfl rfl rfl (sem_assign ((Value.bool false)) rfl ?_)
      refine Run.region_end ?_
      refine Run.seq ?_
      refine Run.ops0 (idx := [0, 1, 2, 3, 4, 5, 6, 7, 8, 9, 10, 11, 12, 13]) rfl ?_
      refine Run.go rfl rfl rfl (sem_move ((Value.bool false)) rfl ?_)
      refine Run.go rfl rfl rfl (sem_move ((Value.bool false)) rfl ?_)
      refine Run.no rfl rfl rfl ?_
      refine Run.no rfl rfl rfl ?_
      refine Run.no rfl rfl rfl ?_
      refine Run.go rfl rfl rfl (sem_pick false ((Value.bool false)) rfl rfl ?_)
      refine Run.go rfl rfl rfl (sem_move ((Value.bool false)) rfl ?_)
      refine Run.no rfl rfl rfl ?_
      refine Run.no rfl rfl rfl ?_
      refine Run.no rfl rfl rfl ?_
      refine Run.no rfl rfl rfl ?_
      refine Run.no rfl rfl rfl ?_
      refine Run.go rfl rfl rfl (sem_pick false ((Value.bool false)) rfl rfl ?_)
      refine Run.go rfl rfl rfl (sem_assign ((Value.bool false)) rfl ?_)
      refine Run.region_end ?_
      refine Run.ret ⟨.inr rfl, ?_⟩
      exact hS.imp fun h' hq => ⟨(false), rfl, hq⟩
    · have hS := hT rfl; clear hT hF
      refine Run.go rfl rfl rfl (sem_extract #[(Value.agg #[(Value.pointer p18), (Value.pointer p19), (Value.pointer p20), (Value.int .i64 (i21)), (Value.int .i64 (i22)), (Value.int .i64 (i23)), (Value.int .i64 (i24)), (Value.int .i64 (i25)), (Value.int .i64 (i26)), (Value.int .i64 (i27)), (Value.int .i64 (i28)), (Value.int .i64 (i29))]), (Value.bool true)] (.bool true) rfl rfl ?_)
      refine Run.go rfl rfl rfl (sem_allocN [(Value.pointer none), (Value.pointer none), (Value.pointer none), (Value.int .i64 (0)), (Value.int .i64 (0)), (Value.int .i64 (0)), (Value.int .i64 (0)), (Value.int .i64 (0)), (Value.int .i64 (0)), (Value.int .i64 (0)), (Value.int .i64 (0)), (Value.int .i64 (0))] TF.zero_115 (fun k34 hb1 hb2 h35 hb3 => ?_))
      have hS := hS k34 hb1 hb2 h35 hb3
      obtain ⟨h36, hst, hS⟩ := hS
      refine Run.go rfl rfl rfl (sem_storeN ⟨k34, 0, none⟩ [(Value.pointer p18), (Value.pointer p19), (Value.pointer p20), (Value.int .i64 (i21)), (Value.int .i64 (i22)), (Value.int .i64 (i23)), (Value.int .i64 (i24)), (Value.int .i64 (i25)), (Value.int .i64 (i26)), (Value.int .i64 (i27)), (Value.int .i64 (i28)), (Value.int .i64 (i29))] h36 rfl rfl TF.sz_115 hst ?_)
      refine Run.go rfl rfl rfl (sem_assign ((Value.bool true)) rfl ?_)
      refine Run.region_end ?_
      refine Run.seq ?_
      refine Run.ops0 (idx := [0, 1, 2, 3, 4, 5, 6, 7, 8, 9, 10, 11, 12, 13]) rfl ?_
      refine Run.go rfl rfl rfl (sem_move ((Value.bool true)) rfl ?_)
      refine Run.go rfl rfl rfl (sem_move ((Value.bool true)) rfl ?_)
      refine Run.go rfl rfl rfl (sem_fieldAddr ⟨k34, 0, none⟩ 11 rfl TF.fld_115_2 ?_)
      obtain ⟨i37, hl, hS⟩ := hS
      refine Run.go rfl rfl rfl (sem_load1 ⟨k34, 11, none⟩ ((Value.int .i64 (i37))) rfl TF.agg_3 hl ?_)
      obtain ⟨hT, hF⟩ := hS
      by_cases hb38 : (i37 : Int) = 5
      · have hS := hT hb38; clear hT hF
        refine Run.go rfl rfl rfl (sem_binI .i64 (i37) (5) (.bool true) rfl rfl (binI_eql_t hb38) ?_)
        refine Run.go rfl rfl rfl (sem_pick true ((Value.bool true)) rfl rfl ?_)
        refine Run.go rfl rfl rfl (sem_move ((Value.bool true)) rfl ?_)
        refine Run.go rfl rfl rfl (sem_fieldAddr ⟨k34, 0, none⟩ 0 rfl TF.fld_115_0 ?_)
        refine Run.go rfl rfl rfl (sem_fieldAddr ⟨k34, 0, none⟩ 3 rfl TF.fld_112_3 ?_)
        obtain ⟨hi0, hi1, hS⟩ := hS
        refine Run.go rfl rfl rfl (sem_indexAddrA ⟨k34, 3, none⟩ .i64 (0) rfl rfl TF.arr_110 hi0 hi1 ?_)
        obtain ⟨i39, hl, hS⟩ := hS
        refine Run.go rfl rfl rfl (sem_load1 ⟨k34, 3, none⟩ ((Value.int .i64 (i39))) rfl TF.agg_3 hl ?_)
        refine Run.go rfl rfl rfl (sem_binI .i64 (i39) (1) ((Value.bool ((i39 : Int) == (1)))) rfl rfl rfl ?_)
        refine Run.go rfl rfl rfl (sem_pick true ((Value.bool ((i39 : Int) == (1)))) rfl rfl ?_)
        refine Run.go rfl rfl rfl (sem_assign ((Value.bool ((i39 : Int) == (1)))) rfl ?_)
        refine Run.region_end ?_
        refine Run.ret ⟨.inr rfl, ?_⟩
        exact hS.imp fun h' hq => ⟨(((i39 : Int) == (1))), rfl, hq⟩
      · have hS := hF hb38; clear hT hF
        refine Run.go rfl rfl rfl (sem_binI .i64 (i37) (5) (.bool false) rfl rfl (binI_eql_f hb38) ?_)
        refine Run.go rfl rfl rfl (sem_pick true ((Value.bool false)) rfl rfl ?_)
        refine Run.go rfl rfl rfl (sem_move ((Value.bool false)) rfl ?_)
        refine Run.no rfl rfl rfl ?_
        refine Run.no rfl rfl rfl ?_
        refine Run.no rfl rfl rfl ?_
        refine Run.no rfl rfl rfl ?_
        refine Run.no rfl rfl rfl ?_
        refine Run.go rfl rfl rfl (sem_pick false ((Value.bool false)) rfl rfl ?_)
        refine Run.go rfl rfl rfl (sem_assign ((Value.bool false)) rfl ?_)
        refine Run.region_end ?_
        refine Run.ret ⟨.inr rfl, ?_⟩
        exact hS.imp fun h' hq => ⟨(false), rfl, hq⟩
  refine Run.seq ?_
  refine Run.ops0 (idx := [0, 1, 2, 3, 4, 5, 6, 7, 8, 9]) rfl ?_
  refine Run.go rfl rfl rfl (sem_move ((Value.pointer (some ⟨k2, 0, none⟩))) rfl ?_)
  obtain ⟨p40, p41, p42, i43, i44, i45, i46, hl, hS⟩ := hS
  refine Run.go rfl rfl rfl (sem_loadN ⟨k12, 0, none⟩ [(Value.pointer p40), (Value.pointer p41), (Value.pointer p42), (Value.int .i64 (i43)), (Value.int .i64 (i44)), (Value.int .i64 (i45)), (Value.int .i64 (i46))] rfl TF.agg_112 TF.sz_112 hl ?_)
  refine Run.go rfl rfl rfl (sem_buildSL [(0, (Value.agg #[(Value.pointer p40), (Value.pointer p41), (Value.pointer p42), (Value.int .i64 (i43)), (Value.int .i64 (i44)), (Value.int .i64 (i45)), (Value.int .i64 (i46))])), (2, (Value.int .i64 (5)))] [(Value.pointer p40), (Value.pointer p41), (Value.pointer p42), (Value.int .i64 (i43)), (Value.int .i64 (i44)), (Value.int .i64 (i45)), (Value.int .i64 (i46)), (Value.int .i64 (0)), (Value.int .i64 (0)), (Value.int .i64 (0)), (Value.int .i64 (0)), (Value.int .i64 (5))] TF.zero_115 TF.places_115 rfl rfl ?_)
  refine Run.go rfl rfl rfl (sem_callL [(Value.pointer (some ⟨k2, 0, none⟩)), (Value.agg #[(Value.pointer p40), (Value.pointer p41), (Value.pointer p42), (Value.int .i64 (i43)), (Value.int .i64 (i44)), (Value.int .i64 (i45)), (Value.int .i64 (i46)), (Value.int .i64 (0)), (Value.int .i64 (0)), (Value.int .i64 (0)), (Value.int .i64 (0)), (Value.int .i64 (5))])] (TF.goes_58) rfl rfl (Spec.mono hS fun v h47 hv => ?_))
  obtain ⟨b48, rfl, hS⟩ := hv
  obtain ⟨hT, hF⟩ := hS
  cases b48
  · have hS := hF rfl; clear hT hF
    refine Run.go rfl rfl rfl (sem_not false rfl ?_)
    refine Run.go rfl rfl rfl (sem_move ((Value.bool true)) rfl ?_)
    refine Run.no rfl rfl rfl ?_
    refine Run.no rfl rfl rfl ?_
    refine Run.no rfl rfl rfl ?_
    refine Run.go rfl rfl rfl (sem_pick true ((Value.bool true)) rfl rfl ?_)
    refine Run.region_end ?_
    refine Run.condT rfl ?_
    refine Run.seq ?_
    refine Run.ops0 (idx := [0]) rfl ?_
    refine Run.go rfl rfl rfl (sem_assign ((Value.bool false)) rfl ?_)
    refine Run.region_end ?_
    refine Run.ret ⟨.inr rfl, ?_⟩
    exact hS.imp fun h' hq => ⟨(false), rfl, hq⟩
  · have hS := hT rfl; clear hT hF
    refine Run.go rfl rfl rfl (sem_not true rfl ?_)
    refine Run.go rfl rfl rfl (sem_move ((Value.bool false)) rfl ?_)
    refine Run.go rfl rfl rfl (sem_move ((Value.pointer (some ⟨k2, 0, none⟩))) rfl ?_)
    refine Run.go rfl rfl rfl (sem_callL [(Value.pointer (some ⟨k2, 0, none⟩))] (TF.goes_60) rfl rfl (Spec.mono hS fun v h49 hv => ?_))
    obtain ⟨i50, rfl, hS⟩ := hv
    obtain ⟨hT, hF⟩ := hS
    by_cases hb51 : (i50 : Int) = 1
    · have hS := hT hb51; clear hT hF
      refine Run.go rfl rfl rfl (sem_binI .i64 (i50) (1) (.bool false) rfl rfl (binI_neq_t hb51) ?_)
      refine Run.go rfl rfl rfl (sem_pick false ((Value.bool false)) rfl rfl ?_)
      refine Run.region_end ?_
      refine Run.condF rfl ?_
      refine Run.skip ?_
      exact Run.of_fin (hS.imp fun h' hS => j15 _ _ ⟨⟨rfl, trivial⟩, hS⟩)
    · have hS := hF hb51; clear hT hF
      refine Run.go rfl rfl rfl (sem_binI .i64 (i50) (1) (.bool true) rfl rfl (binI_neq_f hb51) ?_)
      refine Run.go rfl rfl rfl (sem_pick false ((Value.bool true)) rfl rfl ?_)
      refine Run.region_end ?_
      refine Run.condT rfl ?_
      refine Run.seq ?_
      refine Run.ops0 (idx := [0]) rfl ?_
      refine Run.go rfl rfl rfl (sem_assign ((Value.bool false)) rfl ?_)
      refine Run.region_end ?_
      refine Run.ret ⟨.inr rfl, ?_⟩
      exact hS.imp fun h' hq => ⟨(false), rfl, hq⟩
set_option maxHeartbeats 4000000 in
theorem C_mark_Stack_Push.of {B : RO} {p1 : Option Addr} {p2 : Option Addr} {p3 : Option Addr} {p4 : Option Addr} {i5 : Int} {i6 : Int} {i7 : Int} {i8 : Int} {i9 : Int} {i10 : Int} {i11 : Int} {i12 : Int} {i13 : Int} {h : Heap} {Q : Bool → Heap → Prop} (hS : S_mark_Stack_Push B p1 p2 p3 p4 i5 i6 i7 i8 i9 i10 i11 i12 i13 h Q) : C_mark_Stack_Push B p1 p2 p3 p4 i5 i6 i7 i8 i9 i10 i11 i12 i13 h Q := by
  unfold S_mark_Stack_Push at hS
  unfold C_mark_Stack_Push
  refine Spec.of_run Try.func58 (N := 21) (rs := [ResultVar.tmp 4]) rfl rfl rfl (Nat.le_of_ble_eq_true rfl) ?_
  refine Run.seq ?_
  refine Run.ops0 (idx := [0, 1]) rfl ?_
  refine Run.go rfl rfl rfl (sem_boxNN [(Value.pointer p2), (Value.pointer p3), (Value.pointer p4), (Value.int .i64 (i5)), (Value.int .i64 (i6)), (Value.int .i64 (i7)), (Value.int .i64 (i8)), (Value.int .i64 (i9)), (Value.int .i64 (i10)), (Value.int .i64 (i11)), (Value.int .i64 (i12)), (Value.int .i64 (i13))] rfl (fun k15 hb1 hb2 h16 hb3 => ?_))
  have hS := hS k15 hb1 hb2 h16 hb3
  refine Run.go rfl rfl rfl (sem_assign ((Value.bool false)) rfl ?_)
  refine Run.region_end ?_
  refine Run.seq ?_
  refine Run.seq ?_
  refine Run.ops0 (idx := [0, 1]) rfl ?_
  refine Run.go rfl rfl rfl (sem_move ((Value.pointer p1)) rfl ?_)
  obtain ⟨hT, hF⟩ := hS
  by_cases hb17 : p1 = none
  · have hS := hT hb17; clear hT hF
    refine Run.go rfl rfl rfl (sem_ptrNilT p1 (.inl rfl) true rfl rfl TF.ptr_102 hb17 rfl ?_)
    refine Run.region_end ?_
    refine Run.condT rfl ?_
    refine Run.seq ?_
    refine Run.ops0 (idx := [0]) rfl ?_
    refine Run.go rfl rfl rfl (sem_assign ((Value.bool false)) rfl ?_)
    refine Run.region_end ?_
    refine Run.ret ⟨.inr rfl, ?_⟩
    exact hS.imp fun h' hq => ⟨(false), rfl, hq⟩
  · have hS := hF hb17; clear hT hF
    refine Run.go rfl rfl rfl (sem_ptrNilF p1 (.inl rfl) false rfl rfl TF.ptr_102 hb17 rfl ?_)
    refine Run.region_end ?_
    refine Run.condF rfl ?_
    refine Run.skip ?_
    refine Run.seq ?_
    refine Run.ops0 (idx := [0, 1, 2, 3, 4]) rfl ?_
    refine Run.go rfl rfl rfl (sem_fieldAddr ⟨k15, 0, none⟩ 0 rfl TF.fld_115_0 ?_)
    obtain ⟨p18, p19, p20, i21, i22, i23, i24, hl, hS⟩ := hS
    refine Run.go rfl rfl rfl (sem_loadN ⟨k15, 0, none⟩ [(Value.pointer p18), (Value.pointer p19), (Value.pointer p20), (Value.int .i64 (i21)), (Value.int .i64 (i22)), (Value.int .i64 (i23)), (Value.int .i64 (i24))] rfl TF.agg_112 TF.sz_112 hl ?_)
    refine Run.go rfl rfl rfl (sem_callL [(Value.agg #[(Value.pointer p18), (Value.pointer p19), (Value.pointer p20), (Value.int .i64 (i21)), (Value.int .i64 (i22)), (Value.int .i64 (i23)), (Value.int .i64 (i24))])] (TF.goes_80) rfl rfl (Spec.mono hS fun v h25 hv => ?_))
    obtain ⟨p26, p27, p28, i29, i30, i31, i32, rfl, hS⟩ := hv
    refine Run.go rfl rfl rfl (sem_fieldAddr ⟨k15, 0, none⟩ 0 rfl TF.fld_115_0 ?_)
    obtain ⟨h33, hst, hS⟩ := hS
    refine Run.go rfl rfl rfl (sem_storeN ⟨k15, 0, none⟩ [(Value.pointer p26), (Value.pointer p27), (Value.pointer p28), (Value.int .i64 (i29)), (Value.int .i64 (i30)), (Value.int .i64 (i31)), (Value.int .i64 (i32))] h33 rfl rfl TF.sz_112 hst ?_)
    refine Run.region_end ?_
    refine Run.seq ?_
    skip
    skip
    obtain ⟨A36, e37, hS⟩ := hS
    skip
    skip
    obtain ⟨a40, n41, c42, hl, hS⟩ := hS
    have f43 := hl
    obtain ⟨p44, p45, p46, i47, i48, i49, i50, i51, i52, i53, i54, i55, hl, hS⟩ := hS
    have f56 := hl
    refine Run.draw (fun h' => cellH B h' A36 = some (Value.slice a40 n41 c42) ∧ CellsAt B h' ⟨k15, 0, none⟩ 0 [(Value.pointer p44), (Value.pointer p45), (Value.pointer p46), (Value.int .i64 (i47)), (Value.int .i64 (i48)), (Value.int .i64 (i49)), (Value.int .i64 (i50)), (Value.int .i64 (i51)), (Value.int .i64 (i52)), (Value.int .i64 (i53)), (Value.int .i64 (i54)), (Value.int .i64 (i55))] ∧ True) [10] [.q 0, .q 1, .q 2, .q 3, .q 4, .q 5, .x 6, .x 7, .q 8, .q 9, .x 10] TF.mixed (by kernel_rfl) ⟨f43, f56, trivial⟩ ?_
    refine RunO.quiet rfl rfl rfl (fun h' hC => sem_move ((Value.pointer p1)) rfl ⟨rfl, rfl⟩) ?_
    refine RunO.quiet rfl rfl rfl (fun h' hC => sem_move ((Value.pointer p1)) rfl ⟨rfl, rfl⟩) ?_
    refine RunO.quiet rfl rfl rfl (fun h' hC => sem_nilCheck A36 (congrArg Value.pointer e37) ⟨rfl, rfl⟩) ?_
    refine RunO.quiet rfl rfl rfl (fun h' hC => sem_fieldAddr A36 0 rfl TF.fld_105_0 ⟨rfl, rfl⟩) ?_
    refine RunO.quiet rfl rfl rfl (fun h' hC => sem_load1 A36 ((Value.slice a40 n41 c42)) rfl TF.agg_103 hC.1 ⟨rfl, rfl⟩) ?_
    refine RunO.quiet rfl rfl rfl (fun h' hC => sem_loadN ⟨k15, 0, none⟩ [(Value.pointer p44), (Value.pointer p45), (Value.pointer p46), (Value.int .i64 (i47)), (Value.int .i64 (i48)), (Value.int .i64 (i49)), (Value.int .i64 (i50)), (Value.int .i64 (i51)), (Value.int .i64 (i52)), (Value.int .i64 (i53)), (Value.int .i64 (i54)), (Value.int .i64 (i55))] rfl TF.agg_115 TF.sz_115 hC.2.1 ⟨rfl, rfl⟩) ?_
    refine OpH.go rfl rfl rfl (sem_buildSliceL [(0, (Value.agg #[(Value.pointer p44), (Value.pointer p45), (Value.pointer p46), (Value.int .i64 (i47)), (Value.int .i64 (i48)), (Value.int .i64 (i49)), (Value.int .i64 (i50)), (Value.int .i64 (i51)), (Value.int .i64 (i52)), (Value.int .i64 (i53)), (Value.int .i64 (i54)), (Value.int .i64 (i55))]))] [(Value.pointer p44), (Value.pointer p45), (Value.pointer p46), (Value.int .i64 (i47)), (Value.int .i64 (i48)), (Value.int .i64 (i49)), (Value.int .i64 (i50)), (Value.int .i64 (i51)), (Value.int .i64 (i52)), (Value.int .i64 (i53)), (Value.int .i64 (i54)), (Value.int .i64 (i55))] TF.slc_103 TF.zero_115 rfl (by decide) (by decide) rfl rfl (fun k57 hb1 hb2 h58 hb3 => ?_))
    have hS := hS k57 hb1 hb2 h58 hb3
    obtain ⟨g59, g60, hS⟩ := hS
    refine ⟨fun _ => ⟨g59, g60, trivial⟩, ?_⟩
    refine OpH.go rfl rfl rfl (sem_appendL [(Value.slice a40 n41 c42), (Value.slice (some ⟨k57, 0, none⟩) 1 1)] rfl (semH_mono (fun v h61 hv => ?_) hS))
    obtain ⟨a62, n63, c64, rfl, hS⟩ := hv
    obtain ⟨g65, g66, hS⟩ := hS
    refine ⟨fun _ => ⟨g65, g66, trivial⟩, ?_⟩
    obtain ⟨A67, e68, hS⟩ := hS
    refine RunO.quiet rfl rfl rfl (fun h' hC => sem_nilCheck A67 (congrArg Value.pointer e68) ⟨rfl, rfl⟩) ?_
    refine RunO.quiet rfl rfl rfl (fun h' hC => sem_fieldAddr A67 0 rfl TF.fld_105_0 ⟨rfl, rfl⟩) ?_
    obtain ⟨h69, hst, hS⟩ := hS
    refine OpH.go rfl rfl rfl (sem_store1 A67 ((Value.slice a62 n63 c64)) h69 rfl rfl rfl TF.sz_103 hst ?_)
    refine ⟨fun hz => Bool.noConfusion hz, ?_⟩
    refine Run.seq ?_
    refine Run.ops0 (idx := [0]) rfl ?_
    refine Run.go rfl rfl rfl (sem_assign ((Value.bool true)) rfl ?_)
    refine Run.region_end ?_
    refine Run.ret ⟨.inr rfl, ?_⟩
    exact hS.imp fun h' hq => ⟨(true), rfl, hq⟩
set_option maxHeartbeats 4000000 in
theorem C_mark_Fresh.of {B : RO} {i1 : Int} {i2 : Int} {i3 : Int} {i4 : Int} {h : Heap} {Q : Option Addr → Option Addr → Option Addr → Int → Int → Int → Int → Heap → Prop} (hS : S_mark_Fresh B i1 i2 i3 i4 h Q) : C_mark_Fresh B i1 i2 i3 i4 h Q := by
  unfold S_mark_Fresh at hS
  unfold C_mark_Fresh
  refine Spec.of_run Try.func59 (N := 10) (rs := [ResultVar.cell 2 112]) rfl rfl rfl (Nat.le_of_ble_eq_true rfl) ?_
  refine Run.seq ?_
  refine Run.ops0 (idx := [0, 1]) rfl ?_
  refine Run.go rfl rfl rfl (sem_boxNN [(Value.int .i64 (i1)), (Value.int .i64 (i2)), (Value.int .i64 (i3)), (Value.int .i64 (i4))] rfl (fun k12 hb1 hb2 h13 hb3 => ?_))
  have hS := hS k12 hb1 hb2 h13 hb3
  refine Run.go rfl rfl rfl (sem_allocN [(Value.pointer none), (Value.pointer none), (Value.pointer none), (Value.int .i64 (0)), (Value.int .i64 (0)), (Value.int .i64 (0)), (Value.int .i64 (0))] TF.zero_112 (fun k14 hb1 hb2 h15 hb3 => ?_))
  have hS := hS k14 hb1 hb2 h15 hb3
  refine Run.region_end ?_
  refine Run.seq ?_
  skip
  skip
  obtain ⟨i18, i19, i20, i21, hl, hS⟩ := hS
  have f22 := hl
  refine Run.drawT (fun h' => CellsAt B h' ⟨k12, 0, none⟩ 0 [(Value.int .i64 (i18)), (Value.int .i64 (i19)), (Value.int .i64 (i20)), (Value.int .i64 (i21))] ∧ True) [7] (.q 0 (.q 3 (.q 5 (.x 1 (.x 2 (.x 4 (.q 6 (.x 7 .nil .no)) .no) (.x 4 (.x 2 (.q 6 (.x 7 .nil .no)) .no) .no)) (.x 2 (.x 1 (.x 4 (.q 6 (.x 7 .nil .no)) .no) (.x 4 (.x 1 (.q 6 (.x 7 .nil .no)) .no) .no)) (.x 4 (.x 1 (.x 2 (.q 6 (.x 7 .nil .no)) .no) (.x 2 (.x 1 (.q 6 (.x 7 .nil .no)) .no) .no)) .no)))))) TF.mixed (by kernel_rfl) ⟨f22, trivial⟩ ?_
  refine RunT.quiet rfl rfl rfl (fun h' hC => sem_buildSL [] [(Value.slice none 0 0)] TF.zero_151 TF.places_151 rfl rfl ⟨rfl, rfl⟩) ?_
  refine RunT.quiet rfl rfl rfl (fun h' hC => sem_buildSL [] [(Value.int .i64 (0)), (Value.int .i64 (0)), (Value.int .i64 (0))] TF.zero_154 TF.places_154 rfl rfl ⟨rfl, rfl⟩) ?_
  refine RunT.quiet rfl rfl rfl (fun h' hC => sem_loadN ⟨k12, 0, none⟩ [(Value.int .i64 (i18)), (Value.int .i64 (i19)), (Value.int .i64 (i20)), (Value.int .i64 (i21))] rfl TF.agg_110 TF.sz_110 hC.1 ⟨rfl, rfl⟩) ?_
  refine ⟨?_, ?_, ?_, trivial⟩
  · have hS := hS.1
    refine OpH.go rfl rfl rfl (sem_boxNN [(Value.slice none 0 0)] rfl (fun k23 hb1 hb2 h24 hb3 => ?_))
    have hS := hS k23 hb1 hb2 h24 hb3
    obtain ⟨g25, hS⟩ := hS
    refine ⟨fun _ => ⟨g25, trivial⟩, ?_⟩
    refine ⟨?_, ?_, trivial⟩
    · have hS := hS.1
      refine OpH.go rfl rfl rfl (sem_callL [] (TF.goes_81) rfl rfl (Spec.mono hS fun v h26 hv => ?_))
      obtain ⟨p27, rfl, hS⟩ := hv
      obtain ⟨g28, hS⟩ := hS
      refine ⟨fun _ => ⟨g28, trivial⟩, ?_⟩
      refine ⟨?_, trivial⟩
      refine OpH.go rfl rfl rfl (sem_boxNN [(Value.int .i64 (0)), (Value.int .i64 (0)), (Value.int .i64 (0))] rfl (fun k29 hb1 hb2 h30 hb3 => ?_))
      have hS := hS k29 hb1 hb2 h30 hb3
      obtain ⟨g31, hS⟩ := hS
      refine ⟨fun _ => ⟨g31, trivial⟩, ?_⟩
      refine RunT.quiet rfl rfl rfl (fun h' hC => sem_buildSL [(0, (Value.pointer (some ⟨k23, 0, none⟩))), (1, (Value.pointer p27)), (2, (Value.pointer (some ⟨k29, 0, none⟩))), (3, (Value.agg #[(Value.int .i64 (i18)), (Value.int .i64 (i19)), (Value.int .i64 (i20)), (Value.int .i64 (i21))]))] [(Value.pointer (some ⟨k23, 0, none⟩)), (Value.pointer p27), (Value.pointer (some ⟨k29, 0, none⟩)), (Value.int .i64 (i18)), (Value.int .i64 (i19)), (Value.int .i64 (i20)), (Value.int .i64 (i21))] TF.zero_112 TF.places_112 rfl rfl ⟨rfl, rfl⟩) ?_
      refine ⟨?_, trivial⟩
      obtain ⟨h32, hst, hS⟩ := hS
      refine OpH.go rfl rfl rfl (sem_storeN ⟨k14, 0, none⟩ [(Value.pointer (some ⟨k23, 0, none⟩)), (Value.pointer p27), (Value.pointer (some ⟨k29, 0, none⟩)), (Value.int .i64 (i18)), (Value.int .i64 (i19)), (Value.int .i64 (i20)), (Value.int .i64 (i21))] h32 rfl rfl TF.sz_112 hst ?_)
      refine ⟨fun hz => Bool.noConfusion hz, ?_⟩
      obtain ⟨p33, p34, p35, i36, i37, i38, i39, hl0, hS⟩ := hS
      refine Run.ret ⟨.inr rfl, ?_⟩
      exact ⟨⟨k14, 0, none⟩, (Value.agg #[(Value.pointer p33), (Value.pointer p34), (Value.pointer p35), (Value.int .i64 (i36)), (Value.int .i64 (i37)), (Value.int .i64 (i38)), (Value.int .i64 (i39))]), rfl, loadHN TF.agg_112 TF.sz_112 hl0, hS.imp fun h' hq => ⟨p33, p34, p35, (i36), (i37), (i38), (i39), rfl, hq⟩⟩
    · have hS := hS.2
      refine OpH.go rfl rfl rfl (sem_boxNN [(Value.int .i64 (0)), (Value.int .i64 (0)), (Value.int .i64 (0))] rfl (fun k40 hb1 hb2 h41 hb3 => ?_))
      have hS := hS k40 hb1 hb2 h41 hb3
      obtain ⟨g42, hS⟩ := hS
      refine ⟨fun _ => ⟨g42, trivial⟩, ?_⟩
      refine ⟨?_, trivial⟩
      refine OpH.go rfl rfl rfl (sem_callL [] (TF.goes_81) rfl rfl (Spec.mono hS fun v h43 hv => ?_))
      obtain ⟨p44, rfl, hS⟩ := hv
      obtain ⟨g45, hS⟩ := hS
      refine ⟨fun _ => ⟨g45, trivial⟩, ?_⟩
      refine RunT.quiet rfl rfl rfl (fun h' hC => sem_buildSL [(0, (Value.pointer (some ⟨k23, 0, none⟩))), (1, (Value.pointer p44)), (2, (Value.pointer (some ⟨k40, 0, none⟩))), (3, (Value.agg #[(Value.int .i64 (i18)), (Value.int .i64 (i19)), (Value.int .i64 (i20)), (Value.int .i64 (i21))]))] [(Value.pointer (some ⟨k23, 0, none⟩)), (Value.pointer p44), (Value.pointer (some ⟨k40, 0, none⟩)), (Value.int .i64 (i18)), (Value.int .i64 (i19)), (Value.int .i64 (i20)), (Value.int .i64 (i21))] TF.zero_112 TF.places_112 rfl rfl ⟨rfl, rfl⟩) ?_
      refine ⟨?_, trivial⟩
      obtain ⟨h46, hst, hS⟩ := hS
      refine OpH.go rfl rfl rfl (sem_storeN ⟨k14, 0, none⟩ [(Value.pointer (some ⟨k23, 0, none⟩)), (Value.pointer p44), (Value.pointer (some ⟨k40, 0, none⟩)), (Value.int .i64 (i18)), (Value.int .i64 (i19)), (Value.int .i64 (i20)), (Value.int .i64 (i21))] h46 rfl rfl TF.sz_112 hst ?_)
      refine ⟨fun hz => Bool.noConfusion hz, ?_⟩
      obtain ⟨p47, p48, p49, i50, i51, i52, i53, hl0, hS⟩ := hS
      refine Run.ret ⟨.inr rfl, ?_⟩
      exact ⟨⟨k14, 0, none⟩, (Value.agg #[(Value.pointer p47), (Value.pointer p48), (Value.pointer p49), (Value.int .i64 (i50)), (Value.int .i64 (i51)), (Value.int .i64 (i52)), (Value.int .i64 (i53))]), rfl, loadHN TF.agg_112 TF.sz_112 hl0, hS.imp fun h' hq => ⟨p47, p48, p49, (i50), (i51), (i52), (i53), rfl, hq⟩⟩
  · have hS := hS.2.1
    refine OpH.go rfl rfl rfl (sem_callL [] (TF.goes_81) rfl rfl (Spec.mono hS fun v h54 hv => ?_))
    obtain ⟨p55, rfl, hS⟩ := hv
    obtain ⟨g56, hS⟩ := hS
    refine ⟨fun _ => ⟨g56, trivial⟩, ?_⟩
    refine ⟨?_, ?_, trivial⟩
    · have hS := hS.1
      refine OpH.go rfl rfl rfl (sem_boxNN [(Value.slice none 0 0)] rfl (fun k57 hb1 hb2 h58 hb3 => ?_))
      have hS := hS k57 hb1 hb2 h58 hb3
      obtain ⟨g59, hS⟩ := hS
      refine ⟨fun _ => ⟨g59, trivial⟩, ?_⟩
      refine ⟨?_, trivial⟩
      refine OpH.go rfl rfl rfl (sem_boxNN [(Value.int .i64 (0)), (Value.int .i64 (0)), (Value.int .i64 (0))] rfl (fun k60 hb1 hb2 h61 hb3 => ?_))
      have hS := hS k60 hb1 hb2 h61 hb3
      obtain ⟨g62, hS⟩ := hS
      refine ⟨fun _ => ⟨g62, trivial⟩, ?_⟩
      refine RunT.quiet rfl rfl rfl (fun h' hC => sem_buildSL [(0, (Value.pointer (some ⟨k57, 0, none⟩))), (1, (Value.pointer p55)), (2, (Value.pointer (some ⟨k60, 0, none⟩))), (3, (Value.agg #[(Value.int .i64 (i18)), (Value.int .i64 (i19)), (Value.int .i64 (i20)), (Value.int .i64 (i21))]))] [(Value.pointer (some ⟨k57, 0, none⟩)), (Value.pointer p55), (Value.pointer (some ⟨k60, 0, none⟩)), (Value.int .i64 (i18)), (Value.int .i64 (i19)), (Value.int .i64 (i20)), (Value.int .i64 (i21))] TF.zero_112 TF.places_112 rfl rfl ⟨rfl, rfl⟩) ?_
      refine ⟨?_, trivial⟩
      obtain ⟨h63, hst, hS⟩ := hS
      refine OpH.go rfl rfl rfl (sem_storeN ⟨k14, 0, none⟩ [(Value.pointer (some ⟨k57, 0, none⟩)), (Value.pointer p55), (Value.pointer (some ⟨k60, 0, none⟩)), (Value.int .i64 (i18)), (Value.int .i64 (i19)), (Value.int .i64 (i20)), (Value.int .i64 (i21))] h63 rfl rfl TF.sz_112 hst ?_)
      refine ⟨fun hz => Bool.noConfusion hz, ?_⟩
      obtain ⟨p64, p65, p66, i67, i68, i69, i70, hl0, hS⟩ := hS
      refine Run.ret ⟨.inr rfl, ?_⟩
      exact ⟨⟨k14, 0, none⟩, (Value.agg #[(Value.pointer p64), (Value.pointer p65), (Value.pointer p66), (Value.int .i64 (i67)), (Value.int .i64 (i68)), (Value.int .i64 (i69)), (Value.int .i64 (i70))]), rfl, loadHN TF.agg_112 TF.sz_112 hl0, hS.imp fun h' hq => ⟨p64, p65, p66, (i67), (i68), (i69), (i70), rfl, hq⟩⟩
    · have hS := hS.2
      refine OpH.go rfl rfl rfl (sem_boxNN [(Value.int .i64 (0)), (Value.int .i64 (0)), (Value.int .i64 (0))] rfl (fun k71 hb1 hb2 h72 hb3 => ?_))
      have hS := hS k71 hb1 hb2 h72 hb3
      obtain ⟨g73, hS⟩ := hS
      refine ⟨fun _ => ⟨g73, trivial⟩, ?_⟩
      refine ⟨?_, trivial⟩
      refine OpH.go rfl rfl rfl (sem_boxNN [(Value.slice none 0 0)] rfl (fun k74 hb1 hb2 h75 hb3 => ?_))
      have hS := hS k74 hb1 hb2 h75 hb3
      obtain ⟨g76, hS⟩ := hS
      refine ⟨fun _ => ⟨g76, trivial⟩, ?_⟩
      refine RunT.quiet rfl rfl rfl (fun h' hC => sem_buildSL [(0, (Value.pointer (some ⟨k74, 0, none⟩))), (1, (Value.pointer p55)), (2, (Value.pointer (some ⟨k71, 0, none⟩))), (3, (Value.agg #[(Value.int .i64 (i18)), (Value.int .i64 (i19)), (Value.int .i64 (i20)), (Value.int .i64 (i21))]))] [(Value.pointer (some ⟨k74, 0, none⟩)), (Value.pointer p55), (Value.pointer (some ⟨k71, 0, none⟩)), (Value.int .i64 (i18)), (Value.int .i64 (i19)), (Value.int .i64 (i20)), (Value.int .i64 (i21))] TF.zero_112 TF.places_112 rfl rfl ⟨rfl, rfl⟩) ?_
      refine ⟨?_, trivial⟩
      obtain ⟨h77, hst, hS⟩ := hS
      refine OpH.go rfl rfl rfl (sem_storeN ⟨k14, 0, none⟩ [(Value.pointer (some ⟨k74, 0, none⟩)), (Value.pointer p55), (Value.pointer (some ⟨k71, 0, none⟩)), (Value.int .i64 (i18)), (Value.int .i64 (i19)), (Value.int .i64 (i20)), (Value.int .i64 (i21))] h77 rfl rfl TF.sz_112 hst ?_)
      refine ⟨fun hz => Bool.noConfusion hz, ?_⟩
      obtain ⟨p78, p79, p80, i81, i82, i83, i84, hl0, hS⟩ := hS
      refine Run.ret ⟨.inr rfl, ?_⟩
      exact ⟨⟨k14, 0, none⟩, (Value.agg #[(Value.pointer p78), (Value.pointer p79), (Value.pointer p80), (Value.int .i64 (i81)), (Value.int .i64 (i82)), (Value.int .i64 (i83)), (Value.int .i64 (i84))]), rfl, loadHN TF.agg_112 TF.sz_112 hl0, hS.imp fun h' hq => ⟨p78, p79, p80, (i81), (i82), (i83), (i84), rfl, hq⟩⟩
  · have hS := hS.2.2
    refine OpH.go rfl rfl rfl (sem_boxNN [(Value.int .i64 (0)), (Value.int .i64 (0)), (Value.int .i64 (0))] rfl (fun k85 hb1 hb2 h86 hb3 => ?_))
    have hS := hS k85 hb1 hb2 h86 hb3
    obtain ⟨g87, hS⟩ := hS
    refine ⟨fun _ => ⟨g87, trivial⟩, ?_⟩
    refine ⟨?_, ?_, trivial⟩
    · have hS := hS.1
      refine OpH.go rfl rfl rfl (sem_boxNN [(Value.slice none 0 0)] rfl (fun k88 hb1 hb2 h89 hb3 => ?_))
      have hS := hS k88 hb1 hb2 h89 hb3
      obtain ⟨g90, hS⟩ := hS
      refine ⟨fun _ => ⟨g90, trivial⟩, ?_⟩
      refine ⟨?_, trivial⟩
      refine OpH.go rfl rfl rfl (sem_callL [] (TF.goes_81) rfl rfl (Spec.mono hS fun v h91 hv => ?_))
      obtain ⟨p92, rfl, hS⟩ := hv
      obtain ⟨g93, hS⟩ := hS
      refine ⟨fun _ => ⟨g93, trivial⟩, ?_⟩
      refine RunT.quiet rfl rfl rfl (fun h' hC => sem_buildSL [(0, (Value.pointer (some ⟨k88, 0, none⟩))), (1, (Value.pointer p92)), (2, (Value.pointer (some ⟨k85, 0, none⟩))), (3, (Value.agg #[(Value.int .i64 (i18)), (Value.int .i64 (i19)), (Value.int .i64 (i20)), (Value.int .i64 (i21))]))] [(Value.pointer (some ⟨k88, 0, none⟩)), (Value.pointer p92), (Value.pointer (some ⟨k85, 0, none⟩)), (Value.int .i64 (i18)), (Value.int .i64 (i19)), (Value.int .i64 (i20)), (Value.int .i64 (i21))] TF.zero_112 TF.places_112 rfl rfl ⟨rfl, rfl⟩) ?_
      refine ⟨?_, trivial⟩
      obtain ⟨h94, hst, hS⟩ := hS
      refine OpH.go rfl rfl rfl (sem_storeN ⟨k14, 0, none⟩ [(Value.pointer (some ⟨k88, 0, none⟩)), (Value.pointer p92), (Value.pointer (some ⟨k85, 0, none⟩)), (Value.int .i64 (i18)), (Value.int .i64 (i19)), (Value.int .i64 (i20)), (Value.int .i64 (i21))] h94 rfl rfl TF.sz_112 hst ?_)
      refine ⟨fun hz => Bool.noConfusion hz, ?_⟩
      obtain ⟨p95, p96, p97, i98, i99, i100, i101, hl0, hS⟩ := hS
      refine Run.ret ⟨.inr rfl, ?_⟩
      exact ⟨⟨k14, 0, none⟩, (Value.agg #[(Value.pointer p95), (Value.pointer p96), (Value.pointer p97), (Value.int .i64 (i98)), (Value.int .i64 (i99)), (Value.int .i64 (i100)), (Value.int .i64 (i101))]), rfl, loadHN TF.agg_112 TF.sz_112 hl0, hS.imp fun h' hq => ⟨p95, p96, p97, (i98), (i99), (i100), (i101), rfl, hq⟩⟩
    · have hS := hS.2
      refine OpH.go rfl rfl rfl (sem_callL [] (TF.goes_81) rfl rfl (Spec.mono hS fun v h102 hv => ?_))
      obtain ⟨p103, rfl, hS⟩ := hv
      obtain ⟨g104, hS⟩ := hS
      refine ⟨fun _ => ⟨g104, trivial⟩, ?_⟩
      refine ⟨?_, trivial⟩
      refine OpH.go rfl rfl rfl (sem_boxNN [(Value.slice none 0 0)] rfl (fun k105 hb1 hb2 h106 hb3 => ?_))
      have hS := hS k105 hb1 hb2 h106 hb3
      obtain ⟨g107, hS⟩ := hS
      refine ⟨fun _ => ⟨g107, trivial⟩, ?_⟩
      refine RunT.quiet rfl rfl rfl (fun h' hC => sem_buildSL [(0, (Value.pointer (some ⟨k105, 0, none⟩))), (1, (Value.pointer p103)), (2, (Value.pointer (some ⟨k85, 0, none⟩))), (3, (Value.agg #[(Value.int .i64 (i18)), (Value.int .i64 (i19)), (Value.int .i64 (i20)), (Value.int .i64 (i21))]))] [(Value.pointer (some ⟨k105, 0, none⟩)), (Value.pointer p103), (Value.pointer (some ⟨k85, 0, none⟩)), (Value.int .i64 (i18)), (Value.int .i64 (i19)), (Value.int .i64 (i20)), (Value.int .i64 (i21))] TF.zero_112 TF.places_112 rfl rfl ⟨rfl, rfl⟩) ?_
      refine ⟨?_, trivial⟩
      obtain ⟨h108, hst, hS⟩ := hS
      refine OpH.go rfl rfl rfl (sem_storeN ⟨k14, 0, none⟩ [(Value.pointer (some ⟨k105, 0, none⟩)), (Value.pointer p103), (Value.pointer (some ⟨k85, 0, none⟩)), (Value.int .i64 (i18)), (Value.int .i64 (i19)), (Value.int .i64 (i20)), (Value.int .i64 (i21))] h108 rfl rfl TF.sz_112 hst ?_)
      refine ⟨fun hz => Bool.noConfusion hz, ?_⟩
      obtain ⟨p109, p110, p111, i112, i113, i114, i115, hl0, hS⟩ := hS
      refine Run.ret ⟨.inr rfl, ?_⟩
      exact ⟨⟨k14, 0, none⟩, (Value.agg #[(Value.pointer p109), (Value.pointer p110), (Value.pointer p111), (Value.int .i64 (i112)), (Value.int .i64 (i113)), (Value.int .i64 (i114)), (Value.int .i64 (i115))]), rfl, loadHN TF.agg_112 TF.sz_112 hl0, hS.imp fun h' hq => ⟨p109, p110, p111, (i112), (i113), (i114), (i115), rfl, hq⟩⟩
set_option maxHeartbeats 4000000 in
theorem C_mark_Stack_Len.of {B : RO} {p1 : Option Addr} {h : Heap} {Q : Int → Heap → Prop} (hS : S_mark_Stack_Len B p1 h Q) : C_mark_Stack_Len B p1 h Q := by
  unfold S_mark_Stack_Len at hS
  unfold C_mark_Stack_Len
  refine Spec.of_run Try.func60 (N := 10) (rs := [ResultVar.tmp 2]) rfl rfl rfl (Nat.le_of_ble_eq_true rfl) ?_
  refine Run.seq ?_
  refine Run.ops0 (idx := [0]) rfl ?_
  refine Run.go rfl rfl rfl (sem_assign ((Value.int .i64 (0))) rfl ?_)
  refine Run.region_end ?_
  refine Run.seq ?_
  refine Run.seq ?_
  refine Run.ops0 (idx := [0, 1]) rfl ?_
  refine Run.go rfl rfl rfl (sem_move ((Value.pointer p1)) rfl ?_)
  obtain ⟨hT, hF⟩ := hS
  by_cases hb3 : p1 = none
  · have hS := hT hb3; clear hT hF
    refine Run.go rfl rfl rfl (sem_ptrNilT p1 (.inl rfl) true rfl rfl TF.ptr_102 hb3 rfl ?_)
    refine Run.region_end ?_
    refine Run.condT rfl ?_
    refine Run.seq ?_
    refine Run.ops0 (idx := [0]) rfl ?_
    refine Run.go rfl rfl rfl (sem_assign ((Value.int .i64 (0))) rfl ?_)
    refine Run.region_end ?_
    refine Run.ret ⟨.inr rfl, ?_⟩
    exact hS.imp fun h' hq => ⟨(0), rfl, hq⟩
  · have hS := hF hb3; clear hT hF
    refine Run.go rfl rfl rfl (sem_ptrNilF p1 (.inl rfl) false rfl rfl TF.ptr_102 hb3 rfl ?_)
    refine Run.region_end ?_
    refine Run.condF rfl ?_
    refine Run.skip ?_
    refine Run.seq ?_
    refine Run.ops0 (idx := [0, 1, 2, 3, 4, 5]) rfl ?_
    refine Run.go rfl rfl rfl (sem_move ((Value.pointer p1)) rfl ?_)
    obtain ⟨A4, e5, hS⟩ := hS
    refine Run.go rfl rfl rfl (sem_nilCheck A4 (congrArg Value.pointer e5) ?_)
    refine Run.go rfl rfl rfl (sem_fieldAddr A4 0 rfl TF.fld_105_0 ?_)
    refine Run.ldSl hS fun a6 n7 c8 h9 hl hS => ?_
    refine Run.go rfl rfl rfl (sem_load1 A4 ((Value.slice a6 n7 c8)) rfl TF.agg_103 hl ?_)
    refine Run.go rfl rfl rfl (sem_lenSl a6 n7 c8 rfl TF.sl_103 ?_)
    refine Run.go rfl rfl rfl (sem_assign ((Value.int .i64 ((n7 : Nat)))) rfl ?_)
    refine Run.region_end ?_
    refine Run.ret ⟨.inr rfl, ?_⟩
    exact hS.imp fun h' hq => ⟨((n7 : Nat)), rfl, hq⟩
set_option maxHeartbeats 4000000 in
theorem C_mark_Stack_Pop.of {B : RO} {p1 : Option Addr} {h : Heap} {Q : Option Addr → Option Addr → Option Addr → Int → Int → Int → Int → Int → Int → Int → Int → Int → Bool → Heap → Prop} (hS : S_mark_Stack_Pop B p1 h Q) : C_mark_Stack_Pop B p1 h Q := by
  unfold S_mark_Stack_Pop at hS
  unfold C_mark_Stack_Pop
  refine Spec.of_run Try.func61 (N := 42) (rs := [ResultVar.cell 2 115, ResultVar.tmp 3]) rfl rfl rfl (Nat.le_of_ble_eq_true rfl) ?_
  refine Run.seq ?_
  refine Run.ops0 (idx := [0, 1]) rfl ?_
  refine Run.go rfl rfl rfl (sem_allocN [(Value.pointer none), (Value.pointer none), (Value.pointer none), (Value.int .i64 (0)), (Value.int .i64 (0)), (Value.int .i64 (0)), (Value.int .i64 (0)), (Value.int .i64 (0)), (Value.int .i64 (0)), (Value.int .i64 (0)), (Value.int .i64 (0)), (Value.int .i64 (0))] TF.zero_115 (fun k15 hb1 hb2 h16 hb3 => ?_))
  have hS := hS k15 hb1 hb2 h16 hb3
  refine Run.go rfl rfl rfl (sem_assign ((Value.bool false)) rfl ?_)
  refine Run.region_end ?_
  refine Run.seqJ (fun e h18 => Agree [(0, (Value.pointer p1)), (2, (Value.pointer (some ⟨k15, 0, none⟩)))] e ∧ S_mark_Stack_Pop_J1 B p1 k15 h18 Q) ?_ fun j17 => ?_
  · rintro e h18 ⟨hag, hS⟩
    refine Run.env hag ?_; clear hag
    refine Run.seq ?_
    refine Run.ops0 (idx := [0, 1, 2, 3, 4, 5, 6]) rfl ?_
    refine Run.go rfl rfl rfl (sem_move ((Value.pointer p1)) rfl ?_)
    obtain ⟨A19, e20, hS⟩ := hS
    refine Run.go rfl rfl rfl (sem_nilCheck A19 (congrArg Value.pointer e20) ?_)
    refine Run.go rfl rfl rfl (sem_fieldAddr A19 0 rfl TF.fld_105_0 ?_)
    refine Run.ldSl hS fun a21 n22 c23 h24 hl hS => ?_
    refine Run.go rfl rfl rfl (sem_load1 A19 ((Value.slice a21 n22 c23)) rfl TF.agg_103 hl ?_)
    refine Run.go rfl rfl rfl (sem_lenSl a21 n22 c23 rfl TF.sl_103 ?_)
    refine Run.go rfl rfl rfl (sem_binI .i64 ((n22 : Nat)) (1) ((Value.int .i64 (IntKind.wrap .i64 (((n22 : Nat)) - (1))))) rfl rfl rfl ?_)
    refine Run.go rfl rfl rfl (sem_assign ((Value.int .i64 (IntKind.wrap .i64 (((n22 : Nat)) - (1))))) rfl ?_)
    refine Run.region_end ?_
    refine Run.seq ?_
    refine Run.ops0 (idx := [0, 1, 2, 3, 4, 5, 6, 7, 8]) rfl ?_
    refine Run.go rfl rfl rfl (sem_move ((Value.pointer p1)) rfl ?_)
    obtain ⟨A25, e26, hS⟩ := hS
    refine Run.go rfl rfl rfl (sem_nilCheck A25 (congrArg Value.pointer e26) ?_)
    refine Run.go rfl rfl rfl (sem_fieldAddr A25 0 rfl TF.fld_105_0 ?_)
    refine Run.ldSl hS fun a27 n28 c29 h30 hl hS => ?_
    refine Run.go rfl rfl rfl (sem_load1 A25 ((Value.slice a27 n28 c29)) rfl TF.agg_103 hl ?_)
    refine Run.go rfl rfl rfl (sem_move ((Value.int .i64 (IntKind.wrap .i64 (((n22 : Nat)) - (1))))) rfl ?_)
    obtain ⟨A31, e32, hi0, hi1, hS⟩ := hS
    refine Run.go rfl rfl rfl (sem_indexAddrS A31 n28 c29 .i64 (IntKind.wrap .i64 (((n22 : Nat)) - (1))) (congrArg (fun a => Value.slice a n28 c29) e32) rfl TF.slc_103 hi0 hi1 ?_)
    obtain ⟨p33, p34, p35, i36, i37, i38, i39, i40, i41, i42, i43, i44, hl, hS⟩ := hS
    refine Run.go rfl rfl rfl (sem_loadN (Addr.add A31 (Int.toNat (IntKind.wrap .i64 (((n22 : Nat)) - (1))) * 12)) [(Value.pointer p33), (Value.pointer p34), (Value.pointer p35), (Value.int .i64 (i36)), (Value.int .i64 (i37)), (Value.int .i64 (i38)), (Value.int .i64 (i39)), (Value.int .i64 (i40)), (Value.int .i64 (i41)), (Value.int .i64 (i42)), (Value.int .i64 (i43)), (Value.int .i64 (i44))] rfl TF.agg_115 TF.sz_115 hl ?_)
    refine Run.go rfl rfl rfl (sem_allocN [(Value.pointer none), (Value.pointer none), (Value.pointer none), (Value.int .i64 (0)), (Value.int .i64 (0)), (Value.int .i64 (0)), (Value.int .i64 (0)), (Value.int .i64 (0)), (Value.int .i64 (0)), (Value.int .i64 (0)), (Value.int .i64 (0)), (Value.int .i64 (0))] TF.zero_115 (fun k45 hb1 hb2 h46 hb3 => ?_))
    have hS := hS k45 hb1 hb2 h46 hb3
    obtain ⟨h47, hst, hS⟩ := hS
    refine Run.go rfl rfl rfl (sem_storeN ⟨k45, 0, none⟩ [(Value.pointer p33), (Value.pointer p34), (Value.pointer p35), (Value.int .i64 (i36)), (Value.int .i64 (i37)), (Value.int .i64 (i38)), (Value.int .i64 (i39)), (Value.int .i64 (i40)), (Value.int .i64 (i41)), (Value.int .i64 (i42)), (Value.int .i64 (i43)), (Value.int .i64 (i44))] h47 rfl rfl TF.sz_115 hst ?_)
    refine Run.region_end ?_
    refine Run.seq ?_
    refine Run.ops0 (idx := [0, 1, 2, 3, 4, 5, 6, 7, 8, 9, 10, 11]) rfl ?_
    refine Run.go rfl rfl rfl (sem_move ((Value.pointer p1)) rfl ?_)
    refine Run.go rfl rfl rfl (sem_move ((Value.pointer p1)) rfl ?_)
    obtain ⟨A48, e49, hS⟩ := hS
    refine Run.go rfl rfl rfl (sem_nilCheck A48 (congrArg Value.pointer e49) ?_)
    refine Run.go rfl rfl rfl (sem_fieldAddr A48 0 rfl TF.fld_105_0 ?_)
    refine Run.ldSl hS fun a50 n51 c52 h53 hl hS => ?_
    refine Run.go rfl rfl rfl (sem_load1 A48 ((Value.slice a50 n51 c52)) rfl TF.agg_103 hl ?_)
    refine Run.go rfl rfl rfl (sem_move ((Value.int .i64 (IntKind.wrap .i64 (((n22 : Nat)) - (1))))) rfl ?_)
    refine Run.go rfl rfl rfl (sem_move ((Value.int .i64 (IntKind.wrap .i64 (((n22 : Nat)) - (1))))) rfl ?_)
    refine Run.go rfl rfl rfl (sem_binI .i64 (IntKind.wrap .i64 (((n22 : Nat)) - (1))) (1) ((Value.int .i64 (IntKind.wrap .i64 ((IntKind.wrap .i64 (((n22 : Nat)) - (1))) + (1))))) rfl rfl rfl ?_)
    refine Run.go rfl rfl rfl (sem_callL [(Value.slice a50 n51 c52), (Value.int .i64 (IntKind.wrap .i64 (((n22 : Nat)) - (1)))), (Value.int .i64 (IntKind.wrap .i64 ((IntKind.wrap .i64 (((n22 : Nat)) - (1))) + (1))))] (TF.goes_82) rfl rfl (Spec.mono hS fun v h54 hv => ?_))
    obtain ⟨a55, n56, c57, rfl, hS⟩ := hv
    obtain ⟨A58, e59, hS⟩ := hS
    refine Run.go rfl rfl rfl (sem_nilCheck A58 (congrArg Value.pointer e59) ?_)
    refine Run.go rfl rfl rfl (sem_fieldAddr A58 0 rfl TF.fld_105_0 ?_)
    obtain ⟨h60, hst, hS⟩ := hS
    refine Run.go rfl rfl rfl (sem_store1 A58 ((Value.slice a55 n56 c57)) h60 rfl rfl rfl TF.sz_103 hst ?_)
    refine Run.region_end ?_
    refine Run.seq ?_
    refine Run.ops0 (idx := [0, 1, 2]) rfl ?_
    obtain ⟨p61, p62, p63, i64, i65, i66, i67, i68, i69, i70, i71, i72, hl, hS⟩ := hS
    refine Run.go rfl rfl rfl (sem_loadN ⟨k45, 0, none⟩ [(Value.pointer p61), (Value.pointer p62), (Value.pointer p63), (Value.int .i64 (i64)), (Value.int .i64 (i65)), (Value.int .i64 (i66)), (Value.int .i64 (i67)), (Value.int .i64 (i68)), (Value.int .i64 (i69)), (Value.int .i64 (i70)), (Value.int .i64 (i71)), (Value.int .i64 (i72))] rfl TF.agg_115 TF.sz_115 hl ?_)
    obtain ⟨h73, hst, hS⟩ := hS
    refine Run.go rfl rfl rfl (sem_storeN ⟨k15, 0, none⟩ [(Value.pointer p61), (Value.pointer p62), (Value.pointer p63), (Value.int .i64 (i64)), (Value.int .i64 (i65)), (Value.int .i64 (i66)), (Value.int .i64 (i67)), (Value.int .i64 (i68)), (Value.int .i64 (i69)), (Value.int .i64 (i70)), (Value.int .i64 (i71)), (Value.int .i64 (i72))] h73 rfl rfl TF.sz_115 hst ?_)
    refine Run.go rfl rfl rfl (sem_assign ((Value.bool true)) rfl ?_)
    refine Run.region_end ?_
    obtain ⟨p74, p75, p76, i77, i78, i79, i80, i81, i82, i83, i84, i85, hl0, hS⟩ := hS
    refine Run.ret ⟨.inr rfl, ?_⟩
    exact ⟨⟨k15, 0, none⟩, (Value.agg #[(Value.pointer p74), (Value.pointer p75), (Value.pointer p76), (Value.int .i64 (i77)), (Value.int .i64 (i78)), (Value.int .i64 (i79)), (Value.int .i64 (i80)), (Value.int .i64 (i81)), (Value.int .i64 (i82)), (Value.int .i64 (i83)), (Value.int .i64 (i84)), (Value.int .i64 (i85))]), rfl, loadHN TF.agg_115 TF.sz_115 hl0, hS.imp fun h' hq => ⟨p74, p75, p76, (i77), (i78), (i79), (i80), (i81), (i82), (i83), (i84), (i85), (true), rfl, hq⟩⟩
  refine Run.seq ?_
  refine Run.ops0 (idx := [0, 1, 2, 3, 4, 5, 6, 7, 8, 9]) rfl ?_
  refine Run.go rfl rfl rfl (sem_move ((Value.pointer p1)) rfl ?_)
  obtain ⟨hT, hF⟩ := hS
  by_cases hb86 : p1 = none
  · have hS := hT hb86; clear hT hF
    refine Run.go rfl rfl rfl (sem_ptrNilT p1 (.inl rfl) true rfl rfl TF.ptr_102 hb86 rfl ?_)
    refine Run.go rfl rfl rfl (sem_move ((Value.bool true)) rfl ?_)
    refine Run.no rfl rfl rfl ?_
    refine Run.no rfl rfl rfl ?_
    refine Run.no rfl rfl rfl ?_
    refine Run.no rfl rfl rfl ?_
    refine Run.no rfl rfl rfl ?_
    refine Run.no rfl rfl rfl ?_
    refine Run.go rfl rfl rfl (sem_pick true ((Value.bool true)) rfl rfl ?_)
    refine Run.region_end ?_
    refine Run.condT rfl ?_
    refine Run.seq ?_
    refine Run.ops0 (idx := [0, 1, 2]) rfl ?_
    refine Run.go rfl rfl rfl (sem_buildSL [] [(Value.pointer none), (Value.pointer none), (Value.pointer none), (Value.int .i64 (0)), (Value.int .i64 (0)), (Value.int .i64 (0)), (Value.int .i64 (0)), (Value.int .i64 (0)), (Value.int .i64 (0)), (Value.int .i64 (0)), (Value.int .i64 (0)), (Value.int .i64 (0))] TF.zero_115 TF.places_115 rfl rfl ?_)
    obtain ⟨h87, hst, hS⟩ := hS
    refine Run.go rfl rfl rfl (sem_storeN ⟨k15, 0, none⟩ [(Value.pointer none), (Value.pointer none), (Value.pointer none), (Value.int .i64 (0)), (Value.int .i64 (0)), (Value.int .i64 (0)), (Value.int .i64 (0)), (Value.int .i64 (0)), (Value.int .i64 (0)), (Value.int .i64 (0)), (Value.int .i64 (0)), (Value.int .i64 (0))] h87 rfl rfl TF.sz_115 hst ?_)
    refine Run.go rfl rfl rfl (sem_assign ((Value.bool false)) rfl ?_)
    refine Run.region_end ?_
    obtain ⟨p88, p89, p90, i91, i92, i93, i94, i95, i96, i97, i98, i99, hl0, hS⟩ := hS
    refine Run.ret ⟨.inr rfl, ?_⟩
    exact ⟨⟨k15, 0, none⟩, (Value.agg #[(Value.pointer p88), (Value.pointer p89), (Value.pointer p90), (Value.int .i64 (i91)), (Value.int .i64 (i92)), (Value.int .i64 (i93)), (Value.int .i64 (i94)), (Value.int .i64 (i95)), (Value.int .i64 (i96)), (Value.int .i64 (i97)), (Value.int .i64 (i98)), (Value.int .i64 (i99))]), rfl, loadHN TF.agg_115 TF.sz_115 hl0, hS.imp fun h' hq => ⟨p88, p89, p90, (i91), (i92), (i93), (i94), (i95), (i96), (i97), (i98), (i99), (false), rfl, hq⟩⟩
  · have hS := hF hb86; clear hT hF
    refine Run.go rfl rfl rfl (sem_ptrNilF p1 (.inl rfl) false rfl rfl TF.ptr_102 hb86 rfl ?_)
    refine Run.go rfl rfl rfl (sem_move ((Value.bool false)) rfl ?_)
    refine Run.go rfl rfl rfl (sem_move ((Value.pointer p1)) rfl ?_)
    obtain ⟨A100, e101, hS⟩ := hS
    refine Run.go rfl rfl rfl (sem_nilCheck A100 (congrArg Value.pointer e101) ?_)
    refine Run.go rfl rfl rfl (sem_fieldAddr A100 0 rfl TF.fld_105_0 ?_)
    refine Run.ldSl hS fun a102 n103 c104 h105 hl hS => ?_
    refine Run.go rfl rfl rfl (sem_load1 A100 ((Value.slice a102 n103 c104)) rfl TF.agg_103 hl ?_)
    refine Run.go rfl rfl rfl (sem_lenSl a102 n103 c104 rfl TF.sl_103 ?_)
    obtain ⟨hT, hF⟩ := hS
    by_cases hb106 : ((n103 : Nat) : Int) = 0
    · have hS := hT hb106; clear hT hF
      refine Run.go rfl rfl rfl (sem_binI .i64 ((n103 : Nat)) (0) (.bool true) rfl rfl (binI_eql_t hb106) ?_)
      refine Run.go rfl rfl rfl (sem_pick false ((Value.bool true)) rfl rfl ?_)
      refine Run.region_end ?_
      refine Run.condT rfl ?_
      refine Run.seq ?_
      refine Run.ops0 (idx := [0, 1, 2]) rfl ?_
      refine Run.go rfl rfl rfl (sem_buildSL [] [(Value.pointer none), (Value.pointer none), (Value.pointer none), (Value.int .i64 (0)), (Value.int .i64 (0)), (Value.int .i64 (0)), (Value.int .i64 (0)), (Value.int .i64 (0)), (Value.int .i64 (0)), (Value.int .i64 (0)), (Value.int .i64 (0)), (Value.int .i64 (0))] TF.zero_115 TF.places_115 rfl rfl ?_)
      obtain ⟨h107, hst, hS⟩ := hS
      refine Run.go rfl rfl rfl (sem_storeN ⟨k15, 0, none⟩ [(Value.pointer none), (Value.pointer none), (Value.pointer none), (Value.int .i64 (0)), (Value.int .i64 (0)), (Value.int .i64 (0)), (Value.int .i64 (0)), (Value.int .i64 (0)), (Value.int .i64 (0)), (Value.int .i64 (0)), (Value.int .i64 (0)), (Value.int .i64 (0))] h107 rfl rfl TF.sz_115 hst ?_)
      refine Run.go rfl rfl rfl (sem_assign ((Value.bool false)) rfl ?_)
      refine Run.region_end ?_
      obtain ⟨p108, p109, p110, i111, i112, i113, i114, i115, i116, i117, i118, i119, hl0, hS⟩ := hS
      refine Run.ret ⟨.inr rfl, ?_⟩
      exact ⟨⟨k15, 0, none⟩, (Value.agg #[(Value.pointer p108), (Value.pointer p109), (Value.pointer p110), (Value.int .i64 (i111)), (Value.int .i64 (i112)), (Value.int .i64 (i113)), (Value.int .i64 (i114)), (Value.int .i64 (i115)), (Value.int .i64 (i116)), (Value.int .i64 (i117)), (Value.int .i64 (i118)), (Value.int .i64 (i119))]), rfl, loadHN TF.agg_115 TF.sz_115 hl0, hS.imp fun h' hq => ⟨p108, p109, p110, (i111), (i112), (i113), (i114), (i115), (i116), (i117), (i118), (i119), (false), rfl, hq⟩⟩
    · have hS := hF hb106; clear hT hF
      refine Run.go rfl rfl rfl (sem_binI .i64 ((n103 : Nat)) (0) (.bool false) rfl rfl (binI_eql_f hb106) ?_)
      refine Run.go rfl rfl rfl (sem_pick false ((Value.bool false)) rfl rfl ?_)
      refine Run.region_end ?_
      refine Run.condF rfl ?_
      refine Run.skip ?_
      exact Run.of_fin (hS.imp fun h' hS => j17 _ _ ⟨⟨rfl, rfl, trivial⟩, hS⟩)
set_option maxHeartbeats 4000000 in
theorem C_mark_State_Copy.of {B : RO} {p1 : Option Addr} {p2 : Option Addr} {p3 : Option Addr} {i4 : Int} {i5 : Int} {i6 : Int} {i7 : Int} {h : Heap} {Q : Option Addr → Option Addr → Option Addr → Int → Int → Int → Int → Heap → Prop} (hS : S_mark_State_Copy B p1 p2 p3 i4 i5 i6 i7 h Q) : C_mark_State_Copy B p1 p2 p3 i4 i5 i6 i7 h Q := by
  unfold S_mark_State_Copy at hS
  unfold C_mark_State_Copy
  refine Spec.of_run Try.func80 (N := 15) (rs := [ResultVar.cell 2 112]) rfl rfl rfl (Nat.le_of_ble_eq_true rfl) ?_
  refine Run.seq ?_
  refine Run.ops0 (idx := [0, 1]) rfl ?_
  refine Run.go rfl rfl rfl (sem_boxNN [(Value.pointer p1), (Value.pointer p2), (Value.pointer p3), (Value.int .i64 (i4)), (Value.int .i64 (i5)), (Value.int .i64 (i6)), (Value.int .i64 (i7))] rfl (fun k15 hb1 hb2 h16 hb3 => ?_))
  have hS := hS k15 hb1 hb2 h16 hb3
  refine Run.go rfl rfl rfl (sem_allocN [(Value.pointer none), (Value.pointer none), (Value.pointer none), (Value.int .i64 (0)), (Value.int .i64 (0)), (Value.int .i64 (0)), (Value.int .i64 (0))] TF.zero_112 (fun k17 hb1 hb2 h18 hb3 => ?_))
  have hS := hS k17 hb1 hb2 h18 hb3
  refine Run.region_end ?_
  refine Run.seq ?_
  skip
  obtain ⟨p20, hl, hS⟩ := hS
  have f21 := hl
  skip
  obtain ⟨p23, hl, hS⟩ := hS
  have f24 := hl
  skip
  obtain ⟨p26, hl, hS⟩ := hS
  have f27 := hl
  skip
  obtain ⟨i29, i30, i31, i32, hl, hS⟩ := hS
  have f33 := hl
  refine Run.draw (fun h' => cellH B h' ⟨k15, 0, none⟩ = some (Value.pointer p20) ∧ cellH B h' ⟨k15, 1, none⟩ = some (Value.pointer p23) ∧ cellH B h' ⟨k15, 2, none⟩ = some (Value.pointer p26) ∧ CellsAt B h' ⟨k15, 3, none⟩ 0 [(Value.int .i64 (i29)), (Value.int .i64 (i30)), (Value.int .i64 (i31)), (Value.int .i64 (i32))] ∧ True) [12] [.q 0, .q 1, .q 3, .q 4, .q 6, .q 7, .q 9, .q 10, .x 2, .x 5, .x 8, .q 11, .x 12] TF.mixed (by kernel_rfl) ⟨f21, f24, f27, f33, trivial⟩ ?_
  refine RunO.quiet rfl rfl rfl (fun h' hC => sem_fieldAddr ⟨k15, 0, none⟩ 0 rfl TF.fld_112_0 ⟨rfl, rfl⟩) ?_
  refine RunO.quiet rfl rfl rfl (fun h' hC => sem_load1 ⟨k15, 0, none⟩ ((Value.pointer p20)) rfl TF.agg_107 hC.1 ⟨rfl, rfl⟩) ?_
  refine RunO.quiet rfl rfl rfl (fun h' hC => sem_fieldAddr ⟨k15, 0, none⟩ 1 rfl TF.fld_112_1 ⟨rfl, rfl⟩) ?_
  refine RunO.quiet rfl rfl rfl (fun h' hC => sem_load1 ⟨k15, 1, none⟩ ((Value.pointer p23)) rfl TF.agg_108 hC.2.1 ⟨rfl, rfl⟩) ?_
  refine RunO.quiet rfl rfl rfl (fun h' hC => sem_fieldAddr ⟨k15, 0, none⟩ 2 rfl TF.fld_112_2 ⟨rfl, rfl⟩) ?_
  refine RunO.quiet rfl rfl rfl (fun h' hC => sem_load1 ⟨k15, 2, none⟩ ((Value.pointer p26)) rfl TF.agg_109 hC.2.2.1 ⟨rfl, rfl⟩) ?_
  refine RunO.quiet rfl rfl rfl (fun h' hC => sem_fieldAddr ⟨k15, 0, none⟩ 3 rfl TF.fld_112_3 ⟨rfl, rfl⟩) ?_
  refine RunO.quiet rfl rfl rfl (fun h' hC => sem_loadN ⟨k15, 3, none⟩ [(Value.int .i64 (i29)), (Value.int .i64 (i30)), (Value.int .i64 (i31)), (Value.int .i64 (i32))] rfl TF.agg_110 TF.sz_110 hC.2.2.2.1 ⟨rfl, rfl⟩) ?_
  refine OpH.go rfl rfl rfl (sem_callL [(Value.pointer p20)] (TF.goes_85) rfl rfl (Spec.mono hS fun v h34 hv => ?_))
  obtain ⟨p35, rfl, hS⟩ := hv
  obtain ⟨g36, g37, g38, g39, hS⟩ := hS
  refine ⟨fun _ => ⟨g36, g37, g38, g39, trivial⟩, ?_⟩
  refine OpH.go rfl rfl rfl (sem_callL [(Value.pointer p23)] (TF.goes_86) rfl rfl (Spec.mono hS fun v h40 hv => ?_))
  obtain ⟨p41, rfl, hS⟩ := hv
  obtain ⟨g42, g43, g44, g45, hS⟩ := hS
  refine ⟨fun _ => ⟨g42, g43, g44, g45, trivial⟩, ?_⟩
  refine OpH.go rfl rfl rfl (sem_callL [(Value.pointer p26)] (TF.goes_87) rfl rfl (Spec.mono hS fun v h46 hv => ?_))
  obtain ⟨p47, rfl, hS⟩ := hv
  obtain ⟨g48, g49, g50, g51, hS⟩ := hS
  refine ⟨fun _ => ⟨g48, g49, g50, g51, trivial⟩, ?_⟩
  refine RunO.quiet rfl rfl rfl (fun h' hC => sem_buildSL [(0, (Value.pointer p35)), (1, (Value.pointer p41)), (2, (Value.pointer p47)), (3, (Value.agg #[(Value.int .i64 (i29)), (Value.int .i64 (i30)), (Value.int .i64 (i31)), (Value.int .i64 (i32))]))] [(Value.pointer p35), (Value.pointer p41), (Value.pointer p47), (Value.int .i64 (i29)), (Value.int .i64 (i30)), (Value.int .i64 (i31)), (Value.int .i64 (i32))] TF.zero_112 TF.places_112 rfl rfl ⟨rfl, rfl⟩) ?_
  obtain ⟨h52, hst, hS⟩ := hS
  refine OpH.go rfl rfl rfl (sem_storeN ⟨k17, 0, none⟩ [(Value.pointer p35), (Value.pointer p41), (Value.pointer p47), (Value.int .i64 (i29)), (Value.int .i64 (i30)), (Value.int .i64 (i31)), (Value.int .i64 (i32))] h52 rfl rfl TF.sz_112 hst ?_)
  refine ⟨fun hz => Bool.noConfusion hz, ?_⟩
  obtain ⟨p53, p54, p55, i56, i57, i58, i59, hl0, hS⟩ := hS
  refine Run.ret ⟨.inr rfl, ?_⟩
  exact ⟨⟨k17, 0, none⟩, (Value.agg #[(Value.pointer p53), (Value.pointer p54), (Value.pointer p55), (Value.int .i64 (i56)), (Value.int .i64 (i57)), (Value.int .i64 (i58)), (Value.int .i64 (i59))]), rfl, loadHN TF.agg_112 TF.sz_112 hl0, hS.imp fun h' hq => ⟨p53, p54, p55, (i56), (i57), (i58), (i59), rfl, hq⟩⟩
set_option maxHeartbeats 4000000 in
theorem C_sheet_New.of {B : RO} {h : Heap} {Q : Option Addr → Heap → Prop} (hS : S_sheet_New B h Q) : C_sheet_New B h Q := by
  unfold S_sheet_New at hS
  unfold C_sheet_New
  refine Spec.of_run Try.func81 (N := 5) (rs := [ResultVar.tmp 0]) rfl rfl rfl (Nat.le_of_ble_eq_true rfl) ?_
  refine Run.seq ?_
  refine Run.ops0 (idx := [0]) rfl ?_
  refine Run.go rfl rfl rfl (sem_assign ((Value.pointer none)) rfl ?_)
  refine Run.region_end ?_
  refine Run.seq ?_
  refine Run.ops0 (idx := [0, 1, 2, 3, 4]) rfl ?_
  refine Run.go rfl rfl rfl (sem_buildSL [] [(Value.slice none 0 0)] TF.zero_164 TF.places_164 rfl rfl ?_)
  refine Run.go rfl rfl rfl (sem_boxNN [(Value.slice none 0 0)] rfl (fun k2 hb1 hb2 h3 hb3 => ?_))
  have hS := hS k2 hb1 hb2 h3 hb3
  refine Run.go rfl rfl rfl (sem_buildSL [(0, (Value.pointer (some ⟨k2, 0, none⟩)))] [(Value.pointer (some ⟨k2, 0, none⟩))] TF.zero_166 TF.places_166 rfl rfl ?_)
  refine Run.go rfl rfl rfl (sem_boxNN [(Value.pointer (some ⟨k2, 0, none⟩))] rfl (fun k4 hb1 hb2 h5 hb3 => ?_))
  have hS := hS k4 hb1 hb2 h5 hb3
  refine Run.go rfl rfl rfl (sem_assign ((Value.pointer (some ⟨k4, 0, none⟩))) rfl ?_)
  refine Run.region_end ?_
  refine Run.ret ⟨.inr rfl, ?_⟩
  exact hS.imp fun h' hq => ⟨(some ⟨k4, 0, none⟩), rfl, hq⟩
set_option maxHeartbeats 4000000 in
theorem C_slices_Delete_s_mark_Mark_mark_Mark.of {B : RO} {a1 : Option Addr} {n2 : Nat} {c3 : Nat} {i4 : Int} {i5 : Int} {h : Heap} {Q : Option Addr → Nat → Nat → Heap → Prop} (hS : S_slices_Delete_s_mark_Mark_mark_Mark B a1 n2 c3 i4 i5 h Q) : C_slices_Delete_s_mark_Mark_mark_Mark B a1 n2 c3 i4 i5 h Q := by
  unfold S_slices_Delete_s_mark_Mark_mark_Mark at hS
  unfold C_slices_Delete_s_mark_Mark_mark_Mark
  refine Spec.of_run Try.func82 (N := 33) (rs := [ResultVar.tmp 6]) rfl rfl rfl (Nat.le_of_ble_eq_true rfl) ?_
  refine Run.seq ?_
  refine Run.ops0 (idx := [0]) rfl ?_
  refine Run.go rfl rfl rfl (sem_assign ((Value.slice none 0 0)) rfl ?_)
  refine Run.region_end ?_
  refine Run.seq ?_
  refine Run.ops0 (idx := [0, 1, 2, 3, 4, 5]) rfl ?_
  refine Run.go rfl rfl rfl (sem_move ((Value.slice a1 n2 c3)) rfl ?_)
  refine Run.go rfl rfl rfl (sem_move ((Value.int .i64 (i4))) rfl ?_)
  refine Run.go rfl rfl rfl (sem_move ((Value.int .i64 (i5))) rfl ?_)
  refine Run.go rfl rfl rfl (sem_move ((Value.slice a1 n2 c3)) rfl ?_)
  refine Run.go rfl rfl rfl (sem_lenSl a1 n2 c3 rfl TF.sl_103 ?_)
  obtain ⟨hi0, hi1, hi2, hi3, hS⟩ := hS
  refine Run.go rfl rfl rfl (sem_slice3L a1 n2 c3 (i4) (i5) ((n2 : Nat)) .i64 .i64 .i64 rfl TF.slc_103 rfl rfl rfl hi0 hi1 hi2 hi3 ?_)
  refine Run.region_end ?_
  refine Run.seq ?_
  refine Run.seq ?_
  refine Run.ops0 (idx := [0, 1, 2]) rfl ?_
  refine Run.go rfl rfl rfl (sem_move ((Value.int .i64 (i4))) rfl ?_)
  refine Run.go rfl rfl rfl (sem_move ((Value.int .i64 (i5))) rfl ?_)
  obtain ⟨hT, hF⟩ := hS
  by_cases hb9 : (i4 : Int) = i5
  · have hS := hT hb9; clear hT hF
    refine Run.go rfl rfl rfl (sem_binI .i64 (i4) (i5) (.bool true) rfl rfl (binI_eql_t hb9) ?_)
    refine Run.region_end ?_
    refine Run.condT rfl ?_
    refine Run.seq ?_
    refine Run.ops0 (idx := [0, 1]) rfl ?_
    refine Run.go rfl rfl rfl (sem_move ((Value.slice a1 n2 c3)) rfl ?_)
    refine Run.go rfl rfl rfl (sem_assign ((Value.slice a1 n2 c3)) rfl ?_)
    refine Run.region_end ?_
    refine Run.ret ⟨.inr rfl, ?_⟩
    exact hS.imp fun h' hq => ⟨a1, n2, c3, rfl, hq⟩
  · have hS := hF hb9; clear hT hF
    refine Run.go rfl rfl rfl (sem_binI .i64 (i4) (i5) (.bool false) rfl rfl (binI_eql_f hb9) ?_)
    refine Run.region_end ?_
    refine Run.condF rfl ?_
    refine Run.skip ?_
    refine Run.seq ?_
    refine Run.ops0 (idx := [0, 1, 2]) rfl ?_
    refine Run.go rfl rfl rfl (sem_move ((Value.slice a1 n2 c3)) rfl ?_)
    refine Run.go rfl rfl rfl (sem_lenSl a1 n2 c3 rfl TF.sl_103 ?_)
    refine Run.go rfl rfl rfl (sem_assign ((Value.int .i64 ((n2 : Nat)))) rfl ?_)
    refine Run.region_end ?_
    refine Run.seq ?_
    skip
    skip
    obtain ⟨hi0, hi1, hi2, hS⟩ := hS
    have f13 := hi0; have f14 := hi1; have f15 := hi2
    skip
    skip
    obtain ⟨hi0, hi1, hi2, hS⟩ := hS
    have f19 := hi0; have f20 := hi1; have f21 := hi2
    refine Run.draw (fun h' => True) [] [.q 0, .q 1, .q 2, .q 3, .q 4, .q 5, .x 6, .q 7] TF.mixed (by kernel_rfl) trivial ?_
    refine RunO.quiet rfl rfl rfl (fun h' hC => sem_move ((Value.slice a1 n2 c3)) rfl ⟨rfl, rfl⟩) ?_
    refine RunO.quiet rfl rfl rfl (fun h' hC => sem_move ((Value.int .i64 (i4))) rfl ⟨rfl, rfl⟩) ?_
    refine RunO.quiet rfl rfl rfl (fun h' hC => sem_sliceSlI a1 n2 c3 (0) (i4) rfl TF.slc_103 rfl ⟨_, rfl⟩ f13 f14 f15 ⟨rfl, rfl⟩) ?_
    refine RunO.quiet rfl rfl rfl (fun h' hC => sem_move ((Value.slice a1 n2 c3)) rfl ⟨rfl, rfl⟩) ?_
    refine RunO.quiet rfl rfl rfl (fun h' hC => sem_move ((Value.int .i64 (i5))) rfl ⟨rfl, rfl⟩) ?_
    refine RunO.quiet rfl rfl rfl (fun h' hC => sem_sliceSlI a1 n2 c3 (i5) ((n2 : Nat)) rfl TF.slc_103 ⟨_, rfl⟩ rfl f19 f20 f21 ⟨rfl, rfl⟩) ?_
    refine OpH.go rfl rfl rfl (sem_appendL [(Value.slice (if c3 = Int.toNat (0) then a1 else Option.map (·.add (Int.toNat (0) * 12)) a1) (Int.toNat (i4) - Int.toNat (0)) (c3 - Int.toNat (0))), (Value.slice (if c3 = Int.toNat (i5) then a1 else Option.map (·.add (Int.toNat (i5) * 12)) a1) (Int.toNat ((n2 : Nat)) - Int.toNat (i5)) (c3 - Int.toNat (i5)))] rfl (semH_mono (fun v h22 hv => ?_) hS))
    obtain ⟨a23, n24, c25, rfl, hS⟩ := hv
    refine ⟨fun _ => trivial, ?_⟩
    refine RunO.quiet rfl rfl rfl (fun h' hC => sem_assign ((Value.slice a23 n24 c25)) rfl ⟨rfl, rfl⟩) ?_
    refine Run.seq ?_
    refine Run.ops0 (idx := [0, 1, 2, 3, 4, 5]) rfl ?_
    refine Run.go rfl rfl rfl (sem_move ((Value.slice a23 n24 c25)) rfl ?_)
    refine Run.go rfl rfl rfl (sem_move ((Value.slice a23 n24 c25)) rfl ?_)
    refine Run.go rfl rfl rfl (sem_lenSl a23 n24 c25 rfl TF.sl_103 ?_)
    refine Run.go rfl rfl rfl (sem_move ((Value.int .i64 ((n2 : Nat)))) rfl ?_)
    obtain ⟨hi0, hi1, hi2, hS⟩ := hS
    refine Run.go rfl rfl rfl (sem_sliceSlI a23 n24 c25 ((n24 : Nat)) ((n2 : Nat)) rfl TF.slc_103 ⟨_, rfl⟩ ⟨_, rfl⟩ hi0 hi1 hi2 ?_)
    refine Run.go rfl rfl rfl (sem_clearL [(Value.slice (if c25 = Int.toNat ((n24 : Nat)) then a23 else Option.map (·.add (Int.toNat ((n24 : Nat)) * 12)) a23) (Int.toNat ((n2 : Nat)) - Int.toNat ((n24 : Nat))) (c25 - Int.toNat ((n24 : Nat))))] rfl (semH_mono (fun v h26 hv => ?_) hS))
    obtain ⟨rfl, hS⟩ := hv
    refine Run.region_end ?_
    refine Run.seq ?_
    refine Run.ops0 (idx := [0, 1]) rfl ?_
    refine Run.go rfl rfl rfl (sem_move ((Value.slice a23 n24 c25)) rfl ?_)
    refine Run.go rfl rfl rfl (sem_assign ((Value.slice a23 n24 c25)) rfl ?_)
    refine Run.region_end ?_
    refine Run.ret ⟨.inr rfl, ?_⟩
    exact hS.imp fun h' hq => ⟨a23, n24, c25, rfl, hq⟩
set_option maxHeartbeats 4000000 in
theorem C_draft_Draft_int_Copy.of {B : RO} {p1 : Option Addr} {h : Heap} {Q : Option Addr → Heap → Prop} (hS : S_draft_Draft_int_Copy B p1 h Q) : C_draft_Draft_int_Copy B p1 h Q := by
  unfold S_draft_Draft_int_Copy at hS
  unfold C_draft_Draft_int_Copy
  refine Spec.of_run Try.func85 (N := 12) (rs := [ResultVar.tmp 2]) rfl rfl rfl (Nat.le_of_ble_eq_true rfl) ?_
  refine Run.seq ?_
  refine Run.ops0 (idx := [0]) rfl ?_
  refine Run.go rfl rfl rfl (sem_assign ((Value.pointer none)) rfl ?_)
  refine Run.region_end ?_
  refine Run.seq ?_
  refine Run.seq ?_
  refine Run.ops0 (idx := [0, 1]) rfl ?_
  refine Run.go rfl rfl rfl (sem_move ((Value.pointer p1)) rfl ?_)
  obtain ⟨hT, hF⟩ := hS
  by_cases hb3 : p1 = none
  · have hS := hT hb3; clear hT hF
    refine Run.go rfl rfl rfl (sem_ptrNilT p1 (.inl rfl) true rfl rfl TF.ptr_107 hb3 rfl ?_)
    refine Run.region_end ?_
    refine Run.condT rfl ?_
    refine Run.seq ?_
    refine Run.ops0 (idx := [0]) rfl ?_
    refine Run.go rfl rfl rfl (sem_assign ((Value.pointer none)) rfl ?_)
    refine Run.region_end ?_
    refine Run.ret ⟨.inr rfl, ?_⟩
    exact hS.imp fun h' hq => ⟨none, rfl, hq⟩
  · have hS := hF hb3; clear hT hF
    refine Run.go rfl rfl rfl (sem_ptrNilF p1 (.inl rfl) false rfl rfl TF.ptr_107 hb3 rfl ?_)
    refine Run.region_end ?_
    refine Run.condF rfl ?_
    refine Run.skip ?_
    refine Run.seq ?_
    refine Run.ops0 (idx := [0, 1, 2, 3, 4, 5, 6, 7]) rfl ?_
    refine Run.go rfl rfl rfl (sem_move ((Value.pointer p1)) rfl ?_)
    obtain ⟨A4, e5, hS⟩ := hS
    refine Run.go rfl rfl rfl (sem_nilCheck A4 (congrArg Value.pointer e5) ?_)
    refine Run.go rfl rfl rfl (sem_fieldAddr A4 0 rfl TF.fld_151_0 ?_)
    refine Run.ldSl hS fun a6 n7 c8 h9 hl hS => ?_
    refine Run.go rfl rfl rfl (sem_load1 A4 ((Value.slice a6 n7 c8)) rfl TF.agg_149 hl ?_)
    refine Run.go rfl rfl rfl (sem_callL [(Value.slice a6 n7 c8)] (TF.goes_89) rfl rfl (Spec.mono hS fun v h10 hv => ?_))
    obtain ⟨a11, n12, c13, rfl, hS⟩ := hv
    refine Run.go rfl rfl rfl (sem_buildSL [(0, (Value.slice a11 n12 c13))] [(Value.slice a11 n12 c13)] TF.zero_151 TF.places_151 rfl rfl ?_)
    refine Run.go rfl rfl rfl (sem_boxNN [(Value.slice a11 n12 c13)] rfl (fun k14 hb1 hb2 h15 hb3 => ?_))
    have hS := hS k14 hb1 hb2 h15 hb3
    refine Run.go rfl rfl rfl (sem_assign ((Value.pointer (some ⟨k14, 0, none⟩))) rfl ?_)
    refine Run.region_end ?_
    refine Run.ret ⟨.inr rfl, ?_⟩
    exact hS.imp fun h' hq => ⟨(some ⟨k14, 0, none⟩), rfl, hq⟩
set_option maxHeartbeats 4000000 in
theorem C_sheet_Sheet_Copy.of {B : RO} {p1 : Option Addr} {h : Heap} {Q : Option Addr → Heap → Prop} (hS : S_sheet_Sheet_Copy B p1 h Q) : C_sheet_Sheet_Copy B p1 h Q := by
  unfold S_sheet_Sheet_Copy at hS
  unfold C_sheet_Sheet_Copy
  refine Spec.of_run Try.func86 (N := 12) (rs := [ResultVar.tmp 2]) rfl rfl rfl (Nat.le_of_ble_eq_true rfl) ?_
  refine Run.seq ?_
  refine Run.ops0 (idx := [0]) rfl ?_
  refine Run.go rfl rfl rfl (sem_assign ((Value.pointer none)) rfl ?_)
  refine Run.region_end ?_
  refine Run.seq ?_
  refine Run.seq ?_
  refine Run.ops0 (idx := [0, 1]) rfl ?_
  refine Run.go rfl rfl rfl (sem_move ((Value.pointer p1)) rfl ?_)
  obtain ⟨hT, hF⟩ := hS
  by_cases hb3 : p1 = none
  · have hS := hT hb3; clear hT hF
    refine Run.go rfl rfl rfl (sem_ptrNilT p1 (.inl rfl) true rfl rfl TF.ptr_108 hb3 rfl ?_)
    refine Run.region_end ?_
    refine Run.condT rfl ?_
    refine Run.seq ?_
    refine Run.ops0 (idx := [0]) rfl ?_
    refine Run.go rfl rfl rfl (sem_assign ((Value.pointer none)) rfl ?_)
    refine Run.region_end ?_
    refine Run.ret ⟨.inr rfl, ?_⟩
    exact hS.imp fun h' hq => ⟨none, rfl, hq⟩
  · have hS := hF hb3; clear hT hF
    refine Run.go rfl rfl rfl (sem_ptrNilF p1 (.inl rfl) false rfl rfl TF.ptr_108 hb3 rfl ?_)
    refine Run.region_end ?_
    refine Run.condF rfl ?_
    refine Run.skip ?_
    refine Run.seq ?_
    refine Run.ops0 (idx := [0, 1, 2, 3, 4, 5, 6, 7]) rfl ?_
    refine Run.go rfl rfl rfl (sem_move ((Value.pointer p1)) rfl ?_)
    obtain ⟨A4, e5, hS⟩ := hS
    refine Run.go rfl rfl rfl (sem_nilCheck A4 (congrArg Value.pointer e5) ?_)
    refine Run.go rfl rfl rfl (sem_fieldAddr A4 0 rfl TF.fld_166_0 ?_)
    obtain ⟨p6, hl, hS⟩ := hS
    refine Run.go rfl rfl rfl (sem_load1 A4 ((Value.pointer p6)) rfl TF.agg_161 hl ?_)
    refine Run.go rfl rfl rfl (sem_callL [(Value.pointer p6)] (TF.goes_90) rfl rfl (Spec.mono hS fun v h7 hv => ?_))
    obtain ⟨p8, rfl, hS⟩ := hv
    refine Run.go rfl rfl rfl (sem_buildSL [(0, (Value.pointer p8))] [(Value.pointer p8)] TF.zero_166 TF.places_166 rfl rfl ?_)
    refine Run.go rfl rfl rfl (sem_boxNN [(Value.pointer p8)] rfl (fun k9 hb1 hb2 h10 hb3 => ?_))
    have hS := hS k9 hb1 hb2 h10 hb3
    refine Run.go rfl rfl rfl (sem_assign ((Value.pointer (some ⟨k9, 0, none⟩))) rfl ?_)
    refine Run.region_end ?_
    refine Run.ret ⟨.inr rfl, ?_⟩
    exact hS.imp fun h' hq => ⟨(some ⟨k9, 0, none⟩), rfl, hq⟩
set_option maxHeartbeats 4000000 in
theorem C_cursor_Cursor_Copy.of {B : RO} {p1 : Option Addr} {h : Heap} {Q : Option Addr → Heap → Prop} (hS : S_cursor_Cursor_Copy B p1 h Q) : C_cursor_Cursor_Copy B p1 h Q := by
  unfold S_cursor_Cursor_Copy at hS
  unfold C_cursor_Cursor_Copy
  refine Spec.of_run Try.func87 (N := 9) (rs := [ResultVar.tmp 2]) rfl rfl rfl (Nat.le_of_ble_eq_true rfl) ?_
  refine Run.seq ?_
  refine Run.ops0 (idx := [0]) rfl ?_
  refine Run.go rfl rfl rfl (sem_assign ((Value.pointer none)) rfl ?_)
  refine Run.region_end ?_
  refine Run.seq ?_
  refine Run.seq ?_
  refine Run.ops0 (idx := [0, 1]) rfl ?_
  refine Run.go rfl rfl rfl (sem_move ((Value.pointer p1)) rfl ?_)
  obtain ⟨hT, hF⟩ := hS
  by_cases hb3 : p1 = none
  · have hS := hT hb3; clear hT hF
    refine Run.go rfl rfl rfl (sem_ptrNilT p1 (.inl rfl) true rfl rfl TF.ptr_109 hb3 rfl ?_)
    refine Run.region_end ?_
    refine Run.condT rfl ?_
    refine Run.seq ?_
    refine Run.ops0 (idx := [0]) rfl ?_
    refine Run.go rfl rfl rfl (sem_assign ((Value.pointer none)) rfl ?_)
    refine Run.region_end ?_
    refine Run.ret ⟨.inr rfl, ?_⟩
    exact hS.imp fun h' hq => ⟨none, rfl, hq⟩
  · have hS := hF hb3; clear hT hF
    refine Run.go rfl rfl rfl (sem_ptrNilF p1 (.inl rfl) false rfl rfl TF.ptr_109 hb3 rfl ?_)
    refine Run.region_end ?_
    refine Run.condF rfl ?_
    refine Run.skip ?_
    refine Run.seq ?_
    refine Run.ops0 (idx := [0, 1, 2, 3, 4]) rfl ?_
    refine Run.go rfl rfl rfl (sem_move ((Value.pointer p1)) rfl ?_)
    obtain ⟨A4, e5, hS⟩ := hS
    refine Run.go rfl rfl rfl (sem_nilCheck A4 (congrArg Value.pointer e5) ?_)
    obtain ⟨i6, i7, i8, hl, hS⟩ := hS
    refine Run.go rfl rfl rfl (sem_loadN A4 [(Value.int .i64 (i6)), (Value.int .i64 (i7)), (Value.int .i64 (i8))] rfl TF.agg_154 TF.sz_154 hl ?_)
    refine Run.go rfl rfl rfl (sem_allocN [(Value.int .i64 (0)), (Value.int .i64 (0)), (Value.int .i64 (0))] TF.zero_154 (fun k9 hb1 hb2 h10 hb3 => ?_))
    have hS := hS k9 hb1 hb2 h10 hb3
    obtain ⟨h11, hst, hS⟩ := hS
    refine Run.go rfl rfl rfl (sem_storeN ⟨k9, 0, none⟩ [(Value.int .i64 (i6)), (Value.int .i64 (i7)), (Value.int .i64 (i8))] h11 rfl rfl TF.sz_154 hst ?_)
    refine Run.region_end ?_
    refine Run.seq ?_
    refine Run.ops0 (idx := [0]) rfl ?_
    refine Run.go rfl rfl rfl (sem_assign ((Value.pointer (some ⟨k9, 0, none⟩))) rfl ?_)
    refine Run.region_end ?_
    refine Run.ret ⟨.inr rfl, ?_⟩
    exact hS.imp fun h' hq => ⟨(some ⟨k9, 0, none⟩), rfl, hq⟩
set_option maxHeartbeats 4000000 in
theorem C_slices_Clone_s_draft_entry_int_draft_entry_int.of {B : RO} {a1 : Option Addr} {n2 : Nat} {c3 : Nat} {h : Heap} {Q : Option Addr → Nat → Nat → Heap → Prop} (hS : S_slices_Clone_s_draft_entry_int_draft_entry_int B a1 n2 c3 h Q) : C_slices_Clone_s_draft_entry_int_draft_entry_int B a1 n2 c3 h Q := by
  unfold S_slices_Clone_s_draft_entry_int_draft_entry_int at hS
  unfold C_slices_Clone_s_draft_entry_int_draft_entry_int
  refine Spec.of_run Try.func89 (N := 8) (rs := [ResultVar.tmp 2]) rfl rfl rfl (Nat.le_of_ble_eq_true rfl) ?_
  refine Run.seq ?_
  refine Run.ops0 (idx := [0]) rfl ?_
  refine Run.go rfl rfl rfl (sem_assign ((Value.slice none 0 0)) rfl ?_)
  refine Run.region_end ?_
  refine Run.seq ?_
  refine Run.seq ?_
  refine Run.ops0 (idx := [0, 1]) rfl ?_
  refine Run.go rfl rfl rfl (sem_move ((Value.slice a1 n2 c3)) rfl ?_)
  obtain ⟨hT, hF⟩ := hS
  by_cases hb7 : a1 = none
  · have hS := hT hb7; clear hT hF
    refine Run.go rfl rfl rfl (sem_slNilT (a1) (n2) (c3) (.inl rfl) true rfl rfl TF.sl_149 hb7 rfl ?_)
    refine Run.region_end ?_
    refine Run.condT rfl ?_
    refine Run.seq ?_
    refine Run.ops0 (idx := [0]) rfl ?_
    refine Run.go rfl rfl rfl (sem_assign ((Value.slice none 0 0)) rfl ?_)
    refine Run.region_end ?_
    refine Run.ret ⟨.inr rfl, ?_⟩
    exact hS.imp fun h' hq => ⟨none, 0, 0, rfl, hq⟩
  · have hS := hF hb7; clear hT hF
    refine Run.go rfl rfl rfl (sem_slNilF (a1) (n2) (c3) (.inl rfl) false rfl rfl TF.sl_149 hb7 rfl ?_)
    refine Run.region_end ?_
    refine Run.condF rfl ?_
    refine Run.skip ?_
    refine Run.seq ?_
    refine Run.ops0 (idx := [0, 1, 2, 3]) rfl ?_
    refine Run.go rfl rfl rfl (sem_buildSlice0N TF.slc_149 (fun k8 hb1 hb2 h9 hb3 => ?_))
    have hS := hS k8 hb1 hb2 h9 hb3
    refine Run.go rfl rfl rfl (sem_move ((Value.slice a1 n2 c3)) rfl ?_)
    refine Run.go rfl rfl rfl (sem_appendL [(Value.slice (some ⟨k8, 0, none⟩) 0 0), (Value.slice a1 n2 c3)] rfl (semH_mono (fun v h10 hv => ?_) hS))
    obtain ⟨a11, n12, c13, rfl, hS⟩ := hv
    refine Run.go rfl rfl rfl (sem_assign ((Value.slice a11 n12 c13)) rfl ?_)
    refine Run.region_end ?_
    refine Run.ret ⟨.inr rfl, ?_⟩
    exact hS.imp fun h' hq => ⟨a11, n12, c13, rfl, hq⟩
set_option maxHeartbeats 4000000 in
theorem C_draft_Draft_file_File_Copy.of {B : RO} {p1 : Option Addr} {h : Heap} {Q : Option Addr → Heap → Prop} (hS : S_draft_Draft_file_File_Copy B p1 h Q) : C_draft_Draft_file_File_Copy B p1 h Q := by
  unfold S_draft_Draft_file_File_Copy at hS
  unfold C_draft_Draft_file_File_Copy
  refine Spec.of_run Try.func90 (N := 12) (rs := [ResultVar.tmp 2]) rfl rfl rfl (Nat.le_of_ble_eq_true rfl) ?_
  refine Run.seq ?_
  refine Run.ops0 (idx := [0]) rfl ?_
  refine Run.go rfl rfl rfl (sem_assign ((Value.pointer none)) rfl ?_)
  refine Run.region_end ?_
  refine Run.seq ?_
  refine Run.seq ?_
  refine Run.ops0 (idx := [0, 1]) rfl ?_
  refine Run.go rfl rfl rfl (sem_move ((Value.pointer p1)) rfl ?_)
  obtain ⟨hT, hF⟩ := hS
  by_cases hb3 : p1 = none
  · have hS := hT hb3; clear hT hF
    refine Run.go rfl rfl rfl (sem_ptrNilT p1 (.inl rfl) true rfl rfl TF.ptr_161 hb3 rfl ?_)
    refine Run.region_end ?_
    refine Run.condT rfl ?_
    refine Run.seq ?_
    refine Run.ops0 (idx := [0]) rfl ?_
    refine Run.go rfl rfl rfl (sem_assign ((Value.pointer none)) rfl ?_)
    refine Run.region_end ?_
    refine Run.ret ⟨.inr rfl, ?_⟩
    exact hS.imp fun h' hq => ⟨none, rfl, hq⟩
  · have hS := hF hb3; clear hT hF
    refine Run.go rfl rfl rfl (sem_ptrNilF p1 (.inl rfl) false rfl rfl TF.ptr_161 hb3 rfl ?_)
    refine Run.region_end ?_
    refine Run.condF rfl ?_
    refine Run.skip ?_
    refine Run.seq ?_
    refine Run.ops0 (idx := [0, 1, 2, 3, 4, 5, 6, 7]) rfl ?_
    refine Run.go rfl rfl rfl (sem_move ((Value.pointer p1)) rfl ?_)
    obtain ⟨A4, e5, hS⟩ := hS
    refine Run.go rfl rfl rfl (sem_nilCheck A4 (congrArg Value.pointer e5) ?_)
    refine Run.go rfl rfl rfl (sem_fieldAddr A4 0 rfl TF.fld_164_0 ?_)
    refine Run.ldSl hS fun a6 n7 c8 h9 hl hS => ?_
    refine Run.go rfl rfl rfl (sem_load1 A4 ((Value.slice a6 n7 c8)) rfl TF.agg_162 hl ?_)
    refine Run.go rfl rfl rfl (sem_callL [(Value.slice a6 n7 c8)] (TF.goes_91) rfl rfl (Spec.mono hS fun v h10 hv => ?_))
    obtain ⟨a11, n12, c13, rfl, hS⟩ := hv
    refine Run.go rfl rfl rfl (sem_buildSL [(0, (Value.slice a11 n12 c13))] [(Value.slice a11 n12 c13)] TF.zero_164 TF.places_164 rfl rfl ?_)
    refine Run.go rfl rfl rfl (sem_boxNN [(Value.slice a11 n12 c13)] rfl (fun k14 hb1 hb2 h15 hb3 => ?_))
    have hS := hS k14 hb1 hb2 h15 hb3
    refine Run.go rfl rfl rfl (sem_assign ((Value.pointer (some ⟨k14, 0, none⟩))) rfl ?_)
    refine Run.region_end ?_
    refine Run.ret ⟨.inr rfl, ?_⟩
    exact hS.imp fun h' hq => ⟨(some ⟨k14, 0, none⟩), rfl, hq⟩
set_option maxHeartbeats 4000000 in
theorem C_slices_Clone_s_draft_entry_file_File_draft_entry_file_File.of {B : RO} {a1 : Option Addr} {n2 : Nat} {c3 : Nat} {h : Heap} {Q : Option Addr → Nat → Nat → Heap → Prop} (hS : S_slices_Clone_s_draft_entry_file_File_draft_entry_file_File B a1 n2 c3 h Q) : C_slices_Clone_s_draft_entry_file_File_draft_entry_file_File B a1 n2 c3 h Q := by
  unfold S_slices_Clone_s_draft_entry_file_File_draft_entry_file_File at hS
  unfold C_slices_Clone_s_draft_entry_file_File_draft_entry_file_File
  refine Spec.of_run Try.func91 (N := 8) (rs := [ResultVar.tmp 2]) rfl rfl rfl (Nat.le_of_ble_eq_true rfl) ?_
  refine Run.seq ?_
  refine Run.ops0 (idx := [0]) rfl ?_
  refine Run.go rfl rfl rfl (sem_assign ((Value.slice none 0 0)) rfl ?_)
  refine Run.region_end ?_
  refine Run.seq ?_
  refine Run.seq ?_
  refine Run.ops0 (idx := [0, 1]) rfl ?_
  refine Run.go rfl rfl rfl (sem_move ((Value.slice a1 n2 c3)) rfl ?_)
  obtain ⟨hT, hF⟩ := hS
  by_cases hb7 : a1 = none
  · have hS := hT hb7; clear hT hF
    refine Run.go rfl rfl rfl (sem_slNilT (a1) (n2) (c3) (.inl rfl) true rfl rfl TF.sl_162 hb7 rfl ?_)
    refine Run.region_end ?_
    refine Run.condT rfl ?_
    refine Run.seq ?_
    refine Run.ops0 (idx := [0]) rfl ?_
    refine Run.go rfl rfl rfl (sem_assign ((Value.slice none 0 0)) rfl ?_)
    refine Run.region_end ?_
    refine Run.ret ⟨.inr rfl, ?_⟩
    exact hS.imp fun h' hq => ⟨none, 0, 0, rfl, hq⟩
  · have hS := hF hb7; clear hT hF
    refine Run.go rfl rfl rfl (sem_slNilF (a1) (n2) (c3) (.inl rfl) false rfl rfl TF.sl_162 hb7 rfl ?_)
    refine Run.region_end ?_
    refine Run.condF rfl ?_
    refine Run.skip ?_
    refine Run.seq ?_
    refine Run.ops0 (idx := [0, 1, 2, 3]) rfl ?_
    refine Run.go rfl rfl rfl (sem_buildSlice0N TF.slc_162 (fun k8 hb1 hb2 h9 hb3 => ?_))
    have hS := hS k8 hb1 hb2 h9 hb3
    refine Run.go rfl rfl rfl (sem_move ((Value.slice a1 n2 c3)) rfl ?_)
    refine Run.go rfl rfl rfl (sem_appendL [(Value.slice (some ⟨k8, 0, none⟩) 0 0), (Value.slice a1 n2 c3)] rfl (semH_mono (fun v h10 hv => ?_) hS))
    obtain ⟨a11, n12, c13, rfl, hS⟩ := hv
    refine Run.go rfl rfl rfl (sem_assign ((Value.slice a11 n12 c13)) rfl ?_)
    refine Run.region_end ?_
    refine Run.ret ⟨.inr rfl, ?_⟩
    exact hS.imp fun h' hq => ⟨a11, n12, c13, rfl, hq⟩
end Go.Proofs.Ythlnibaechobmaa.H
