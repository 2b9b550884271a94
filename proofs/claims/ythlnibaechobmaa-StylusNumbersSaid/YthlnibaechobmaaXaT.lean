/- The functions do what they ask for. No condition. -/
import Derived.Test.YthlnibaechobmaaXaS
namespace Go.Proofs.Ythlnibaechobmaa.H
open Go
set_option linter.unusedVariables false
set_option maxRecDepth 100000

set_option maxHeartbeats 4000000 in
theorem C_countermandlaw01_StylusRises.of {B : RO} {i1 : Int} {i2 : Int} {h : Heap} {Q : Bool → Heap → Prop} (hS : S_countermandlaw01_StylusRises B i1 i2 h Q) : C_countermandlaw01_StylusRises B i1 i2 h Q := by
  unfold S_countermandlaw01_StylusRises at hS
  unfold C_countermandlaw01_StylusRises
  refine Spec.of_run Try.func3 (N := 46) (rs := [ResultVar.tmp 4]) rfl rfl rfl (Nat.le_of_ble_eq_true rfl) ?_
  refine Run.seq ?_
  refine Run.ops0 (idx := [0]) rfl ?_
  refine Run.go rfl rfl rfl (sem_assign ((Value.bool false)) rfl ?_)
  refine Run.region_end ?_
  refine Run.seq ?_
  refine Run.seq ?_
  refine Run.ops0 (idx := [0, 1]) rfl ?_
  refine Run.go rfl rfl rfl (sem_callL [] (TF.goes_15) rfl rfl (Spec.mono hS fun v h4 hv => ?_))
  obtain ⟨b5, rfl, hS⟩ := hv
  obtain ⟨hT, hF⟩ := hS
  cases b5
  · have hS := hF rfl; clear hT hF
    refine Run.go rfl rfl rfl (sem_not false rfl ?_)
    refine Run.region_end ?_
    refine Run.condT rfl ?_
    refine Run.seq ?_
    refine Run.ops0 (idx := [0]) rfl ?_
    refine Run.go rfl rfl rfl (sem_assign ((Value.bool false)) rfl ?_)
    refine Run.region_end ?_
    refine Run.ret ⟨.inr rfl, ?_⟩
    exact hS.imp fun h' hq => ⟨(false), rfl, hq⟩
  · have hS := hT rfl; clear hT hF
    refine Run.go rfl rfl rfl (sem_not true rfl ?_)
    refine Run.region_end ?_
    refine Run.condF rfl ?_
    refine Run.skip ?_
    refine Run.seqJ (fun e h7 => Agree [(0, (Value.int .i64 (i1))), (1, (Value.int .i64 (i2)))] e ∧ S_countermandlaw01_StylusRises_J1 B i1 i2 h7 Q) ?_ fun j6 => ?_
    · rintro e h7 ⟨hag, hS⟩
      refine Run.env hag ?_; clear hag
      refine Run.seq ?_
      refine Run.ops0 (idx := [0, 1, 2, 3, 4, 5]) rfl ?_
      refine Run.go rfl rfl rfl (sem_buildSL [] [(Value.slice none 0 0)] TF.zero_26 TF.places_26 rfl rfl ?_)
      refine Run.go rfl rfl rfl (sem_boxNN [(Value.slice none 0 0)] rfl (fun k8 hb1 hb2 h9 hb3 => ?_))
      have hS := hS k8 hb1 hb2 h9 hb3
      refine Run.go rfl rfl rfl (sem_buildSL [] [(Value.slice none 0 0)] TF.zero_26 TF.places_26 rfl rfl ?_)
      refine Run.go rfl rfl rfl (sem_boxNN [(Value.slice none 0 0)] rfl (fun k10 hb1 hb2 h11 hb3 => ?_))
      have hS := hS k10 hb1 hb2 h11 hb3
      refine Run.go rfl rfl rfl (sem_assign ((Value.pointer (some ⟨k8, 0, none⟩))) rfl ?_)
      refine Run.go rfl rfl rfl (sem_assign ((Value.pointer (some ⟨k10, 0, none⟩))) rfl ?_)
      refine Run.region_end ?_
      refine Run.seq ?_
      refine Run.ops0 (idx := [0, 1, 2, 3]) rfl ?_
      refine Run.go rfl rfl rfl (sem_move ((Value.pointer (some ⟨k8, 0, none⟩))) rfl ?_)
      refine Run.go rfl rfl rfl (sem_move ((Value.int .i64 (i1))) rfl ?_)
      refine Run.go rfl rfl rfl (sem_buildSliceL [(0, (Value.int .i64 (i1)))] [(Value.int .i64 (i1))] TF.slc_65 TF.zero_3 rfl (by decide) (by decide) rfl rfl (fun k12 hb1 hb2 h13 hb3 => ?_))
      have hS := hS k12 hb1 hb2 h13 hb3
      refine Run.go rfl rfl rfl (sem_callL [(Value.pointer (some ⟨k8, 0, none⟩)), (Value.slice (some ⟨k12, 0, none⟩) 1 1)] (TF.goes_16) rfl rfl (Spec.mono hS fun v h14 hv => ?_))
      obtain ⟨rfl, hS⟩ := hv
      refine Run.region_end ?_
      refine Run.seq ?_
      refine Run.ops0 (idx := [0, 1, 2, 3]) rfl ?_
      refine Run.go rfl rfl rfl (sem_move ((Value.pointer (some ⟨k10, 0, none⟩))) rfl ?_)
      refine Run.go rfl rfl rfl (sem_move ((Value.int .i64 (i2))) rfl ?_)
      refine Run.go rfl rfl rfl (sem_buildSliceL [(0, (Value.int .i64 (i2)))] [(Value.int .i64 (i2))] TF.slc_65 TF.zero_3 rfl (by decide) (by decide) rfl rfl (fun k15 hb1 hb2 h16 hb3 => ?_))
      have hS := hS k15 hb1 hb2 h16 hb3
      refine Run.go rfl rfl rfl (sem_callL [(Value.pointer (some ⟨k10, 0, none⟩)), (Value.slice (some ⟨k15, 0, none⟩) 1 1)] (TF.goes_16) rfl rfl (Spec.mono hS fun v h17 hv => ?_))
      obtain ⟨rfl, hS⟩ := hv
      refine Run.region_end ?_
      refine Run.seq ?_
      refine Run.ops0 (idx := [0, 1, 2, 3, 4, 5, 6, 7, 8, 9, 10, 11, 12, 13, 14, 15, 16, 17, 18]) rfl ?_
      refine Run.go rfl rfl rfl (sem_move ((Value.pointer (some ⟨k8, 0, none⟩))) rfl ?_)
      refine Run.go rfl rfl rfl (sem_callL [(Value.pointer (some ⟨k8, 0, none⟩))] (TF.goes_17) rfl rfl (Spec.mono hS fun v h18 hv => ?_))
      obtain ⟨s19, rfl, hS⟩ := hv
      refine Run.go rfl rfl rfl (sem_lenStr s19 rfl TF.isStr_9 ?_)
      refine Run.go rfl rfl rfl (sem_move ((Value.pointer (some ⟨k10, 0, none⟩))) rfl ?_)
      refine Run.go rfl rfl rfl (sem_callL [(Value.pointer (some ⟨k10, 0, none⟩))] (TF.goes_17) rfl rfl (Spec.mono hS fun v h20 hv => ?_))
      obtain ⟨s21, rfl, hS⟩ := hv
      refine Run.go rfl rfl rfl (sem_lenStr s21 rfl TF.isStr_9 ?_)
      obtain ⟨hT, hF⟩ := hS
      by_cases hb22 : ((ByteArray.size s19 : Nat) : Int) ≤ ((ByteArray.size s21 : Nat))
      · have hS := hT hb22; clear hT hF
        refine Run.go rfl rfl rfl (sem_binI .i64 ((ByteArray.size s19 : Nat)) ((ByteArray.size s21 : Nat)) (.bool true) rfl rfl (binI_leq_t hb22) ?_)
        refine Run.go rfl rfl rfl (sem_move ((Value.bool true)) rfl ?_)
        refine Run.go rfl rfl rfl (sem_move ((Value.int .i64 (i1))) rfl ?_)
        refine Run.go rfl rfl rfl (sem_move ((Value.int .i64 (i2))) rfl ?_)
        refine Run.go rfl rfl rfl (sem_binI .i64 (i1) (i2) ((Value.bool ((i1 : Int) == (i2)))) rfl rfl rfl ?_)
        refine Run.go rfl rfl rfl (sem_move ((Value.pointer (some ⟨k8, 0, none⟩))) rfl ?_)
        refine Run.go rfl rfl rfl (sem_callL [(Value.pointer (some ⟨k8, 0, none⟩))] (TF.goes_17) rfl rfl (Spec.mono hS fun v h23 hv => ?_))
        obtain ⟨s24, rfl, hS⟩ := hv
        refine Run.go rfl rfl rfl (sem_move ((Value.pointer (some ⟨k10, 0, none⟩))) rfl ?_)
        refine Run.go rfl rfl rfl (sem_callL [(Value.pointer (some ⟨k10, 0, none⟩))] (TF.goes_17) rfl rfl (Spec.mono hS fun v h25 hv => ?_))
        obtain ⟨s26, rfl, hS⟩ := hv
        refine Run.go rfl rfl rfl (sem_strEq s24 s26 rfl rfl ?_)
        refine Run.go rfl rfl rfl (sem_boolEqV ((i1 : Int) == (i2)) (decide (s24 = s26)) (.inl rfl) ((decide (((i1 : Int) == (i2)) = (decide (s24 = s26))))) rfl rfl TF.bool_4 (boolEqV_eql _ _) ?_)
        refine Run.go rfl rfl rfl (sem_pick true ((Value.bool (decide (((i1 : Int) == (i2)) = (decide (s24 = s26)))))) rfl rfl ?_)
        refine Run.go rfl rfl rfl (sem_assign ((Value.bool (decide (((i1 : Int) == (i2)) = (decide (s24 = s26)))))) rfl ?_)
        refine Run.region_end ?_
        refine Run.ret ⟨.inr rfl, ?_⟩
        exact hS.imp fun h' hq => ⟨((decide (((i1 : Int) == (i2)) = (decide (s24 = s26))))), rfl, hq⟩
      · have hS := hF hb22; clear hT hF
        refine Run.go rfl rfl rfl (sem_binI .i64 ((ByteArray.size s19 : Nat)) ((ByteArray.size s21 : Nat)) (.bool false) rfl rfl (binI_leq_f hb22) ?_)
        refine Run.go rfl rfl rfl (sem_move ((Value.bool false)) rfl ?_)
        refine Run.no rfl rfl rfl ?_
        refine Run.no rfl rfl rfl ?_
        refine Run.no rfl rfl rfl ?_
        refine Run.no rfl rfl rfl ?_
        refine Run.no rfl rfl rfl ?_
        refine Run.no rfl rfl rfl ?_
        refine Run.no rfl rfl rfl ?_
        refine Run.no rfl rfl rfl ?_
        refine Run.no rfl rfl rfl ?_
        refine Run.go rfl rfl rfl (sem_pick false ((Value.bool false)) rfl rfl ?_)
        refine Run.go rfl rfl rfl (sem_assign ((Value.bool false)) rfl ?_)
        refine Run.region_end ?_
        refine Run.ret ⟨.inr rfl, ?_⟩
        exact hS.imp fun h' hq => ⟨(false), rfl, hq⟩
    refine Run.seq ?_
    refine Run.ops0 (idx := [0, 1, 2, 3, 4, 5, 6]) rfl ?_
    refine Run.go rfl rfl rfl (sem_move ((Value.int .i64 (i1))) rfl ?_)
    obtain ⟨hT, hF⟩ := hS
    by_cases hb27 : (i1 : Int) < (0)
    · have hS := hT hb27; clear hT hF
      refine Run.go rfl rfl rfl (sem_binI .i64 (i1) (0) (.bool true) rfl rfl (binI_lss_t hb27) ?_)
      refine Run.go rfl rfl rfl (sem_move ((Value.bool true)) rfl ?_)
      refine Run.no rfl rfl rfl ?_
      refine Run.no rfl rfl rfl ?_
      refine Run.no rfl rfl rfl ?_
      refine Run.go rfl rfl rfl (sem_pick true ((Value.bool true)) rfl rfl ?_)
      refine Run.region_end ?_
      refine Run.condT rfl ?_
      refine Run.seq ?_
      refine Run.ops0 (idx := [0]) rfl ?_
      refine Run.go rfl rfl rfl (sem_assign ((Value.bool true)) rfl ?_)
      refine Run.region_end ?_
      refine Run.ret ⟨.inr rfl, ?_⟩
      exact hS.imp fun h' hq => ⟨(true), rfl, hq⟩
    · have hS := hF hb27; clear hT hF
      refine Run.go rfl rfl rfl (sem_binI .i64 (i1) (0) (.bool false) rfl rfl (binI_lss_f hb27) ?_)
      refine Run.go rfl rfl rfl (sem_move ((Value.bool false)) rfl ?_)
      refine Run.go rfl rfl rfl (sem_move ((Value.int .i64 (i2))) rfl ?_)
      refine Run.go rfl rfl rfl (sem_move ((Value.int .i64 (i1))) rfl ?_)
      obtain ⟨hT, hF⟩ := hS
      by_cases hb28 : (i2 : Int) < (i1)
      · have hS := hT hb28; clear hT hF
        refine Run.go rfl rfl rfl (sem_binI .i64 (i2) (i1) (.bool true) rfl rfl (binI_lss_t hb28) ?_)
        refine Run.go rfl rfl rfl (sem_pick false ((Value.bool true)) rfl rfl ?_)
        refine Run.region_end ?_
        refine Run.condT rfl ?_
        refine Run.seq ?_
        refine Run.ops0 (idx := [0]) rfl ?_
        refine Run.go rfl rfl rfl (sem_assign ((Value.bool true)) rfl ?_)
        refine Run.region_end ?_
        refine Run.ret ⟨.inr rfl, ?_⟩
        exact hS.imp fun h' hq => ⟨(true), rfl, hq⟩
      · have hS := hF hb28; clear hT hF
        refine Run.go rfl rfl rfl (sem_binI .i64 (i2) (i1) (.bool false) rfl rfl (binI_lss_f hb28) ?_)
        refine Run.go rfl rfl rfl (sem_pick false ((Value.bool false)) rfl rfl ?_)
        refine Run.region_end ?_
        refine Run.condF rfl ?_
        refine Run.skip ?_
        exact Run.of_fin (hS.imp fun h' hS => j6 _ _ ⟨⟨rfl, rfl, trivial⟩, hS⟩)
set_option maxHeartbeats 4000000 in
theorem C_countermandlaw01_StylusWrites.of {B : RO} {a1 : Option Addr} {n2 : Nat} {c3 : Nat} {h : Heap} {Q : Bool → Heap → Prop} (hS : S_countermandlaw01_StylusWrites B a1 n2 c3 h Q) : C_countermandlaw01_StylusWrites B a1 n2 c3 h Q := by
  unfold S_countermandlaw01_StylusWrites at hS
  unfold C_countermandlaw01_StylusWrites
  refine Spec.of_run Try.func4 (N := 17) (rs := [ResultVar.tmp 2]) rfl rfl rfl (Nat.le_of_ble_eq_true rfl) ?_
  refine Run.seq ?_
  refine Run.ops0 (idx := [0]) rfl ?_
  refine Run.go rfl rfl rfl (sem_assign ((Value.bool false)) rfl ?_)
  refine Run.region_end ?_
  refine Run.seq ?_
  refine Run.seq ?_
  refine Run.ops0 (idx := [0, 1]) rfl ?_
  refine Run.go rfl rfl rfl (sem_callL [] (TF.goes_15) rfl rfl (Spec.mono hS fun v h5 hv => ?_))
  obtain ⟨b6, rfl, hS⟩ := hv
  obtain ⟨hT, hF⟩ := hS
  cases b6
  · have hS := hF rfl; clear hT hF
    refine Run.go rfl rfl rfl (sem_not false rfl ?_)
    refine Run.region_end ?_
    refine Run.condT rfl ?_
    refine Run.seq ?_
    refine Run.ops0 (idx := [0]) rfl ?_
    refine Run.go rfl rfl rfl (sem_assign ((Value.bool false)) rfl ?_)
    refine Run.region_end ?_
    refine Run.ret ⟨.inr rfl, ?_⟩
    exact hS.imp fun h' hq => ⟨(false), rfl, hq⟩
  · have hS := hT rfl; clear hT hF
    refine Run.go rfl rfl rfl (sem_not true rfl ?_)
    refine Run.region_end ?_
    refine Run.condF rfl ?_
    refine Run.skip ?_
    refine Run.seq ?_
    refine Run.seq ?_
    refine Run.ops0 (idx := [0, 1]) rfl ?_
    refine Run.go rfl rfl rfl (sem_move ((Value.slice a1 n2 c3)) rfl ?_)
    refine Run.go rfl rfl rfl (sem_callL [(Value.slice a1 n2 c3)] (TF.goes_18) rfl rfl (Spec.mono hS fun v h7 hv => ?_))
    obtain ⟨b8, rfl, hS⟩ := hv
    obtain ⟨hT, hF⟩ := hS
    cases b8
    · have hS := hF rfl; clear hT hF
      refine Run.region_end ?_
      refine Run.condF rfl ?_
      refine Run.skip ?_
      refine Run.seq ?_
      refine Run.ops0 (idx := [0, 1, 2, 3, 4, 5, 6]) rfl ?_
      refine Run.go rfl rfl rfl (sem_move ((Value.slice a1 n2 c3)) rfl ?_)
      refine Run.go rfl rfl rfl (sem_callL [(Value.slice a1 n2 c3)] (TF.goes_19) rfl rfl (Spec.mono hS fun v h9 hv => ?_))
      obtain ⟨s10, s11, rfl, hS⟩ := hv
      refine Run.go rfl rfl rfl (sem_move ((Value.tuple #[(Value.string s10), (Value.string s11)])) rfl ?_)
      refine Run.go rfl rfl rfl (sem_extract #[(Value.string s10), (Value.string s11)] ((Value.string s10)) rfl rfl ?_)
      refine Run.go rfl rfl rfl (sem_extract #[(Value.string s10), (Value.string s11)] ((Value.string s11)) rfl rfl ?_)
      refine Run.go rfl rfl rfl (sem_assign ((Value.string s10)) rfl ?_)
      refine Run.go rfl rfl rfl (sem_assign ((Value.string s11)) rfl ?_)
      refine Run.region_end ?_
      refine Run.seq ?_
      refine Run.ops0 (idx := [0, 1, 2, 3]) rfl ?_
      refine Run.go rfl rfl rfl (sem_move ((Value.string s10)) rfl ?_)
      refine Run.go rfl rfl rfl (sem_move ((Value.string s11)) rfl ?_)
      refine Run.go rfl rfl rfl (sem_strEq s10 s11 rfl rfl ?_)
      refine Run.go rfl rfl rfl (sem_assign ((Value.bool (decide (s10 = s11)))) rfl ?_)
      refine Run.region_end ?_
      refine Run.ret ⟨.inr rfl, ?_⟩
      exact hS.imp fun h' hq => ⟨((decide (s10 = s11))), rfl, hq⟩
    · have hS := hT rfl; clear hT hF
      refine Run.region_end ?_
      refine Run.condT rfl ?_
      refine Run.seq ?_
      refine Run.ops0 (idx := [0]) rfl ?_
      refine Run.go rfl rfl rfl (sem_assign ((Value.bool true)) rfl ?_)
      refine Run.region_end ?_
      refine Run.ret ⟨.inr rfl, ?_⟩
      exact hS.imp fun h' hq => ⟨(true), rfl, hq⟩
set_option maxHeartbeats 4000000 in
theorem C_countermandlaw01_StylusParts.of {B : RO} {a1 : Option Addr} {n2 : Nat} {c3 : Nat} {a4 : Option Addr} {n5 : Nat} {c6 : Nat} {h : Heap} {Q : Bool → Heap → Prop} (hS : S_countermandlaw01_StylusParts B a1 n2 c3 a4 n5 c6 h Q) : C_countermandlaw01_StylusParts B a1 n2 c3 a4 n5 c6 h Q := by
  unfold S_countermandlaw01_StylusParts at hS
  unfold C_countermandlaw01_StylusParts
  refine Spec.of_run Try.func5 (N := 51) (rs := [ResultVar.tmp 4]) rfl rfl rfl (Nat.le_of_ble_eq_true rfl) ?_
  refine Run.seq ?_
  refine Run.ops0 (idx := [0]) rfl ?_
  refine Run.go rfl rfl rfl (sem_assign ((Value.bool false)) rfl ?_)
  refine Run.region_end ?_
  refine Run.seq ?_
  refine Run.seq ?_
  refine Run.ops0 (idx := [0, 1]) rfl ?_
  refine Run.go rfl rfl rfl (sem_callL [] (TF.goes_15) rfl rfl (Spec.mono hS fun v h8 hv => ?_))
  obtain ⟨b9, rfl, hS⟩ := hv
  obtain ⟨hT, hF⟩ := hS
  cases b9
  · have hS := hF rfl; clear hT hF
    refine Run.go rfl rfl rfl (sem_not false rfl ?_)
    refine Run.region_end ?_
    refine Run.condT rfl ?_
    refine Run.seq ?_
    refine Run.ops0 (idx := [0]) rfl ?_
    refine Run.go rfl rfl rfl (sem_assign ((Value.bool false)) rfl ?_)
    refine Run.region_end ?_
    refine Run.ret ⟨.inr rfl, ?_⟩
    exact hS.imp fun h' hq => ⟨(false), rfl, hq⟩
  · have hS := hT rfl; clear hT hF
    refine Run.go rfl rfl rfl (sem_not true rfl ?_)
    refine Run.region_end ?_
    refine Run.condF rfl ?_
    refine Run.skip ?_
    refine Run.seqJ (fun e h11 => Agree [(0, (Value.slice a1 n2 c3)), (1, (Value.slice a4 n5 c6))] e ∧ S_countermandlaw01_StylusParts_J1 B a1 n2 c3 a4 n5 c6 h11 Q) ?_ fun j10 => ?_
    · rintro e h11 ⟨hag, hS⟩
      refine Run.env hag ?_; clear hag
      refine Run.seq ?_
      refine Run.ops0 (idx := [0, 1, 2, 3, 4, 5, 6]) rfl ?_
      refine Run.go rfl rfl rfl (sem_move ((Value.slice a1 n2 c3)) rfl ?_)
      refine Run.go rfl rfl rfl (sem_callL [(Value.slice a1 n2 c3)] (TF.goes_19) rfl rfl (Spec.mono hS fun v h12 hv => ?_))
      obtain ⟨s13, s14, rfl, hS⟩ := hv
      refine Run.go rfl rfl rfl (sem_move ((Value.tuple #[(Value.string s13), (Value.string s14)])) rfl ?_)
      refine Run.go rfl rfl rfl (sem_extract #[(Value.string s13), (Value.string s14)] ((Value.string s13)) rfl rfl ?_)
      refine Run.go rfl rfl rfl (sem_extract #[(Value.string s13), (Value.string s14)] ((Value.string s14)) rfl rfl ?_)
      refine Run.go rfl rfl rfl (sem_assign ((Value.string s13)) rfl ?_)
      refine Run.go rfl rfl rfl (sem_assign ((Value.string s14)) rfl ?_)
      refine Run.region_end ?_
      refine Run.seq ?_
      refine Run.ops0 (idx := [0, 1, 2, 3, 4, 5, 6]) rfl ?_
      refine Run.go rfl rfl rfl (sem_move ((Value.slice a4 n5 c6)) rfl ?_)
      refine Run.go rfl rfl rfl (sem_callL [(Value.slice a4 n5 c6)] (TF.goes_19) rfl rfl (Spec.mono hS fun v h15 hv => ?_))
      obtain ⟨s16, s17, rfl, hS⟩ := hv
      refine Run.go rfl rfl rfl (sem_move ((Value.tuple #[(Value.string s16), (Value.string s17)])) rfl ?_)
      refine Run.go rfl rfl rfl (sem_extract #[(Value.string s16), (Value.string s17)] ((Value.string s16)) rfl rfl ?_)
      refine Run.go rfl rfl rfl (sem_extract #[(Value.string s16), (Value.string s17)] ((Value.string s17)) rfl rfl ?_)
      refine Run.go rfl rfl rfl (sem_assign ((Value.string s16)) rfl ?_)
      refine Run.go rfl rfl rfl (sem_assign ((Value.string s17)) rfl ?_)
      refine Run.region_end ?_
      refine Run.seq ?_
      refine Run.ops0 (idx := [0, 1, 2, 3, 4, 5, 6, 7, 8, 9, 10]) rfl ?_
      refine Run.go rfl rfl rfl (sem_buildSlice0N TF.slc_30 (fun k18 hb1 hb2 h19 hb3 => ?_))
      have hS := hS k18 hb1 hb2 h19 hb3
      refine Run.go rfl rfl rfl (sem_move ((Value.slice a1 n2 c3)) rfl ?_)
      refine Run.go rfl rfl rfl (sem_appendL [(Value.slice (some ⟨k18, 0, none⟩) 0 0), (Value.slice a1 n2 c3)] rfl (semH_mono (fun v h20 hv => ?_) hS))
      obtain ⟨a21, n22, c23, rfl, hS⟩ := hv
      refine Run.go rfl rfl rfl (sem_move ((Value.slice a4 n5 c6)) rfl ?_)
      refine Run.go rfl rfl rfl (sem_appendL [(Value.slice a21 n22 c23), (Value.slice a4 n5 c6)] rfl (semH_mono (fun v h24 hv => ?_) hS))
      obtain ⟨a25, n26, c27, rfl, hS⟩ := hv
      refine Run.go rfl rfl rfl (sem_callL [(Value.slice a25 n26 c27)] (TF.goes_19) rfl rfl (Spec.mono hS fun v h28 hv => ?_))
      obtain ⟨s29, s30, rfl, hS⟩ := hv
      refine Run.go rfl rfl rfl (sem_move ((Value.tuple #[(Value.string s29), (Value.string s30)])) rfl ?_)
      refine Run.go rfl rfl rfl (sem_extract #[(Value.string s29), (Value.string s30)] ((Value.string s29)) rfl rfl ?_)
      refine Run.go rfl rfl rfl (sem_extract #[(Value.string s29), (Value.string s30)] ((Value.string s30)) rfl rfl ?_)
      refine Run.go rfl rfl rfl (sem_assign ((Value.string s29)) rfl ?_)
      refine Run.go rfl rfl rfl (sem_assign ((Value.string s30)) rfl ?_)
      refine Run.region_end ?_
      refine Run.seq ?_
      refine Run.ops0 (idx := [0, 1, 2, 3, 4, 5]) rfl ?_
      refine Run.go rfl rfl rfl (sem_move ((Value.string s29)) rfl ?_)
      refine Run.go rfl rfl rfl (sem_move ((Value.string s13)) rfl ?_)
      refine Run.go rfl rfl rfl (sem_move ((Value.string s16)) rfl ?_)
      obtain ⟨hi0, hS⟩ := hS
      refine Run.go rfl rfl rfl (sem_strAdd s13 s16 rfl rfl hi0 ?_)
      refine Run.go rfl rfl rfl (sem_strEq s29 (s13 ++ s16) rfl rfl ?_)
      refine Run.go rfl rfl rfl (sem_assign ((Value.bool (decide (s29 = (s13 ++ s16))))) rfl ?_)
      refine Run.region_end ?_
      refine Run.ret ⟨.inr rfl, ?_⟩
      exact hS.imp fun h' hq => ⟨((decide (s29 = (s13 ++ s16)))), rfl, hq⟩
    refine Run.seq ?_
    refine Run.ops0 (idx := [0, 1, 2, 3, 4, 5, 6, 7, 8, 9, 10, 11, 12, 13]) rfl ?_
    refine Run.go rfl rfl rfl (sem_move ((Value.slice a1 n2 c3)) rfl ?_)
    refine Run.go rfl rfl rfl (sem_callL [(Value.slice a1 n2 c3)] (TF.goes_18) rfl rfl (Spec.mono hS fun v h31 hv => ?_))
    obtain ⟨b32, rfl, hS⟩ := hv
    obtain ⟨hT, hF⟩ := hS
    cases b32
    · have hS := hF rfl; clear hT hF
      refine Run.go rfl rfl rfl (sem_move ((Value.bool false)) rfl ?_)
      refine Run.go rfl rfl rfl (sem_move ((Value.slice a4 n5 c6)) rfl ?_)
      refine Run.go rfl rfl rfl (sem_callL [(Value.slice a4 n5 c6)] (TF.goes_18) rfl rfl (Spec.mono hS fun v h33 hv => ?_))
      obtain ⟨b34, rfl, hS⟩ := hv
      obtain ⟨hT, hF⟩ := hS
      cases b34
      · have hS := hF rfl; clear hT hF
        refine Run.go rfl rfl rfl (sem_pick false ((Value.bool false)) rfl rfl ?_)
        refine Run.go rfl rfl rfl (sem_move ((Value.bool false)) rfl ?_)
        refine Run.go rfl rfl rfl (sem_move ((Value.slice a1 n2 c3)) rfl ?_)
        refine Run.go rfl rfl rfl (sem_lenSl a1 n2 c3 rfl TF.sl_30 ?_)
        refine Run.go rfl rfl rfl (sem_move ((Value.slice a4 n5 c6)) rfl ?_)
        refine Run.go rfl rfl rfl (sem_lenSl a4 n5 c6 rfl TF.sl_30 ?_)
        refine Run.go rfl rfl rfl (sem_binI .i64 ((n2 : Nat)) ((n5 : Nat)) ((Value.int .i64 (IntKind.wrap .i64 (((n2 : Nat)) + ((n5 : Nat)))))) rfl rfl rfl ?_)
        obtain ⟨hT, hF⟩ := hS
        by_cases hb35 : (IntKind.wrap .i64 (((n2 : Nat)) + ((n5 : Nat))) : Int) > (50)
        · have hS := hT hb35; clear hT hF
          refine Run.go rfl rfl rfl (sem_binI .i64 (IntKind.wrap .i64 (((n2 : Nat)) + ((n5 : Nat)))) (50) (.bool true) rfl rfl (binI_gtr_t hb35) ?_)
          refine Run.go rfl rfl rfl (sem_pick false ((Value.bool true)) rfl rfl ?_)
          refine Run.region_end ?_
          refine Run.condT rfl ?_
          refine Run.seq ?_
          refine Run.ops0 (idx := [0]) rfl ?_
          refine Run.go rfl rfl rfl (sem_assign ((Value.bool true)) rfl ?_)
          refine Run.region_end ?_
          refine Run.ret ⟨.inr rfl, ?_⟩
          exact hS.imp fun h' hq => ⟨(true), rfl, hq⟩
        · have hS := hF hb35; clear hT hF
          refine Run.go rfl rfl rfl (sem_binI .i64 (IntKind.wrap .i64 (((n2 : Nat)) + ((n5 : Nat)))) (50) (.bool false) rfl rfl (binI_gtr_f hb35) ?_)
          refine Run.go rfl rfl rfl (sem_pick false ((Value.bool false)) rfl rfl ?_)
          refine Run.region_end ?_
          refine Run.condF rfl ?_
          refine Run.skip ?_
          exact Run.of_fin (hS.imp fun h' hS => j10 _ _ ⟨⟨rfl, rfl, trivial⟩, hS⟩)
      · have hS := hT rfl; clear hT hF
        refine Run.go rfl rfl rfl (sem_pick false ((Value.bool true)) rfl rfl ?_)
        refine Run.go rfl rfl rfl (sem_move ((Value.bool true)) rfl ?_)
        refine Run.no rfl rfl rfl ?_
        refine Run.no rfl rfl rfl ?_
        refine Run.no rfl rfl rfl ?_
        refine Run.no rfl rfl rfl ?_
        refine Run.no rfl rfl rfl ?_
        refine Run.no rfl rfl rfl ?_
        refine Run.go rfl rfl rfl (sem_pick true ((Value.bool true)) rfl rfl ?_)
        refine Run.region_end ?_
        refine Run.condT rfl ?_
        refine Run.seq ?_
        refine Run.ops0 (idx := [0]) rfl ?_
        refine Run.go rfl rfl rfl (sem_assign ((Value.bool true)) rfl ?_)
        refine Run.region_end ?_
        refine Run.ret ⟨.inr rfl, ?_⟩
        exact hS.imp fun h' hq => ⟨(true), rfl, hq⟩
    · have hS := hT rfl; clear hT hF
      refine Run.go rfl rfl rfl (sem_move ((Value.bool true)) rfl ?_)
      refine Run.no rfl rfl rfl ?_
      refine Run.no rfl rfl rfl ?_
      refine Run.go rfl rfl rfl (sem_pick true ((Value.bool true)) rfl rfl ?_)
      refine Run.go rfl rfl rfl (sem_move ((Value.bool true)) rfl ?_)
      refine Run.no rfl rfl rfl ?_
      refine Run.no rfl rfl rfl ?_
      refine Run.no rfl rfl rfl ?_
      refine Run.no rfl rfl rfl ?_
      refine Run.no rfl rfl rfl ?_
      refine Run.no rfl rfl rfl ?_
      refine Run.go rfl rfl rfl (sem_pick true ((Value.bool true)) rfl rfl ?_)
      refine Run.region_end ?_
      refine Run.condT rfl ?_
      refine Run.seq ?_
      refine Run.ops0 (idx := [0]) rfl ?_
      refine Run.go rfl rfl rfl (sem_assign ((Value.bool true)) rfl ?_)
      refine Run.region_end ?_
      refine Run.ret ⟨.inr rfl, ?_⟩
      exact hS.imp fun h' hq => ⟨(true), rfl, hq⟩
set_option maxHeartbeats 4000000 in
theorem C_countermandlaw01_StylusNumbers.of {B : RO} {i1 : Int} {i2 : Int} {s3 : ByteArray} {i4 : Int} {h : Heap} {Q : Bool → Heap → Prop} (hS : S_countermandlaw01_StylusNumbers B i1 i2 s3 i4 h Q) : C_countermandlaw01_StylusNumbers B i1 i2 s3 i4 h Q := by
  unfold S_countermandlaw01_StylusNumbers at hS
  unfold C_countermandlaw01_StylusNumbers
  refine Spec.of_run Try.func13 (N := 106) (rs := [ResultVar.tmp 8]) rfl rfl rfl (Nat.le_of_ble_eq_true rfl) ?_
  refine Run.seq ?_
  refine Run.ops0 (idx := [0]) rfl ?_
  refine Run.go rfl rfl rfl (sem_assign ((Value.bool false)) rfl ?_)
  refine Run.region_end ?_
  refine Run.seq ?_
  refine Run.seq ?_
  refine Run.ops0 (idx := [0, 1]) rfl ?_
  refine Run.go rfl rfl rfl (sem_callL [] (TF.goes_15) rfl rfl (Spec.mono hS fun v h6 hv => ?_))
  obtain ⟨b7, rfl, hS⟩ := hv
  obtain ⟨hT, hF⟩ := hS
  cases b7
  · have hS := hF rfl; clear hT hF
    refine Run.go rfl rfl rfl (sem_not false rfl ?_)
    refine Run.region_end ?_
    refine Run.condT rfl ?_
    refine Run.seq ?_
    refine Run.ops0 (idx := [0]) rfl ?_
    refine Run.go rfl rfl rfl (sem_assign ((Value.bool false)) rfl ?_)
    refine Run.region_end ?_
    refine Run.ret ⟨.inr rfl, ?_⟩
    exact hS.imp fun h' hq => ⟨(false), rfl, hq⟩
  · have hS := hT rfl; clear hT hF
    refine Run.go rfl rfl rfl (sem_not true rfl ?_)
    refine Run.region_end ?_
    refine Run.condF rfl ?_
    refine Run.skip ?_
    refine Run.seq ?_
    refine Run.seq ?_
    refine Run.ops0 (idx := [0, 1, 2]) rfl ?_
    refine Run.go rfl rfl rfl (sem_move ((Value.string s3)) rfl ?_)
    refine Run.go rfl rfl rfl (sem_lenStr s3 rfl TF.isStr_9 ?_)
    obtain ⟨hT, hF⟩ := hS
    by_cases hb8 : ((ByteArray.size s3 : Nat) : Int) > (100)
    · have hS := hT hb8; clear hT hF
      refine Run.go rfl rfl rfl (sem_binI .i64 ((ByteArray.size s3 : Nat)) (100) (.bool true) rfl rfl (binI_gtr_t hb8) ?_)
      refine Run.region_end ?_
      refine Run.condT rfl ?_
      refine Run.seq ?_
      refine Run.ops0 (idx := [0]) rfl ?_
      refine Run.go rfl rfl rfl (sem_assign ((Value.bool true)) rfl ?_)
      refine Run.region_end ?_
      refine Run.ret ⟨.inr rfl, ?_⟩
      exact hS.imp fun h' hq => ⟨(true), rfl, hq⟩
    · have hS := hF hb8; clear hT hF
      refine Run.go rfl rfl rfl (sem_binI .i64 ((ByteArray.size s3 : Nat)) (100) (.bool false) rfl rfl (binI_gtr_f hb8) ?_)
      refine Run.region_end ?_
      refine Run.condF rfl ?_
      refine Run.skip ?_
      refine Run.seq ?_
      refine Run.ops0 (idx := [0, 1, 2, 3, 4, 5]) rfl ?_
      refine Run.go rfl rfl rfl (sem_buildSL [] [(Value.slice none 0 0)] TF.zero_26 TF.places_26 rfl rfl ?_)
      refine Run.go rfl rfl rfl (sem_boxNN [(Value.slice none 0 0)] rfl (fun k9 hb1 hb2 h10 hb3 => ?_))
      have hS := hS k9 hb1 hb2 h10 hb3
      refine Run.go rfl rfl rfl (sem_buildSL [] [(Value.slice none 0 0)] TF.zero_26 TF.places_26 rfl rfl ?_)
      refine Run.go rfl rfl rfl (sem_boxNN [(Value.slice none 0 0)] rfl (fun k11 hb1 hb2 h12 hb3 => ?_))
      have hS := hS k11 hb1 hb2 h12 hb3
      refine Run.go rfl rfl rfl (sem_assign ((Value.pointer (some ⟨k9, 0, none⟩))) rfl ?_)
      refine Run.go rfl rfl rfl (sem_assign ((Value.pointer (some ⟨k11, 0, none⟩))) rfl ?_)
      refine Run.region_end ?_
      refine Run.seq ?_
      refine Run.ops0 (idx := [0, 1, 2, 3]) rfl ?_
      refine Run.go rfl rfl rfl (sem_move ((Value.pointer (some ⟨k9, 0, none⟩))) rfl ?_)
      refine Run.go rfl rfl rfl (sem_move ((Value.int .i64 (i1))) rfl ?_)
      refine Run.go rfl rfl rfl (sem_buildSliceL [(0, (Value.int .i64 (i1)))] [(Value.int .i64 (i1))] TF.slc_65 TF.zero_3 rfl (by decide) (by decide) rfl rfl (fun k13 hb1 hb2 h14 hb3 => ?_))
      have hS := hS k13 hb1 hb2 h14 hb3
      refine Run.go rfl rfl rfl (sem_callL [(Value.pointer (some ⟨k9, 0, none⟩)), (Value.slice (some ⟨k13, 0, none⟩) 1 1)] (TF.goes_51) rfl rfl (Spec.mono hS fun v h15 hv => ?_))
      obtain ⟨rfl, hS⟩ := hv
      refine Run.region_end ?_
      refine Run.seq ?_
      refine Run.ops0 (idx := [0, 1, 2, 3]) rfl ?_
      refine Run.go rfl rfl rfl (sem_move ((Value.pointer (some ⟨k11, 0, none⟩))) rfl ?_)
      refine Run.go rfl rfl rfl (sem_move ((Value.int .i64 (i2))) rfl ?_)
      refine Run.go rfl rfl rfl (sem_buildSliceL [(0, (Value.int .i64 (i2)))] [(Value.int .i64 (i2))] TF.slc_65 TF.zero_3 rfl (by decide) (by decide) rfl rfl (fun k16 hb1 hb2 h17 hb3 => ?_))
      have hS := hS k16 hb1 hb2 h17 hb3
      refine Run.go rfl rfl rfl (sem_callL [(Value.pointer (some ⟨k11, 0, none⟩)), (Value.slice (some ⟨k16, 0, none⟩) 1 1)] (TF.goes_51) rfl rfl (Spec.mono hS fun v h18 hv => ?_))
      obtain ⟨rfl, hS⟩ := hv
      refine Run.region_end ?_
      refine Run.seq ?_
      refine Run.ops0 (idx := [0, 1, 2, 3, 4, 5]) rfl ?_
      refine Run.go rfl rfl rfl (sem_move ((Value.pointer (some ⟨k9, 0, none⟩))) rfl ?_)
      refine Run.go rfl rfl rfl (sem_callL [(Value.pointer (some ⟨k9, 0, none⟩))] (TF.goes_17) rfl rfl (Spec.mono hS fun v h19 hv => ?_))
      obtain ⟨s20, rfl, hS⟩ := hv
      refine Run.go rfl rfl rfl (sem_move ((Value.pointer (some ⟨k11, 0, none⟩))) rfl ?_)
      refine Run.go rfl rfl rfl (sem_callL [(Value.pointer (some ⟨k11, 0, none⟩))] (TF.goes_17) rfl rfl (Spec.mono hS fun v h21 hv => ?_))
      obtain ⟨s22, rfl, hS⟩ := hv
      refine Run.go rfl rfl rfl (sem_assign ((Value.string s20)) rfl ?_)
      refine Run.go rfl rfl rfl (sem_assign ((Value.string s22)) rfl ?_)
      refine Run.region_end ?_
      refine Run.seqJ (fun e h24 => Agree [(2, (Value.string s3)), (3, (Value.int .i64 (i4)))] e ∧ S_countermandlaw01_StylusNumbers_J1 B s3 i4 h24 Q) ?_ fun j23 => ?_
      · rintro e h24 ⟨hag, hS⟩
        refine Run.env hag ?_; clear hag
        refine Run.seq ?_
        refine Run.ops0 (idx := [0, 1, 2]) rfl ?_
        refine Run.go rfl rfl rfl (sem_move ((Value.string s3)) rfl ?_)
        refine Run.go rfl rfl rfl (sem_callL [(Value.string s3)] (TF.goes_52) rfl rfl (Spec.mono hS fun v h25 hv => ?_))
        obtain ⟨p26, rfl, hS⟩ := hv
        refine Run.go rfl rfl rfl (sem_assign ((Value.pointer p26)) rfl ?_)
        refine Run.region_end ?_
        refine Run.seq ?_
        refine Run.ops0 (idx := [0, 1, 2, 3]) rfl ?_
        refine Run.go rfl rfl rfl (sem_move ((Value.pointer p26)) rfl ?_)
        refine Run.go rfl rfl rfl (sem_move ((Value.int .i64 (i4))) rfl ?_)
        refine Run.go rfl rfl rfl (sem_callL [(Value.pointer p26), (Value.int .i64 (i4))] (TF.goes_53) rfl rfl (Spec.mono hS fun v h27 hv => ?_))
        obtain ⟨i28, rfl, hS⟩ := hv
        refine Run.go rfl rfl rfl (sem_assign ((Value.int .i64 (i28))) rfl ?_)
        refine Run.region_end ?_
        refine Run.seq ?_
        refine Run.ops0 (idx := [0, 1, 2, 3, 4, 5, 6]) rfl ?_
        refine Run.go rfl rfl rfl (sem_move ((Value.string s3)) rfl ?_)
        refine Run.go rfl rfl rfl (sem_callL [(Value.string s3)] (TF.goes_54) rfl rfl (Spec.mono hS fun v h29 hv => ?_))
        obtain ⟨i30, i31, rfl, hS⟩ := hv
        refine Run.go rfl rfl rfl (sem_move ((Value.tuple #[(Value.int .u64 (i30)), (Value.int .i64 (i31))])) rfl ?_)
        refine Run.go rfl rfl rfl (sem_extract #[(Value.int .u64 (i30)), (Value.int .i64 (i31))] ((Value.int .u64 (i30))) rfl rfl ?_)
        refine Run.go rfl rfl rfl (sem_extract #[(Value.int .u64 (i30)), (Value.int .i64 (i31))] ((Value.int .i64 (i31))) rfl rfl ?_)
        refine Run.go rfl rfl rfl (sem_assign ((Value.int .u64 (i30))) rfl ?_)
        refine Run.go rfl rfl rfl (sem_assign ((Value.int .i64 (i31))) rfl ?_)
        refine Run.region_end ?_
        refine Run.seqJ (fun e h33 => Agree [(2, (Value.string s3)), (13, (Value.pointer p26)), (14, (Value.int .i64 (i28))), (15, (Value.int .u64 (i30))), (16, (Value.int .i64 (i31)))] e ∧ S_countermandlaw01_StylusNumbers_J2 B s3 p26 i28 i30 i31 h33 Q) ?_ fun j32 => ?_
        · rintro e h33 ⟨hag, hS⟩
          refine Run.env hag ?_; clear hag
          refine Run.seq ?_
          refine Run.ops0 (idx := [0, 1, 2, 3, 4, 5, 6, 7, 8, 9, 10, 11, 12, 13, 14, 15, 16, 17, 18]) rfl ?_
          refine Run.go rfl rfl rfl (sem_move ((Value.int .i64 (i28))) rfl ?_)
          refine Run.go rfl rfl rfl (sem_convI .i64 .u64 (i28) rfl TF.int_3 TF.int_98 ?_)
          refine Run.go rfl rfl rfl (sem_move ((Value.int .u64 (i30))) rfl ?_)
          obtain ⟨hT, hF⟩ := hS
          by_cases hb34 : (IntKind.wrap .u64 (i28) : Int) = i30
          · have hS := hT hb34; clear hT hF
            refine Run.go rfl rfl rfl (sem_binI .u64 (IntKind.wrap .u64 (i28)) (i30) (.bool true) rfl rfl (binI_eql_t hb34) ?_)
            refine Run.go rfl rfl rfl (sem_move ((Value.bool true)) rfl ?_)
            refine Run.go rfl rfl rfl (sem_move ((Value.pointer p26)) rfl ?_)
            refine Run.go rfl rfl rfl (sem_callL [(Value.pointer p26)] (TF.goes_55) rfl rfl (Spec.mono hS fun v h35 hv => ?_))
            obtain ⟨b36, rfl, hS⟩ := hv
            obtain ⟨hT, hF⟩ := hS
            cases b36
            · have hS := hF rfl; clear hT hF
              refine Run.go rfl rfl rfl (sem_not false rfl ?_)
              refine Run.go rfl rfl rfl (sem_pick true ((Value.bool true)) rfl rfl ?_)
              refine Run.go rfl rfl rfl (sem_move ((Value.bool true)) rfl ?_)
              refine Run.go rfl rfl rfl (sem_move ((Value.pointer p26)) rfl ?_)
              refine Run.go rfl rfl rfl (sem_callL [(Value.pointer p26)] (TF.goes_56) rfl rfl (Spec.mono hS fun v h37 hv => ?_))
              obtain ⟨i38, rfl, hS⟩ := hv
              refine Run.go rfl rfl rfl (sem_move ((Value.string s3)) rfl ?_)
              refine Run.go rfl rfl rfl (sem_lenStr s3 rfl TF.isStr_9 ?_)
              refine Run.go rfl rfl rfl (sem_move ((Value.int .i64 (i31))) rfl ?_)
              refine Run.go rfl rfl rfl (sem_binI .i64 ((ByteArray.size s3 : Nat)) (i31) ((Value.int .i64 (IntKind.wrap .i64 (((ByteArray.size s3 : Nat)) - (i31))))) rfl rfl rfl ?_)
              refine Run.go rfl rfl rfl (sem_binI .i64 (i38) (IntKind.wrap .i64 (((ByteArray.size s3 : Nat)) - (i31))) ((Value.bool ((i38 : Int) == (IntKind.wrap .i64 (((ByteArray.size s3 : Nat)) - (i31)))))) rfl rfl rfl ?_)
              refine Run.go rfl rfl rfl (sem_pick true ((Value.bool ((i38 : Int) == (IntKind.wrap .i64 (((ByteArray.size s3 : Nat)) - (i31)))))) rfl rfl ?_)
              refine Run.go rfl rfl rfl (sem_assign ((Value.bool ((i38 : Int) == (IntKind.wrap .i64 (((ByteArray.size s3 : Nat)) - (i31)))))) rfl ?_)
              refine Run.region_end ?_
              refine Run.ret ⟨.inr rfl, ?_⟩
              exact hS.imp fun h' hq => ⟨(((i38 : Int) == (IntKind.wrap .i64 (((ByteArray.size s3 : Nat)) - (i31))))), rfl, hq⟩
            · have hS := hT rfl; clear hT hF
              refine Run.go rfl rfl rfl (sem_not true rfl ?_)
              refine Run.go rfl rfl rfl (sem_pick true ((Value.bool false)) rfl rfl ?_)
              refine Run.go rfl rfl rfl (sem_move ((Value.bool false)) rfl ?_)
              refine Run.no rfl rfl rfl ?_
              refine Run.no rfl rfl rfl ?_
              refine Run.no rfl rfl rfl ?_
              refine Run.no rfl rfl rfl ?_
              refine Run.no rfl rfl rfl ?_
              refine Run.no rfl rfl rfl ?_
              refine Run.no rfl rfl rfl ?_
              refine Run.go rfl rfl rfl (sem_pick false ((Value.bool false)) rfl rfl ?_)
              refine Run.go rfl rfl rfl (sem_assign ((Value.bool false)) rfl ?_)
              refine Run.region_end ?_
              refine Run.ret ⟨.inr rfl, ?_⟩
              exact hS.imp fun h' hq => ⟨(false), rfl, hq⟩
          · have hS := hF hb34; clear hT hF
            refine Run.go rfl rfl rfl (sem_binI .u64 (IntKind.wrap .u64 (i28)) (i30) (.bool false) rfl rfl (binI_eql_f hb34) ?_)
            refine Run.go rfl rfl rfl (sem_move ((Value.bool false)) rfl ?_)
            refine Run.no rfl rfl rfl ?_
            refine Run.no rfl rfl rfl ?_
            refine Run.no rfl rfl rfl ?_
            refine Run.go rfl rfl rfl (sem_pick false ((Value.bool false)) rfl rfl ?_)
            refine Run.go rfl rfl rfl (sem_move ((Value.bool false)) rfl ?_)
            refine Run.no rfl rfl rfl ?_
            refine Run.no rfl rfl rfl ?_
            refine Run.no rfl rfl rfl ?_
            refine Run.no rfl rfl rfl ?_
            refine Run.no rfl rfl rfl ?_
            refine Run.no rfl rfl rfl ?_
            refine Run.no rfl rfl rfl ?_
            refine Run.go rfl rfl rfl (sem_pick false ((Value.bool false)) rfl rfl ?_)
            refine Run.go rfl rfl rfl (sem_assign ((Value.bool false)) rfl ?_)
            refine Run.region_end ?_
            refine Run.ret ⟨.inr rfl, ?_⟩
            exact hS.imp fun h' hq => ⟨(false), rfl, hq⟩
        refine Run.seqJ (fun e h41 => ∃ b40 : Bool, Agree [(2, (Value.string s3)), (13, (Value.pointer p26)), (14, (Value.int .i64 (i28))), (15, (Value.int .u64 (i30))), (16, (Value.int .i64 (i31))), (81, (Value.bool b40))] e ∧ S_countermandlaw01_StylusNumbers_J3 B s3 p26 i28 i30 i31 b40 h41 Q) ?_ fun j39 => ?_
        · rintro e h41 ⟨b40, hag, hS⟩
          refine Run.env hag ?_; clear hag
          obtain ⟨hT, hF⟩ := hS
          cases b40
          · have hS := hF rfl; clear hT hF
            refine Run.condF rfl ?_
            refine Run.skip ?_
            exact Run.of_fin (hS.imp fun h' hS => j32 _ _ ⟨⟨rfl, rfl, rfl, rfl, rfl, trivial⟩, hS⟩)
          · have hS := hT rfl; clear hT hF
            refine Run.condT rfl ?_
            refine Run.seq ?_
            refine Run.ops0 (idx := [0, 1, 2, 3, 4, 5, 6]) rfl ?_
            refine Run.go rfl rfl rfl (sem_move ((Value.int .i64 (i28))) rfl ?_)
            obtain ⟨hT, hF⟩ := hS
            by_cases hb42 : (i28 : Int) = 0
            · have hS := hT hb42; clear hT hF
              refine Run.go rfl rfl rfl (sem_binI .i64 (i28) (0) (.bool true) rfl rfl (binI_eql_t hb42) ?_)
              refine Run.go rfl rfl rfl (sem_move ((Value.bool true)) rfl ?_)
              refine Run.go rfl rfl rfl (sem_move ((Value.pointer p26)) rfl ?_)
              refine Run.go rfl rfl rfl (sem_callL [(Value.pointer p26)] (TF.goes_55) rfl rfl (Spec.mono hS fun v h43 hv => ?_))
              obtain ⟨b44, rfl, hS⟩ := hv
              refine Run.go rfl rfl rfl (sem_pick true ((Value.bool b44)) rfl rfl ?_)
              refine Run.go rfl rfl rfl (sem_assign ((Value.bool b44)) rfl ?_)
              refine Run.region_end ?_
              refine Run.ret ⟨.inr rfl, ?_⟩
              exact hS.imp fun h' hq => ⟨(b44), rfl, hq⟩
            · have hS := hF hb42; clear hT hF
              refine Run.go rfl rfl rfl (sem_binI .i64 (i28) (0) (.bool false) rfl rfl (binI_eql_f hb42) ?_)
              refine Run.go rfl rfl rfl (sem_move ((Value.bool false)) rfl ?_)
              refine Run.no rfl rfl rfl ?_
              refine Run.no rfl rfl rfl ?_
              refine Run.go rfl rfl rfl (sem_pick false ((Value.bool false)) rfl rfl ?_)
              refine Run.go rfl rfl rfl (sem_assign ((Value.bool false)) rfl ?_)
              refine Run.region_end ?_
              refine Run.ret ⟨.inr rfl, ?_⟩
              exact hS.imp fun h' hq => ⟨(false), rfl, hq⟩
        refine Run.ops0 (idx := [0, 1, 2, 3, 4, 5, 6, 7, 8, 9, 10, 11]) rfl ?_
        refine Run.go rfl rfl rfl (sem_move ((Value.int .i64 (i31))) rfl ?_)
        obtain ⟨hT, hF⟩ := hS
        by_cases hb45 : (i31 : Int) = 0
        · have hS := hT hb45; clear hT hF
          refine Run.go rfl rfl rfl (sem_binI .i64 (i31) (0) (.bool true) rfl rfl (binI_eql_t hb45) ?_)
          refine Run.go rfl rfl rfl (sem_move ((Value.bool true)) rfl ?_)
          refine Run.no rfl rfl rfl ?_
          refine Run.no rfl rfl rfl ?_
          refine Run.go rfl rfl rfl (sem_pick true ((Value.bool true)) rfl rfl ?_)
          refine Run.go rfl rfl rfl (sem_move ((Value.bool true)) rfl ?_)
          refine Run.no rfl rfl rfl ?_
          refine Run.no rfl rfl rfl ?_
          refine Run.no rfl rfl rfl ?_
          refine Run.no rfl rfl rfl ?_
          refine Run.go rfl rfl rfl (sem_pick true ((Value.bool true)) rfl rfl ?_)
          refine Run.region_end ?_
          exact Run.of_fin (hS.imp fun h' hS => j39 _ _ ⟨(true), ⟨rfl, rfl, rfl, rfl, rfl, rfl, trivial⟩, hS⟩)
        · have hS := hF hb45; clear hT hF
          refine Run.go rfl rfl rfl (sem_binI .i64 (i31) (0) (.bool false) rfl rfl (binI_eql_f hb45) ?_)
          refine Run.go rfl rfl rfl (sem_move ((Value.bool false)) rfl ?_)
          refine Run.go rfl rfl rfl (sem_move ((Value.int .i64 (i4))) rfl ?_)
          obtain ⟨hT, hF⟩ := hS
          by_cases hb46 : (i4 : Int) < (0)
          · have hS := hT hb46; clear hT hF
            refine Run.go rfl rfl rfl (sem_binI .i64 (i4) (0) (.bool true) rfl rfl (binI_lss_t hb46) ?_)
            refine Run.go rfl rfl rfl (sem_pick false ((Value.bool true)) rfl rfl ?_)
            refine Run.go rfl rfl rfl (sem_move ((Value.bool true)) rfl ?_)
            refine Run.no rfl rfl rfl ?_
            refine Run.no rfl rfl rfl ?_
            refine Run.no rfl rfl rfl ?_
            refine Run.no rfl rfl rfl ?_
            refine Run.go rfl rfl rfl (sem_pick true ((Value.bool true)) rfl rfl ?_)
            refine Run.region_end ?_
            exact Run.of_fin (hS.imp fun h' hS => j39 _ _ ⟨(true), ⟨rfl, rfl, rfl, rfl, rfl, rfl, trivial⟩, hS⟩)
          · have hS := hF hb46; clear hT hF
            refine Run.go rfl rfl rfl (sem_binI .i64 (i4) (0) (.bool false) rfl rfl (binI_lss_f hb46) ?_)
            refine Run.go rfl rfl rfl (sem_pick false ((Value.bool false)) rfl rfl ?_)
            refine Run.go rfl rfl rfl (sem_move ((Value.bool false)) rfl ?_)
            refine Run.go rfl rfl rfl (sem_move ((Value.int .u64 (i30))) rfl ?_)
            refine Run.go rfl rfl rfl (sem_move ((Value.int .i64 (i4))) rfl ?_)
            refine Run.go rfl rfl rfl (sem_convI .i64 .u64 (i4) rfl TF.int_3 TF.int_98 ?_)
            obtain ⟨hT, hF⟩ := hS
            by_cases hb47 : (i30 : Int) > (IntKind.wrap .u64 (i4))
            · have hS := hT hb47; clear hT hF
              refine Run.go rfl rfl rfl (sem_binI .u64 (i30) (IntKind.wrap .u64 (i4)) (.bool true) rfl rfl (binI_gtr_t hb47) ?_)
              refine Run.go rfl rfl rfl (sem_pick false ((Value.bool true)) rfl rfl ?_)
              refine Run.region_end ?_
              exact Run.of_fin (hS.imp fun h' hS => j39 _ _ ⟨(true), ⟨rfl, rfl, rfl, rfl, rfl, rfl, trivial⟩, hS⟩)
            · have hS := hF hb47; clear hT hF
              refine Run.go rfl rfl rfl (sem_binI .u64 (i30) (IntKind.wrap .u64 (i4)) (.bool false) rfl rfl (binI_gtr_f hb47) ?_)
              refine Run.go rfl rfl rfl (sem_pick false ((Value.bool false)) rfl rfl ?_)
              refine Run.region_end ?_
              exact Run.of_fin (hS.imp fun h' hS => j39 _ _ ⟨(false), ⟨rfl, rfl, rfl, rfl, rfl, rfl, trivial⟩, hS⟩)
      refine Run.seq ?_
      refine Run.ops0 (idx := [0, 1, 2, 3, 4, 5, 6, 7, 8, 9, 10, 11, 12, 13, 14, 15, 16, 17, 18, 19, 20, 21]) rfl ?_
      refine Run.go rfl rfl rfl (sem_move ((Value.string s20)) rfl ?_)
      refine Run.go rfl rfl rfl (sem_move ((Value.string s22)) rfl ?_)
      refine Run.go rfl rfl rfl (sem_strEq s20 s22 rfl rfl ?_)
      refine Run.go rfl rfl rfl (sem_move ((Value.int .i64 (i1))) rfl ?_)
      refine Run.go rfl rfl rfl (sem_move ((Value.int .i64 (i2))) rfl ?_)
      refine Run.go rfl rfl rfl (sem_binI .i64 (i1) (i2) ((Value.bool ((i1 : Int) == (i2)))) rfl rfl rfl ?_)
      obtain ⟨hT, hF⟩ := hS
      by_cases hb48 : (decide (s20 = s22)) = ((i1 : Int) == (i2))
      · have hS := hT hb48; clear hT hF
        refine Run.go rfl rfl rfl (sem_boolEqT (decide (s20 = s22)) ((i1 : Int) == (i2)) (.inr rfl) false rfl rfl TF.bool_4 hb48 rfl ?_)
        refine Run.go rfl rfl rfl (sem_move ((Value.bool false)) rfl ?_)
        refine Run.go rfl rfl rfl (sem_move ((Value.string s20)) rfl ?_)
        refine Run.go rfl rfl rfl (sem_lenStr s20 rfl TF.isStr_9 ?_)
        refine Run.go rfl rfl rfl (sem_move ((Value.string s22)) rfl ?_)
        refine Run.go rfl rfl rfl (sem_lenStr s22 rfl TF.isStr_9 ?_)
        obtain ⟨hT, hF⟩ := hS
        by_cases hb49 : ((ByteArray.size s20 : Nat) : Int) < ((ByteArray.size s22 : Nat))
        · have hS := hT hb49; clear hT hF
          refine Run.go rfl rfl rfl (sem_binI .i64 ((ByteArray.size s20 : Nat)) ((ByteArray.size s22 : Nat)) (.bool true) rfl rfl (binI_lss_t hb49) ?_)
          refine Run.go rfl rfl rfl (sem_move ((Value.bool true)) rfl ?_)
          refine Run.go rfl rfl rfl (sem_move ((Value.string s22)) rfl ?_)
          refine Run.go rfl rfl rfl (sem_move ((Value.string s20)) rfl ?_)
          refine Run.go rfl rfl rfl (sem_lenStr s20 rfl TF.isStr_9 ?_)
          obtain ⟨hi0, hi1, hi2, hS⟩ := hS
          refine Run.go rfl rfl rfl (sem_sliceStrI s22 (0) ((ByteArray.size s20 : Nat)) rfl TF.isStr_9 rfl ⟨_, rfl⟩ hi0 hi1 hi2 ?_)
          refine Run.go rfl rfl rfl (sem_move ((Value.string s20)) rfl ?_)
          obtain ⟨hT, hF⟩ := hS
          by_cases hb50 : (ByteArray.extract s22 (Int.toNat (0)) (Int.toNat ((ByteArray.size s20 : Nat)))) = s20
          · have hS := hT hb50; clear hT hF
            refine Run.go rfl rfl rfl (sem_strEqT (ByteArray.extract s22 (Int.toNat (0)) (Int.toNat ((ByteArray.size s20 : Nat)))) s20 rfl rfl hb50 ?_)
            refine Run.go rfl rfl rfl (sem_pick true ((Value.bool true)) rfl rfl ?_)
            refine Run.go rfl rfl rfl (sem_pick false ((Value.bool true)) rfl rfl ?_)
            refine Run.region_end ?_
            refine Run.condT rfl ?_
            refine Run.seq ?_
            refine Run.ops0 (idx := [0]) rfl ?_
            refine Run.go rfl rfl rfl (sem_assign ((Value.bool false)) rfl ?_)
            refine Run.region_end ?_
            refine Run.ret ⟨.inr rfl, ?_⟩
            exact hS.imp fun h' hq => ⟨(false), rfl, hq⟩
          · have hS := hF hb50; clear hT hF
            refine Run.go rfl rfl rfl (sem_strEqF (ByteArray.extract s22 (Int.toNat (0)) (Int.toNat ((ByteArray.size s20 : Nat)))) s20 rfl rfl hb50 ?_)
            refine Run.go rfl rfl rfl (sem_pick true ((Value.bool false)) rfl rfl ?_)
            refine Run.go rfl rfl rfl (sem_pick false ((Value.bool false)) rfl rfl ?_)
            refine Run.region_end ?_
            refine Run.condF rfl ?_
            refine Run.skip ?_
            exact Run.of_fin (hS.imp fun h' hS => j23 _ _ ⟨⟨rfl, rfl, trivial⟩, hS⟩)
        · have hS := hF hb49; clear hT hF
          refine Run.go rfl rfl rfl (sem_binI .i64 ((ByteArray.size s20 : Nat)) ((ByteArray.size s22 : Nat)) (.bool false) rfl rfl (binI_lss_f hb49) ?_)
          refine Run.go rfl rfl rfl (sem_move ((Value.bool false)) rfl ?_)
          refine Run.no rfl rfl rfl ?_
          refine Run.no rfl rfl rfl ?_
          refine Run.no rfl rfl rfl ?_
          refine Run.no rfl rfl rfl ?_
          refine Run.no rfl rfl rfl ?_
          refine Run.no rfl rfl rfl ?_
          refine Run.go rfl rfl rfl (sem_pick false ((Value.bool false)) rfl rfl ?_)
          refine Run.go rfl rfl rfl (sem_pick false ((Value.bool false)) rfl rfl ?_)
          refine Run.region_end ?_
          refine Run.condF rfl ?_
          refine Run.skip ?_
          exact Run.of_fin (hS.imp fun h' hS => j23 _ _ ⟨⟨rfl, rfl, trivial⟩, hS⟩)
      · have hS := hF hb48; clear hT hF
        refine Run.go rfl rfl rfl (sem_boolEqF (decide (s20 = s22)) ((i1 : Int) == (i2)) (.inr rfl) true rfl rfl TF.bool_4 hb48 rfl ?_)
        refine Run.go rfl rfl rfl (sem_move ((Value.bool true)) rfl ?_)
        refine Run.no rfl rfl rfl ?_
        refine Run.no rfl rfl rfl ?_
        refine Run.no rfl rfl rfl ?_
        refine Run.no rfl rfl rfl ?_
        refine Run.no rfl rfl rfl ?_
        refine Run.no rfl rfl rfl ?_
        refine Run.no rfl rfl rfl ?_
        refine Run.no rfl rfl rfl ?_
        refine Run.no rfl rfl rfl ?_
        refine Run.no rfl rfl rfl ?_
        refine Run.no rfl rfl rfl ?_
        refine Run.no rfl rfl rfl ?_
        refine Run.no rfl rfl rfl ?_
        refine Run.go rfl rfl rfl (sem_pick true ((Value.bool true)) rfl rfl ?_)
        refine Run.region_end ?_
        refine Run.condT rfl ?_
        refine Run.seq ?_
        refine Run.ops0 (idx := [0]) rfl ?_
        refine Run.go rfl rfl rfl (sem_assign ((Value.bool false)) rfl ?_)
        refine Run.region_end ?_
        refine Run.ret ⟨.inr rfl, ?_⟩
        exact hS.imp fun h' hq => ⟨(false), rfl, hq⟩
set_option maxHeartbeats 4000000 in
theorem C_countermandlaw01_alive.of {B : RO} {h : Heap} {Q : Bool → Heap → Prop} (hS : S_countermandlaw01_alive B h Q) : C_countermandlaw01_alive B h Q := by
  unfold S_countermandlaw01_alive at hS
  unfold C_countermandlaw01_alive
  refine Spec.of_run Try.func15 (N := 22) (rs := [ResultVar.tmp 0]) rfl rfl rfl (Nat.le_of_ble_eq_true rfl) ?_
  refine Run.seq ?_
  refine Run.ops0 (idx := [0]) rfl ?_
  refine Run.go rfl rfl rfl (sem_assign ((Value.bool false)) rfl ?_)
  refine Run.region_end ?_
  refine Run.seq ?_
  refine Run.ops0 (idx := [0, 1, 2]) rfl ?_
  refine Run.go rfl rfl rfl (sem_buildSL [] [(Value.slice none 0 0)] TF.zero_26 TF.places_26 rfl rfl ?_)
  refine Run.go rfl rfl rfl (sem_boxNN [(Value.slice none 0 0)] rfl (fun k2 hb1 hb2 h3 hb3 => ?_))
  have hS := hS k2 hb1 hb2 h3 hb3
  refine Run.go rfl rfl rfl (sem_assign ((Value.pointer (some ⟨k2, 0, none⟩))) rfl ?_)
  refine Run.region_end ?_
  refine Run.seq ?_
  refine Run.ops0 (idx := [0, 1, 2]) rfl ?_
  refine Run.go rfl rfl rfl (sem_move ((Value.pointer (some ⟨k2, 0, none⟩))) rfl ?_)
  refine Run.go rfl rfl rfl (sem_buildSliceL [(0, (Value.int .i64 (300)))] [(Value.int .i64 (300))] TF.slc_65 TF.zero_3 rfl (by decide) (by decide) rfl rfl (fun k4 hb1 hb2 h5 hb3 => ?_))
  have hS := hS k4 hb1 hb2 h5 hb3
  refine Run.go rfl rfl rfl (sem_callL [(Value.pointer (some ⟨k2, 0, none⟩)), (Value.slice (some ⟨k4, 0, none⟩) 1 1)] (TF.goes_16) rfl rfl (Spec.mono hS fun v h6 hv => ?_))
  obtain ⟨rfl, hS⟩ := hv
  refine Run.region_end ?_
  refine Run.seq ?_
  refine Run.ops0 (idx := [0, 1, 2]) rfl ?_
  refine Run.go rfl rfl rfl (sem_move ((Value.pointer (some ⟨k2, 0, none⟩))) rfl ?_)
  refine Run.go rfl rfl rfl (sem_buildSliceL [(0, (Value.int .i64 ((-2))))] [(Value.int .i64 ((-2)))] TF.slc_65 TF.zero_3 rfl (by decide) (by decide) rfl rfl (fun k7 hb1 hb2 h8 hb3 => ?_))
  have hS := hS k7 hb1 hb2 h8 hb3
  refine Run.go rfl rfl rfl (sem_callL [(Value.pointer (some ⟨k2, 0, none⟩)), (Value.slice (some ⟨k7, 0, none⟩) 1 1)] (TF.goes_51) rfl rfl (Spec.mono hS fun v h9 hv => ?_))
  obtain ⟨rfl, hS⟩ := hv
  refine Run.region_end ?_
  refine Run.seq ?_
  refine Run.ops0 (idx := [0, 1, 2, 3, 4, 5, 6, 7, 8, 9, 10, 11, 12]) rfl ?_
  refine Run.go rfl rfl rfl (sem_move ((Value.pointer (some ⟨k2, 0, none⟩))) rfl ?_)
  refine Run.go rfl rfl rfl (sem_callL [(Value.pointer (some ⟨k2, 0, none⟩))] (TF.goes_17) rfl rfl (Spec.mono hS fun v h10 hv => ?_))
  obtain ⟨s11, rfl, hS⟩ := hv
  obtain ⟨hT, hF⟩ := hS
  by_cases hb12 : s11 = (ByteArray.mk #[172, 2, 3])
  · have hS := hT hb12; clear hT hF
    refine Run.go rfl rfl rfl (sem_strEqT s11 (ByteArray.mk #[172, 2, 3]) rfl rfl hb12 ?_)
    refine Run.go rfl rfl rfl (sem_move ((Value.bool true)) rfl ?_)
    refine Run.go rfl rfl rfl (sem_callL [(Value.string (ByteArray.mk #[]))] (TF.goes_52) rfl rfl (Spec.mono hS fun v h13 hv => ?_))
    obtain ⟨p14, rfl, hS⟩ := hv
    refine Run.go rfl rfl rfl (sem_callL [(Value.pointer p14)] (TF.goes_62) rfl rfl (Spec.mono hS fun v h15 hv => ?_))
    obtain ⟨b16, rfl, hS⟩ := hv
    obtain ⟨hT, hF⟩ := hS
    cases b16
    · have hS := hF rfl; clear hT hF
      refine Run.go rfl rfl rfl (sem_pick true ((Value.bool false)) rfl rfl ?_)
      refine Run.go rfl rfl rfl (sem_move ((Value.bool false)) rfl ?_)
      refine Run.no rfl rfl rfl ?_
      refine Run.no rfl rfl rfl ?_
      refine Run.no rfl rfl rfl ?_
      refine Run.go rfl rfl rfl (sem_pick false ((Value.bool false)) rfl rfl ?_)
      refine Run.go rfl rfl rfl (sem_assign ((Value.bool false)) rfl ?_)
      refine Run.region_end ?_
      refine Run.ret ⟨.inr rfl, ?_⟩
      exact hS.imp fun h' hq => ⟨(false), rfl, hq⟩
    · have hS := hT rfl; clear hT hF
      refine Run.go rfl rfl rfl (sem_pick true ((Value.bool true)) rfl rfl ?_)
      refine Run.go rfl rfl rfl (sem_move ((Value.bool true)) rfl ?_)
      refine Run.go rfl rfl rfl (sem_callL [(Value.string (ByteArray.mk #[97]))] (TF.goes_52) rfl rfl (Spec.mono hS fun v h17 hv => ?_))
      obtain ⟨p18, rfl, hS⟩ := hv
      refine Run.go rfl rfl rfl (sem_callL [(Value.pointer p18)] (TF.goes_62) rfl rfl (Spec.mono hS fun v h19 hv => ?_))
      obtain ⟨b20, rfl, hS⟩ := hv
      refine Run.go rfl rfl rfl (sem_not b20 rfl ?_)
      refine Run.go rfl rfl rfl (sem_pick true ((Value.bool (!b20))) rfl rfl ?_)
      refine Run.go rfl rfl rfl (sem_assign ((Value.bool (!b20))) rfl ?_)
      refine Run.region_end ?_
      refine Run.ret ⟨.inr rfl, ?_⟩
      exact hS.imp fun h' hq => ⟨((!b20)), rfl, hq⟩
  · have hS := hF hb12; clear hT hF
    refine Run.go rfl rfl rfl (sem_strEqF s11 (ByteArray.mk #[172, 2, 3]) rfl rfl hb12 ?_)
    refine Run.go rfl rfl rfl (sem_move ((Value.bool false)) rfl ?_)
    refine Run.no rfl rfl rfl ?_
    refine Run.no rfl rfl rfl ?_
    refine Run.go rfl rfl rfl (sem_pick false ((Value.bool false)) rfl rfl ?_)
    refine Run.go rfl rfl rfl (sem_move ((Value.bool false)) rfl ?_)
    refine Run.no rfl rfl rfl ?_
    refine Run.no rfl rfl rfl ?_
    refine Run.no rfl rfl rfl ?_
    refine Run.go rfl rfl rfl (sem_pick false ((Value.bool false)) rfl rfl ?_)
    refine Run.go rfl rfl rfl (sem_assign ((Value.bool false)) rfl ?_)
    refine Run.region_end ?_
    refine Run.ret ⟨.inr rfl, ?_⟩
    exact hS.imp fun h' hq => ⟨(false), rfl, hq⟩
set_option maxHeartbeats 4000000 in
theorem C_stylus_Stylus_Nat.of {B : RO} {p1 : Option Addr} {a2 : Option Addr} {n3 : Nat} {c4 : Nat} {h : Heap} {Q : Heap → Prop} (hS : S_stylus_Stylus_Nat B p1 a2 n3 c4 h Q) : C_stylus_Stylus_Nat B p1 a2 n3 c4 h Q := by
  unfold S_stylus_Stylus_Nat at hS
  unfold C_stylus_Stylus_Nat
  refine Spec.of_run Try.func16 (N := 42) (rs := []) rfl rfl rfl (Nat.le_of_ble_eq_true rfl) ?_
  refine Run.seq ?_
  refine Run.ops0 (idx := [0, 1, 2]) rfl ?_
  refine Run.go rfl rfl rfl (sem_move ((Value.slice a2 n3 c4)) rfl ?_)
  refine Run.go rfl rfl rfl (sem_lenSl a2 n3 c4 rfl TF.sl_65 ?_)
  refine Run.go rfl rfl rfl (sem_move ((Value.int .i64 (0))) rfl ?_)
  refine Run.region_end ?_
  refine Run.block ?_
  obtain ⟨J10, m8, h0, hS⟩ := hS
  refine Run.of_fin (h0.imp fun h' h0 => ?_)
  refine Run.loop (σ := Int × Nat) (fun x e h => J10 x.1 x.2 h ∧ Agree [(0, (Value.pointer p1)), (6, (Value.slice a2 n3 c4)), (7, (Value.int .i64 ((n3 : Nat)))), (8, (Value.int .i64 (x.1)))] e) (fun x => x.2) ((0), m8) ⟨h0, ⟨rfl, rfl, rfl, rfl, trivial⟩⟩ ?_; clear h0
  rintro ⟨i5, m7⟩ e h6 ⟨hJ, hag⟩ ih9
  have hS := hS i5 m7 h6 hJ; clear hJ
  refine Run.env hag ?_; clear hag
  refine Run.seq ?_
  refine Run.ops0 (idx := [0]) rfl ?_
  obtain ⟨hT, hF⟩ := hS
  by_cases hb11 : (i5 : Int) < ((n3 : Nat))
  · have hS := hT hb11; clear hT hF
    refine Run.go rfl rfl rfl (sem_binI .i64 (i5) ((n3 : Nat)) (.bool true) rfl rfl (binI_lss_t hb11) ?_)
    refine Run.region_end ?_
    refine Run.seq ?_
    refine Run.condT rfl ?_
    refine Run.skip ?_
    refine Run.seq ?_
    refine Run.block ?_
    refine Run.seq ?_
    refine Run.ops0 (idx := [0, 1, 2]) rfl ?_
    obtain ⟨A12, e13, hi0, hi1, hS⟩ := hS
    refine Run.go rfl rfl rfl (sem_indexAddrS A12 n3 c4 .i64 (i5) (congrArg (fun a => Value.slice a n3 c4) e13) rfl TF.slc_65 hi0 hi1 ?_)
    obtain ⟨i14, hl, hS⟩ := hS
    refine Run.go rfl rfl rfl (sem_load1 (Addr.add A12 (Int.toNat (i5) * 1)) ((Value.int .i64 (i14))) rfl TF.agg_3 hl ?_)
    refine Run.go rfl rfl rfl (sem_assign ((Value.int .i64 (i14))) rfl ?_)
    refine Run.region_end ?_
    refine Run.seq ?_
    refine Run.seq ?_
    refine Run.ops0 (idx := [0, 1]) rfl ?_
    refine Run.go rfl rfl rfl (sem_move ((Value.int .i64 (i14))) rfl ?_)
    obtain ⟨hT, hF⟩ := hS
    by_cases hb15 : (i14 : Int) < (0)
    · have hS := hT hb15; clear hT hF
      refine Run.go rfl rfl rfl (sem_binI .i64 (i14) (0) (.bool true) rfl rfl (binI_lss_t hb15) ?_)
      refine Run.region_end ?_
      refine Run.condT rfl ?_
      refine Run.exit rfl ?_
      refine Run.ops0 (idx := [0, 1]) rfl ?_
      refine Run.go rfl rfl rfl (sem_binI .i64 (i5) (1) ((Value.int .i64 (IntKind.wrap .i64 ((i5) + (1))))) rfl rfl rfl ?_)
      refine Run.go rfl rfl rfl (sem_move ((Value.int .i64 (IntKind.wrap .i64 ((i5) + (1))))) rfl ?_)
      refine Run.region_end ?_
      exact Run.of_fin (hS.imp fun h' ⟨m', hm, hS⟩ => ih9 ((IntKind.wrap .i64 ((i5) + (1))), m') _ _ ⟨hS, ⟨rfl, rfl, rfl, rfl, trivial⟩⟩ hm)
    · have hS := hF hb15; clear hT hF
      refine Run.go rfl rfl rfl (sem_binI .i64 (i14) (0) (.bool false) rfl rfl (binI_lss_f hb15) ?_)
      refine Run.region_end ?_
      refine Run.condF rfl ?_
      refine Run.skip ?_
      refine Run.seqJ (fun e h18 => ∃ i17 : Int, Agree [(0, (Value.pointer p1)), (5, (Value.int .i64 (i17))), (6, (Value.slice a2 n3 c4)), (7, (Value.int .i64 ((n3 : Nat)))), (8, (Value.int .i64 (i5)))] e ∧ S_stylus_Stylus_Nat_J1 B p1 a2 n3 c4 i5 m7 J10 i17 h18 Q) ?_ fun j16 => ?_
      · rintro e h18 ⟨i17, hag, hS⟩
        refine Run.env hag ?_; clear hag
        refine Run.ops0 (idx := [0, 1, 2, 3, 4, 5, 6, 7, 8, 9, 10, 11]) rfl ?_
        refine Run.go rfl rfl rfl (sem_move ((Value.pointer p1)) rfl ?_)
        refine Run.go rfl rfl rfl (sem_move ((Value.pointer p1)) rfl ?_)
        obtain ⟨A19, e20, hS⟩ := hS
        refine Run.go rfl rfl rfl (sem_nilCheck A19 (congrArg Value.pointer e20) ?_)
        refine Run.go rfl rfl rfl (sem_fieldAddr A19 0 rfl TF.fld_26_0 ?_)
        refine Run.ldSl hS fun a21 n22 c23 h24 hl hS => ?_
        refine Run.go rfl rfl rfl (sem_load1 A19 ((Value.slice a21 n22 c23)) rfl TF.agg_24 hl ?_)
        refine Run.go rfl rfl rfl (sem_move ((Value.int .i64 (i17))) rfl ?_)
        refine Run.go rfl rfl rfl (sem_convI .i64 .u8 (i17) rfl TF.int_3 TF.int_5 ?_)
        refine Run.go rfl rfl rfl (sem_buildSliceL [(0, (Value.int .u8 (IntKind.wrap .u8 (i17))))] [(Value.int .u8 (IntKind.wrap .u8 (i17)))] TF.slc_24 TF.zero_5 rfl (by decide) (by decide) rfl rfl (fun k25 hb1 hb2 h26 hb3 => ?_))
        have hS := hS k25 hb1 hb2 h26 hb3
        refine Run.go rfl rfl rfl (sem_appendL [(Value.slice a21 n22 c23), (Value.slice (some ⟨k25, 0, none⟩) 1 1)] rfl (semH_mono (fun v h27 hv => ?_) hS))
        obtain ⟨a28, n29, c30, rfl, hS⟩ := hv
        obtain ⟨A31, e32, hS⟩ := hS
        refine Run.go rfl rfl rfl (sem_nilCheck A31 (congrArg Value.pointer e32) ?_)
        refine Run.go rfl rfl rfl (sem_fieldAddr A31 0 rfl TF.fld_26_0 ?_)
        obtain ⟨h33, hst, hS⟩ := hS
        refine Run.go rfl rfl rfl (sem_store1 A31 ((Value.slice a28 n29 c30)) h33 rfl rfl rfl TF.sz_24 hst ?_)
        refine Run.region_end ?_
        refine Run.inBlock ?_
        refine Run.ops0 (idx := [0, 1]) rfl ?_
        refine Run.go rfl rfl rfl (sem_binI .i64 (i5) (1) ((Value.int .i64 (IntKind.wrap .i64 ((i5) + (1))))) rfl rfl rfl ?_)
        refine Run.go rfl rfl rfl (sem_move ((Value.int .i64 (IntKind.wrap .i64 ((i5) + (1))))) rfl ?_)
        refine Run.region_end ?_
        exact Run.of_fin (hS.imp fun h' ⟨m', hm, hS⟩ => ih9 ((IntKind.wrap .i64 ((i5) + (1))), m') _ _ ⟨hS, ⟨rfl, rfl, rfl, rfl, trivial⟩⟩ hm)
      refine Run.block ?_
      obtain ⟨J39, m37, h0, hS⟩ := hS
      refine Run.of_fin (h0.imp fun h' h0 => ?_)
      refine Run.loop (σ := Int × Nat) (fun x e h => J39 x.1 x.2 h ∧ Agree [(0, (Value.pointer p1)), (5, (Value.int .i64 (x.1))), (6, (Value.slice a2 n3 c4)), (7, (Value.int .i64 ((n3 : Nat)))), (8, (Value.int .i64 (i5)))] e) (fun x => x.2) ((i14), m37) ⟨h0, ⟨rfl, rfl, rfl, rfl, rfl, trivial⟩⟩ ?_; clear h0
      rintro ⟨i34, m36⟩ e h35 ⟨hJ, hag⟩ ih38
      have hS := hS i34 m36 h35 hJ; clear hJ
      refine Run.env hag ?_; clear hag
      refine Run.seq ?_
      refine Run.seq ?_
      refine Run.ops0 (idx := [0, 1]) rfl ?_
      refine Run.go rfl rfl rfl (sem_move ((Value.int .i64 (i34))) rfl ?_)
      obtain ⟨hT, hF⟩ := hS
      by_cases hb40 : (i34 : Int) ≥ (128)
      · have hS := hT hb40; clear hT hF
        refine Run.go rfl rfl rfl (sem_binI .i64 (i34) (128) (.bool true) rfl rfl (binI_geq_t hb40) ?_)
        refine Run.region_end ?_
        refine Run.condT rfl ?_
        refine Run.skip ?_
        refine Run.block ?_
        refine Run.seq ?_
        refine Run.ops0 (idx := [0, 1, 2, 3, 4, 5, 6, 7, 8, 9, 10, 11, 12]) rfl ?_
        refine Run.go rfl rfl rfl (sem_move ((Value.pointer p1)) rfl ?_)
        refine Run.go rfl rfl rfl (sem_move ((Value.pointer p1)) rfl ?_)
        obtain ⟨A41, e42, hS⟩ := hS
        refine Run.go rfl rfl rfl (sem_nilCheck A41 (congrArg Value.pointer e42) ?_)
        refine Run.go rfl rfl rfl (sem_fieldAddr A41 0 rfl TF.fld_26_0 ?_)
        refine Run.ldSl hS fun a43 n44 c45 h46 hl hS => ?_
        refine Run.go rfl rfl rfl (sem_load1 A41 ((Value.slice a43 n44 c45)) rfl TF.agg_24 hl ?_)
        refine Run.go rfl rfl rfl (sem_move ((Value.int .i64 (i34))) rfl ?_)
        refine Run.go rfl rfl rfl (sem_convI .i64 .u8 (i34) rfl TF.int_3 TF.int_5 ?_)
        refine Run.go rfl rfl rfl (sem_binI .u8 (IntKind.wrap .u8 (i34)) (128) ((Value.int .u8 (IntKind.wrap .u8 ((BitVec.ofInt (IntKind.bits .u8) (IntKind.wrap .u8 (i34)) ||| BitVec.ofInt (IntKind.bits .u8) (128)).toNat : Int)))) rfl rfl rfl ?_)
        refine Run.go rfl rfl rfl (sem_buildSliceL [(0, (Value.int .u8 (IntKind.wrap .u8 ((BitVec.ofInt (IntKind.bits .u8) (IntKind.wrap .u8 (i34)) ||| BitVec.ofInt (IntKind.bits .u8) (128)).toNat : Int))))] [(Value.int .u8 (IntKind.wrap .u8 ((BitVec.ofInt (IntKind.bits .u8) (IntKind.wrap .u8 (i34)) ||| BitVec.ofInt (IntKind.bits .u8) (128)).toNat : Int)))] TF.slc_24 TF.zero_5 rfl (by decide) (by decide) rfl rfl (fun k47 hb1 hb2 h48 hb3 => ?_))
        have hS := hS k47 hb1 hb2 h48 hb3
        refine Run.go rfl rfl rfl (sem_appendL [(Value.slice a43 n44 c45), (Value.slice (some ⟨k47, 0, none⟩) 1 1)] rfl (semH_mono (fun v h49 hv => ?_) hS))
        obtain ⟨a50, n51, c52, rfl, hS⟩ := hv
        obtain ⟨A53, e54, hS⟩ := hS
        refine Run.go rfl rfl rfl (sem_nilCheck A53 (congrArg Value.pointer e54) ?_)
        refine Run.go rfl rfl rfl (sem_fieldAddr A53 0 rfl TF.fld_26_0 ?_)
        obtain ⟨h55, hst, hS⟩ := hS
        refine Run.go rfl rfl rfl (sem_store1 A53 ((Value.slice a50 n51 c52)) h55 rfl rfl rfl TF.sz_24 hst ?_)
        refine Run.region_end ?_
        refine Run.ops0 (idx := [0, 1, 2]) rfl ?_
        refine Run.go rfl rfl rfl (sem_move ((Value.int .i64 (i34))) rfl ?_)
        obtain ⟨hi0, hS⟩ := hS
        refine Run.go rfl rfl rfl (sem_shr .i64 .u64 (i34) (7) rfl rfl hi0 ?_)
        refine Run.go rfl rfl rfl (sem_assign ((Value.int .i64 (Int.fdiv (i34) (2 ^ (min (Int.toNat (7)) (IntKind.bits .i64)))))) rfl ?_)
        refine Run.region_end ?_
        refine Run.inBlock ?_
        exact Run.of_fin (hS.imp fun h' ⟨m', hm, hS⟩ => ih38 ((Int.fdiv (i34) (2 ^ (min (Int.toNat (7)) (IntKind.bits .i64)))), m') _ _ ⟨hS, ⟨rfl, rfl, rfl, rfl, rfl, trivial⟩⟩ hm)
      · have hS := hF hb40; clear hT hF
        refine Run.go rfl rfl rfl (sem_binI .i64 (i34) (128) (.bool false) rfl rfl (binI_geq_f hb40) ?_)
        refine Run.region_end ?_
        refine Run.condF rfl ?_
        refine Run.exit rfl ?_
        exact Run.of_fin (hS.imp fun h' hS => j16 _ _ ⟨(i34), ⟨rfl, rfl, rfl, rfl, rfl, trivial⟩, hS⟩)
  · have hS := hF hb11; clear hT hF
    refine Run.go rfl rfl rfl (sem_binI .i64 (i5) ((n3 : Nat)) (.bool false) rfl rfl (binI_lss_f hb11) ?_)
    refine Run.region_end ?_
    refine Run.seq ?_
    refine Run.condF rfl ?_
    refine Run.exit rfl ?_
    refine Run.fall ⟨.inl rfl, ?_⟩
    exact hS.imp fun h' hq => ⟨rfl, hq⟩
set_option maxHeartbeats 4000000 in
theorem C_stylus_Stylus_Bytes.of {B : RO} {p1 : Option Addr} {h : Heap} {Q : ByteArray → Heap → Prop} (hS : S_stylus_Stylus_Bytes B p1 h Q) : C_stylus_Stylus_Bytes B p1 h Q := by
  unfold S_stylus_Stylus_Bytes at hS
  unfold C_stylus_Stylus_Bytes
  refine Spec.of_run Try.func17 (N := 8) (rs := [ResultVar.tmp 2]) rfl rfl rfl (Nat.le_of_ble_eq_true rfl) ?_
  refine Run.seq ?_
  refine Run.ops0 (idx := [0]) rfl ?_
  refine Run.go rfl rfl rfl (sem_assign ((Value.string (ByteArray.mk #[]))) rfl ?_)
  refine Run.region_end ?_
  refine Run.seq ?_
  refine Run.ops0 (idx := [0, 1, 2, 3, 4, 5]) rfl ?_
  refine Run.go rfl rfl rfl (sem_move ((Value.pointer p1)) rfl ?_)
  obtain ⟨A3, e4, hS⟩ := hS
  refine Run.go rfl rfl rfl (sem_nilCheck A3 (congrArg Value.pointer e4) ?_)
  refine Run.go rfl rfl rfl (sem_fieldAddr A3 0 rfl TF.fld_26_0 ?_)
  refine Run.ldSl hS fun a5 n6 c7 h8 hl hS => ?_
  refine Run.go rfl rfl rfl (sem_load1 A3 ((Value.slice a5 n6 c7)) rfl TF.agg_24 hl ?_)
  refine Run.go rfl rfl rfl (sem_convW ((Value.slice a5 n6 c7)) rfl (semH_mono (fun v h10 hv => ?_) hS))
  obtain ⟨s9, rfl, hS⟩ := hv
  refine Run.go rfl rfl rfl (sem_assign ((Value.string s9)) rfl ?_)
  refine Run.region_end ?_
  refine Run.ret ⟨.inr rfl, ?_⟩
  exact hS.imp fun h' hq => ⟨s9, rfl, hq⟩
set_option maxHeartbeats 4000000 in
theorem C_countermandlaw01_great.of {B : RO} {a1 : Option Addr} {n2 : Nat} {c3 : Nat} {h : Heap} {Q : Bool → Heap → Prop} (hS : S_countermandlaw01_great B a1 n2 c3 h Q) : C_countermandlaw01_great B a1 n2 c3 h Q := by
  unfold S_countermandlaw01_great at hS
  unfold C_countermandlaw01_great
  refine Spec.of_run Try.func18 (N := 27) (rs := [ResultVar.tmp 2]) rfl rfl rfl (Nat.le_of_ble_eq_true rfl) ?_
  refine Run.seq ?_
  refine Run.ops0 (idx := [0]) rfl ?_
  refine Run.go rfl rfl rfl (sem_assign ((Value.bool false)) rfl ?_)
  refine Run.region_end ?_
  refine Run.seq ?_
  refine Run.seq ?_
  refine Run.ops0 (idx := [0, 1, 2]) rfl ?_
  refine Run.go rfl rfl rfl (sem_move ((Value.slice a1 n2 c3)) rfl ?_)
  refine Run.go rfl rfl rfl (sem_lenSl a1 n2 c3 rfl TF.sl_30 ?_)
  obtain ⟨hT, hF⟩ := hS
  by_cases hb5 : ((n2 : Nat) : Int) > (50)
  · have hS := hT hb5; clear hT hF
    refine Run.go rfl rfl rfl (sem_binI .i64 ((n2 : Nat)) (50) (.bool true) rfl rfl (binI_gtr_t hb5) ?_)
    refine Run.region_end ?_
    refine Run.condT rfl ?_
    refine Run.seq ?_
    refine Run.ops0 (idx := [0]) rfl ?_
    refine Run.go rfl rfl rfl (sem_assign ((Value.bool true)) rfl ?_)
    refine Run.region_end ?_
    refine Run.ret ⟨.inr rfl, ?_⟩
    exact hS.imp fun h' hq => ⟨(true), rfl, hq⟩
  · have hS := hF hb5; clear hT hF
    refine Run.go rfl rfl rfl (sem_binI .i64 ((n2 : Nat)) (50) (.bool false) rfl rfl (binI_gtr_f hb5) ?_)
    refine Run.region_end ?_
    refine Run.condF rfl ?_
    refine Run.skip ?_
    refine Run.seq ?_
    refine Run.ops0 (idx := [0]) rfl ?_
    refine Run.go rfl rfl rfl (sem_assign ((Value.int .i64 (0))) rfl ?_)
    refine Run.region_end ?_
    refine Run.seq ?_
    refine Run.seq ?_
    refine Run.ops0 (idx := [0, 1, 2]) rfl ?_
    refine Run.go rfl rfl rfl (sem_move ((Value.slice a1 n2 c3)) rfl ?_)
    refine Run.go rfl rfl rfl (sem_lenSl a1 n2 c3 rfl TF.sl_30 ?_)
    refine Run.go rfl rfl rfl (sem_move ((Value.int .i64 (0))) rfl ?_)
    refine Run.region_end ?_
    refine Run.block ?_
    obtain ⟨J12, m10, h0, hS⟩ := hS
    refine Run.of_fin (h0.imp fun h' h0 => ?_)
    refine Run.loop (σ := Int × Int × Nat) (fun x e h => J12 x.1 x.2.1 x.2.2 h ∧ Agree [(3, (Value.int .i64 (x.1))), (9, (Value.slice a1 n2 c3)), (10, (Value.int .i64 ((n2 : Nat)))), (11, (Value.int .i64 (x.2.1)))] e) (fun x => x.2.2) ((0), (0), m10) ⟨h0, ⟨rfl, rfl, rfl, rfl, trivial⟩⟩ ?_; clear h0
    rintro ⟨i6, i7, m9⟩ e h8 ⟨hJ, hag⟩ ih11
    have hS := hS i6 i7 m9 h8 hJ; clear hJ
    refine Run.env hag ?_; clear hag
    refine Run.seq ?_
    refine Run.ops0 (idx := [0]) rfl ?_
    obtain ⟨hT, hF⟩ := hS
    by_cases hb13 : (i7 : Int) < ((n2 : Nat))
    · have hS := hT hb13; clear hT hF
      refine Run.go rfl rfl rfl (sem_binI .i64 (i7) ((n2 : Nat)) (.bool true) rfl rfl (binI_lss_t hb13) ?_)
      refine Run.region_end ?_
      refine Run.seq ?_
      refine Run.condT rfl ?_
      refine Run.skip ?_
      refine Run.seq ?_
      refine Run.block ?_
      refine Run.seq ?_
      refine Run.ops0 (idx := [0, 1, 2, 3]) rfl ?_
      obtain ⟨A14, e15, hi0, hi1, hS⟩ := hS
      refine Run.go rfl rfl rfl (sem_indexAddrS A14 n2 c3 .i64 (i7) (congrArg (fun a => Value.slice a n2 c3) e15) rfl TF.slc_30 hi0 hi1 ?_)
      obtain ⟨i16, i17, s18, hl, hS⟩ := hS
      refine Run.go rfl rfl rfl (sem_loadN (Addr.add A14 (Int.toNat (i7) * 3)) [(Value.int .i64 (i16)), (Value.int .i64 (i17)), (Value.string s18)] rfl TF.agg_121 TF.sz_121 hl ?_)
      refine Run.go rfl rfl rfl (sem_allocN [(Value.int .i64 (0)), (Value.int .i64 (0)), (Value.string ByteArray.empty)] TF.zero_121 (fun k19 hb1 hb2 h20 hb3 => ?_))
      have hS := hS k19 hb1 hb2 h20 hb3
      obtain ⟨h21, hst, hS⟩ := hS
      refine Run.go rfl rfl rfl (sem_storeN ⟨k19, 0, none⟩ [(Value.int .i64 (i16)), (Value.int .i64 (i17)), (Value.string s18)] h21 rfl rfl TF.sz_121 hst ?_)
      refine Run.region_end ?_
      refine Run.seq ?_
      refine Run.seq ?_
      refine Run.ops0 (idx := [0, 1, 2, 3]) rfl ?_
      refine Run.go rfl rfl rfl (sem_fieldAddr ⟨k19, 0, none⟩ 2 rfl TF.fld_121_2 ?_)
      obtain ⟨s22, hl, hS⟩ := hS
      refine Run.go rfl rfl rfl (sem_load1 ⟨k19, 2, none⟩ ((Value.string s22)) rfl TF.agg_9 hl ?_)
      refine Run.go rfl rfl rfl (sem_lenStr s22 rfl TF.isStr_9 ?_)
      obtain ⟨hT, hF⟩ := hS
      by_cases hb23 : ((ByteArray.size s22 : Nat) : Int) > (2048)
      · have hS := hT hb23; clear hT hF
        refine Run.go rfl rfl rfl (sem_binI .i64 ((ByteArray.size s22 : Nat)) (2048) (.bool true) rfl rfl (binI_gtr_t hb23) ?_)
        refine Run.region_end ?_
        refine Run.condT rfl ?_
        refine Run.seq ?_
        refine Run.ops0 (idx := [0]) rfl ?_
        refine Run.go rfl rfl rfl (sem_assign ((Value.bool true)) rfl ?_)
        refine Run.region_end ?_
        refine Run.ret ⟨.inr rfl, ?_⟩
        exact hS.imp fun h' hq => ⟨(true), rfl, hq⟩
      · have hS := hF hb23; clear hT hF
        refine Run.go rfl rfl rfl (sem_binI .i64 ((ByteArray.size s22 : Nat)) (2048) (.bool false) rfl rfl (binI_gtr_f hb23) ?_)
        refine Run.region_end ?_
        refine Run.condF rfl ?_
        refine Run.skip ?_
        refine Run.seq ?_
        refine Run.ops0 (idx := [0, 1, 2, 3, 4, 5]) rfl ?_
        refine Run.go rfl rfl rfl (sem_move ((Value.int .i64 (i6))) rfl ?_)
        refine Run.go rfl rfl rfl (sem_fieldAddr ⟨k19, 0, none⟩ 2 rfl TF.fld_121_2 ?_)
        obtain ⟨s24, hl, hS⟩ := hS
        refine Run.go rfl rfl rfl (sem_load1 ⟨k19, 2, none⟩ ((Value.string s24)) rfl TF.agg_9 hl ?_)
        refine Run.go rfl rfl rfl (sem_lenStr s24 rfl TF.isStr_9 ?_)
        refine Run.go rfl rfl rfl (sem_binI .i64 (i6) ((ByteArray.size s24 : Nat)) ((Value.int .i64 (IntKind.wrap .i64 ((i6) + ((ByteArray.size s24 : Nat)))))) rfl rfl rfl ?_)
        refine Run.go rfl rfl rfl (sem_assign ((Value.int .i64 (IntKind.wrap .i64 ((i6) + ((ByteArray.size s24 : Nat)))))) rfl ?_)
        refine Run.region_end ?_
        refine Run.seq ?_
        refine Run.ops0 (idx := [0, 1]) rfl ?_
        refine Run.go rfl rfl rfl (sem_move ((Value.int .i64 (IntKind.wrap .i64 ((i6) + ((ByteArray.size s24 : Nat)))))) rfl ?_)
        obtain ⟨hT, hF⟩ := hS
        by_cases hb25 : (IntKind.wrap .i64 ((i6) + ((ByteArray.size s24 : Nat))) : Int) > (2048)
        · have hS := hT hb25; clear hT hF
          refine Run.go rfl rfl rfl (sem_binI .i64 (IntKind.wrap .i64 ((i6) + ((ByteArray.size s24 : Nat)))) (2048) (.bool true) rfl rfl (binI_gtr_t hb25) ?_)
          refine Run.region_end ?_
          refine Run.condT rfl ?_
          refine Run.seq ?_
          refine Run.ops0 (idx := [0]) rfl ?_
          refine Run.go rfl rfl rfl (sem_assign ((Value.bool true)) rfl ?_)
          refine Run.region_end ?_
          refine Run.ret ⟨.inr rfl, ?_⟩
          exact hS.imp fun h' hq => ⟨(true), rfl, hq⟩
        · have hS := hF hb25; clear hT hF
          refine Run.go rfl rfl rfl (sem_binI .i64 (IntKind.wrap .i64 ((i6) + ((ByteArray.size s24 : Nat)))) (2048) (.bool false) rfl rfl (binI_gtr_f hb25) ?_)
          refine Run.region_end ?_
          refine Run.condF rfl ?_
          refine Run.skip ?_
          refine Run.inBlock ?_
          refine Run.ops0 (idx := [0, 1]) rfl ?_
          refine Run.go rfl rfl rfl (sem_binI .i64 (i7) (1) ((Value.int .i64 (IntKind.wrap .i64 ((i7) + (1))))) rfl rfl rfl ?_)
          refine Run.go rfl rfl rfl (sem_move ((Value.int .i64 (IntKind.wrap .i64 ((i7) + (1))))) rfl ?_)
          refine Run.region_end ?_
          exact Run.of_fin (hS.imp fun h' ⟨m', hm, hS⟩ => ih11 ((IntKind.wrap .i64 ((i6) + ((ByteArray.size s24 : Nat)))), (IntKind.wrap .i64 ((i7) + (1))), m') _ _ ⟨hS, ⟨rfl, rfl, rfl, rfl, trivial⟩⟩ hm)
    · have hS := hF hb13; clear hT hF
      refine Run.go rfl rfl rfl (sem_binI .i64 (i7) ((n2 : Nat)) (.bool false) rfl rfl (binI_lss_f hb13) ?_)
      refine Run.region_end ?_
      refine Run.seq ?_
      refine Run.condF rfl ?_
      refine Run.exit rfl ?_
      refine Run.seq ?_
      refine Run.ops0 (idx := [0]) rfl ?_
      refine Run.go rfl rfl rfl (sem_assign ((Value.bool false)) rfl ?_)
      refine Run.region_end ?_
      refine Run.ret ⟨.inr rfl, ?_⟩
      exact hS.imp fun h' hq => ⟨(false), rfl, hq⟩
set_option maxHeartbeats 4000000 in
theorem C_countermandlaw01_put.of {B : RO} {a1 : Option Addr} {n2 : Nat} {c3 : Nat} {h : Heap} {Q : ByteArray → ByteArray → Heap → Prop} (hS : S_countermandlaw01_put B a1 n2 c3 h Q) : C_countermandlaw01_put B a1 n2 c3 h Q := by
  unfold S_countermandlaw01_put at hS
  unfold C_countermandlaw01_put
  refine Spec.of_run Try.func19 (N := 68) (rs := [ResultVar.tmp 2, ResultVar.tmp 3]) rfl rfl rfl (Nat.le_of_ble_eq_true rfl) ?_
  refine Run.seq ?_
  refine Run.ops0 (idx := [0, 1]) rfl ?_
  refine Run.go rfl rfl rfl (sem_assign ((Value.string (ByteArray.mk #[]))) rfl ?_)
  refine Run.go rfl rfl rfl (sem_assign ((Value.string (ByteArray.mk #[]))) rfl ?_)
  refine Run.region_end ?_
  refine Run.seq ?_
  refine Run.ops0 (idx := [0, 1, 2]) rfl ?_
  refine Run.go rfl rfl rfl (sem_buildSL [] [(Value.slice none 0 0)] TF.zero_26 TF.places_26 rfl rfl ?_)
  refine Run.go rfl rfl rfl (sem_boxNN [(Value.slice none 0 0)] rfl (fun k6 hb1 hb2 h7 hb3 => ?_))
  have hS := hS k6 hb1 hb2 h7 hb3
  refine Run.go rfl rfl rfl (sem_assign ((Value.pointer (some ⟨k6, 0, none⟩))) rfl ?_)
  refine Run.region_end ?_
  refine Run.seq ?_
  refine Run.ops0 (idx := [0]) rfl ?_
  refine Run.go rfl rfl rfl (sem_assign ((Value.string (ByteArray.mk #[]))) rfl ?_)
  refine Run.region_end ?_
  refine Run.seq ?_
  refine Run.seq ?_
  refine Run.ops0 (idx := [0, 1, 2]) rfl ?_
  refine Run.go rfl rfl rfl (sem_move ((Value.slice a1 n2 c3)) rfl ?_)
  refine Run.go rfl rfl rfl (sem_lenSl a1 n2 c3 rfl TF.sl_30 ?_)
  refine Run.go rfl rfl rfl (sem_move ((Value.int .i64 (0))) rfl ?_)
  refine Run.region_end ?_
  refine Run.block ?_
  obtain ⟨J14, m12, h0, hS⟩ := hS
  refine Run.of_fin (h0.imp fun h' h0 => ?_)
  refine Run.loop (σ := ByteArray × Int × Nat) (fun x e h => J14 x.1 x.2.1 x.2.2 h ∧ Agree [(4, (Value.pointer (some ⟨k6, 0, none⟩))), (5, (Value.string x.1)), (10, (Value.slice a1 n2 c3)), (11, (Value.int .i64 ((n2 : Nat)))), (12, (Value.int .i64 (x.2.1)))] e) (fun x => x.2.2) ((ByteArray.mk #[]), (0), m12) ⟨h0, ⟨rfl, rfl, rfl, rfl, rfl, trivial⟩⟩ ?_; clear h0
  rintro ⟨s8, i9, m11⟩ e h10 ⟨hJ, hag⟩ ih13
  have hS := hS s8 i9 m11 h10 hJ; clear hJ
  refine Run.env hag ?_; clear hag
  refine Run.seq ?_
  refine Run.ops0 (idx := [0]) rfl ?_
  obtain ⟨hT, hF⟩ := hS
  by_cases hb15 : (i9 : Int) < ((n2 : Nat))
  · have hS := hT hb15; clear hT hF
    refine Run.go rfl rfl rfl (sem_binI .i64 (i9) ((n2 : Nat)) (.bool true) rfl rfl (binI_lss_t hb15) ?_)
    refine Run.region_end ?_
    refine Run.seq ?_
    refine Run.condT rfl ?_
    refine Run.skip ?_
    refine Run.seq ?_
    refine Run.block ?_
    refine Run.seq ?_
    refine Run.ops0 (idx := [0, 1, 2, 3]) rfl ?_
    obtain ⟨A16, e17, hi0, hi1, hS⟩ := hS
    refine Run.go rfl rfl rfl (sem_indexAddrS A16 n2 c3 .i64 (i9) (congrArg (fun a => Value.slice a n2 c3) e17) rfl TF.slc_30 hi0 hi1 ?_)
    obtain ⟨i18, i19, s20, hl, hS⟩ := hS
    refine Run.go rfl rfl rfl (sem_loadN (Addr.add A16 (Int.toNat (i9) * 3)) [(Value.int .i64 (i18)), (Value.int .i64 (i19)), (Value.string s20)] rfl TF.agg_121 TF.sz_121 hl ?_)
    refine Run.go rfl rfl rfl (sem_allocN [(Value.int .i64 (0)), (Value.int .i64 (0)), (Value.string ByteArray.empty)] TF.zero_121 (fun k21 hb1 hb2 h22 hb3 => ?_))
    have hS := hS k21 hb1 hb2 h22 hb3
    obtain ⟨h23, hst, hS⟩ := hS
    refine Run.go rfl rfl rfl (sem_storeN ⟨k21, 0, none⟩ [(Value.int .i64 (i18)), (Value.int .i64 (i19)), (Value.string s20)] h23 rfl rfl TF.sz_121 hst ?_)
    refine Run.region_end ?_
    refine Run.seq ?_
    refine Run.ops0 (idx := [0, 1]) rfl ?_
    refine Run.go rfl rfl rfl (sem_fieldAddr ⟨k21, 0, none⟩ 0 rfl TF.fld_121_0 ?_)
    obtain ⟨i24, hl, hS⟩ := hS
    refine Run.go rfl rfl rfl (sem_load1 ⟨k21, 0, none⟩ ((Value.int .i64 (i24))) rfl TF.agg_3 hl ?_)
    refine Run.region_end ?_
    refine Run.block ?_
    refine Run.seq ?_
    refine Run.ops0 (idx := [0, 1]) rfl ?_
    obtain ⟨hT, hF⟩ := hS
    by_cases hb25 : (i24 : Int) = 0
    · have hS := hT hb25; clear hT hF
      refine Run.go rfl rfl rfl (sem_binI .i64 (i24) (0) (.bool true) rfl rfl (binI_eql_t hb25) ?_)
      refine Run.go rfl rfl rfl (sem_assign ((Value.bool true)) rfl ?_)
      refine Run.region_end ?_
      refine Run.condT rfl ?_
      refine Run.seq ?_
      refine Run.ops0 (idx := [0, 1, 2, 3, 4]) rfl ?_
      refine Run.go rfl rfl rfl (sem_move ((Value.pointer (some ⟨k6, 0, none⟩))) rfl ?_)
      refine Run.go rfl rfl rfl (sem_fieldAddr ⟨k21, 0, none⟩ 1 rfl TF.fld_121_1 ?_)
      obtain ⟨i26, hl, hS⟩ := hS
      refine Run.go rfl rfl rfl (sem_load1 ⟨k21, 1, none⟩ ((Value.int .i64 (i26))) rfl TF.agg_3 hl ?_)
      refine Run.go rfl rfl rfl (sem_buildSliceL [(0, (Value.int .i64 (i26)))] [(Value.int .i64 (i26))] TF.slc_65 TF.zero_3 rfl (by decide) (by decide) rfl rfl (fun k27 hb1 hb2 h28 hb3 => ?_))
      have hS := hS k27 hb1 hb2 h28 hb3
      refine Run.go rfl rfl rfl (sem_callL [(Value.pointer (some ⟨k6, 0, none⟩)), (Value.slice (some ⟨k27, 0, none⟩) 1 1)] (TF.goes_16) rfl rfl (Spec.mono hS fun v h29 hv => ?_))
      obtain ⟨rfl, hS⟩ := hv
      refine Run.region_end ?_
      refine Run.ops0 (idx := [0, 1, 2, 3, 4, 5]) rfl ?_
      refine Run.go rfl rfl rfl (sem_move ((Value.string s8)) rfl ?_)
      refine Run.go rfl rfl rfl (sem_fieldAddr ⟨k21, 0, none⟩ 1 rfl TF.fld_121_1 ?_)
      obtain ⟨i30, hl, hS⟩ := hS
      refine Run.go rfl rfl rfl (sem_load1 ⟨k21, 1, none⟩ ((Value.int .i64 (i30))) rfl TF.agg_3 hl ?_)
      refine Run.go rfl rfl rfl (sem_callL [(Value.int .i64 (i30))] (TF.goes_63) rfl rfl (Spec.mono hS fun v h31 hv => ?_))
      obtain ⟨s32, rfl, hS⟩ := hv
      obtain ⟨hi0, hS⟩ := hS
      refine Run.go rfl rfl rfl (sem_strAdd s8 s32 rfl rfl hi0 ?_)
      refine Run.go rfl rfl rfl (sem_assign ((Value.string (s8 ++ s32))) rfl ?_)
      refine Run.region_end ?_
      refine Run.inBlock ?_
      refine Run.inBlock ?_
      refine Run.ops0 (idx := [0, 1]) rfl ?_
      refine Run.go rfl rfl rfl (sem_binI .i64 (i9) (1) ((Value.int .i64 (IntKind.wrap .i64 ((i9) + (1))))) rfl rfl rfl ?_)
      refine Run.go rfl rfl rfl (sem_move ((Value.int .i64 (IntKind.wrap .i64 ((i9) + (1))))) rfl ?_)
      refine Run.region_end ?_
      exact Run.of_fin (hS.imp fun h' ⟨m', hm, hS⟩ => ih13 ((s8 ++ s32), (IntKind.wrap .i64 ((i9) + (1))), m') _ _ ⟨hS, ⟨rfl, rfl, rfl, rfl, rfl, trivial⟩⟩ hm)
    · have hS := hF hb25; clear hT hF
      refine Run.go rfl rfl rfl (sem_binI .i64 (i24) (0) (.bool false) rfl rfl (binI_eql_f hb25) ?_)
      refine Run.go rfl rfl rfl (sem_assign ((Value.bool false)) rfl ?_)
      refine Run.region_end ?_
      refine Run.condF rfl ?_
      refine Run.seq ?_
      refine Run.ops0 (idx := [0, 1]) rfl ?_
      obtain ⟨hT, hF⟩ := hS
      by_cases hb33 : (i24 : Int) = 1
      · have hS := hT hb33; clear hT hF
        refine Run.go rfl rfl rfl (sem_binI .i64 (i24) (1) (.bool true) rfl rfl (binI_eql_t hb33) ?_)
        refine Run.go rfl rfl rfl (sem_assign ((Value.bool true)) rfl ?_)
        refine Run.region_end ?_
        refine Run.condT rfl ?_
        refine Run.seq ?_
        refine Run.ops0 (idx := [0, 1, 2, 3, 4]) rfl ?_
        refine Run.go rfl rfl rfl (sem_move ((Value.pointer (some ⟨k6, 0, none⟩))) rfl ?_)
        refine Run.go rfl rfl rfl (sem_fieldAddr ⟨k21, 0, none⟩ 1 rfl TF.fld_121_1 ?_)
        obtain ⟨i34, hl, hS⟩ := hS
        refine Run.go rfl rfl rfl (sem_load1 ⟨k21, 1, none⟩ ((Value.int .i64 (i34))) rfl TF.agg_3 hl ?_)
        refine Run.go rfl rfl rfl (sem_buildSliceL [(0, (Value.int .i64 (i34)))] [(Value.int .i64 (i34))] TF.slc_65 TF.zero_3 rfl (by decide) (by decide) rfl rfl (fun k35 hb1 hb2 h36 hb3 => ?_))
        have hS := hS k35 hb1 hb2 h36 hb3
        refine Run.go rfl rfl rfl (sem_callL [(Value.pointer (some ⟨k6, 0, none⟩)), (Value.slice (some ⟨k35, 0, none⟩) 1 1)] (TF.goes_51) rfl rfl (Spec.mono hS fun v h37 hv => ?_))
        obtain ⟨rfl, hS⟩ := hv
        refine Run.region_end ?_
        refine Run.ops0 (idx := [0, 1, 2, 3, 4, 5]) rfl ?_
        refine Run.go rfl rfl rfl (sem_move ((Value.string s8)) rfl ?_)
        refine Run.go rfl rfl rfl (sem_fieldAddr ⟨k21, 0, none⟩ 1 rfl TF.fld_121_1 ?_)
        obtain ⟨i38, hl, hS⟩ := hS
        refine Run.go rfl rfl rfl (sem_load1 ⟨k21, 1, none⟩ ((Value.int .i64 (i38))) rfl TF.agg_3 hl ?_)
        refine Run.go rfl rfl rfl (sem_callL [(Value.int .i64 (i38))] (TF.goes_64) rfl rfl (Spec.mono hS fun v h39 hv => ?_))
        obtain ⟨s40, rfl, hS⟩ := hv
        obtain ⟨hi0, hS⟩ := hS
        refine Run.go rfl rfl rfl (sem_strAdd s8 s40 rfl rfl hi0 ?_)
        refine Run.go rfl rfl rfl (sem_assign ((Value.string (s8 ++ s40))) rfl ?_)
        refine Run.region_end ?_
        refine Run.inBlock ?_
        refine Run.inBlock ?_
        refine Run.ops0 (idx := [0, 1]) rfl ?_
        refine Run.go rfl rfl rfl (sem_binI .i64 (i9) (1) ((Value.int .i64 (IntKind.wrap .i64 ((i9) + (1))))) rfl rfl rfl ?_)
        refine Run.go rfl rfl rfl (sem_move ((Value.int .i64 (IntKind.wrap .i64 ((i9) + (1))))) rfl ?_)
        refine Run.region_end ?_
        exact Run.of_fin (hS.imp fun h' ⟨m', hm, hS⟩ => ih13 ((s8 ++ s40), (IntKind.wrap .i64 ((i9) + (1))), m') _ _ ⟨hS, ⟨rfl, rfl, rfl, rfl, rfl, trivial⟩⟩ hm)
      · have hS := hF hb33; clear hT hF
        refine Run.go rfl rfl rfl (sem_binI .i64 (i24) (1) (.bool false) rfl rfl (binI_eql_f hb33) ?_)
        refine Run.go rfl rfl rfl (sem_assign ((Value.bool false)) rfl ?_)
        refine Run.region_end ?_
        refine Run.condF rfl ?_
        refine Run.seq ?_
        refine Run.ops0 (idx := [0, 1]) rfl ?_
        obtain ⟨hT, hF⟩ := hS
        by_cases hb41 : (i24 : Int) = 2
        · have hS := hT hb41; clear hT hF
          refine Run.go rfl rfl rfl (sem_binI .i64 (i24) (2) (.bool true) rfl rfl (binI_eql_t hb41) ?_)
          refine Run.go rfl rfl rfl (sem_assign ((Value.bool true)) rfl ?_)
          refine Run.region_end ?_
          refine Run.condT rfl ?_
          refine Run.seq ?_
          refine Run.ops0 (idx := [0, 1, 2, 3]) rfl ?_
          refine Run.go rfl rfl rfl (sem_move ((Value.pointer (some ⟨k6, 0, none⟩))) rfl ?_)
          refine Run.go rfl rfl rfl (sem_fieldAddr ⟨k21, 0, none⟩ 2 rfl TF.fld_121_2 ?_)
          obtain ⟨s42, hl, hS⟩ := hS
          refine Run.go rfl rfl rfl (sem_load1 ⟨k21, 2, none⟩ ((Value.string s42)) rfl TF.agg_9 hl ?_)
          refine Run.go rfl rfl rfl (sem_callL [(Value.pointer (some ⟨k6, 0, none⟩)), (Value.string s42)] (TF.goes_65) rfl rfl (Spec.mono hS fun v h43 hv => ?_))
          obtain ⟨rfl, hS⟩ := hv
          refine Run.region_end ?_
          refine Run.ops0 (idx := [0, 1, 2, 3, 4]) rfl ?_
          refine Run.go rfl rfl rfl (sem_move ((Value.string s8)) rfl ?_)
          refine Run.go rfl rfl rfl (sem_fieldAddr ⟨k21, 0, none⟩ 2 rfl TF.fld_121_2 ?_)
          obtain ⟨s44, hl, hS⟩ := hS
          refine Run.go rfl rfl rfl (sem_load1 ⟨k21, 2, none⟩ ((Value.string s44)) rfl TF.agg_9 hl ?_)
          obtain ⟨hi0, hS⟩ := hS
          refine Run.go rfl rfl rfl (sem_strAdd s8 s44 rfl rfl hi0 ?_)
          refine Run.go rfl rfl rfl (sem_assign ((Value.string (s8 ++ s44))) rfl ?_)
          refine Run.region_end ?_
          refine Run.inBlock ?_
          refine Run.inBlock ?_
          refine Run.ops0 (idx := [0, 1]) rfl ?_
          refine Run.go rfl rfl rfl (sem_binI .i64 (i9) (1) ((Value.int .i64 (IntKind.wrap .i64 ((i9) + (1))))) rfl rfl rfl ?_)
          refine Run.go rfl rfl rfl (sem_move ((Value.int .i64 (IntKind.wrap .i64 ((i9) + (1))))) rfl ?_)
          refine Run.region_end ?_
          exact Run.of_fin (hS.imp fun h' ⟨m', hm, hS⟩ => ih13 ((s8 ++ s44), (IntKind.wrap .i64 ((i9) + (1))), m') _ _ ⟨hS, ⟨rfl, rfl, rfl, rfl, rfl, trivial⟩⟩ hm)
        · have hS := hF hb41; clear hT hF
          refine Run.go rfl rfl rfl (sem_binI .i64 (i24) (2) (.bool false) rfl rfl (binI_eql_f hb41) ?_)
          refine Run.go rfl rfl rfl (sem_assign ((Value.bool false)) rfl ?_)
          refine Run.region_end ?_
          refine Run.condF rfl ?_
          refine Run.seq ?_
          refine Run.ops0 (idx := [0, 1]) rfl ?_
          obtain ⟨hT, hF⟩ := hS
          by_cases hb45 : (i24 : Int) = 3
          · have hS := hT hb45; clear hT hF
            refine Run.go rfl rfl rfl (sem_binI .i64 (i24) (3) (.bool true) rfl rfl (binI_eql_t hb45) ?_)
            refine Run.go rfl rfl rfl (sem_assign ((Value.bool true)) rfl ?_)
            refine Run.region_end ?_
            refine Run.condT rfl ?_
            refine Run.seq ?_
            refine Run.ops0 (idx := [0, 1, 2, 3, 4]) rfl ?_
            refine Run.go rfl rfl rfl (sem_move ((Value.pointer (some ⟨k6, 0, none⟩))) rfl ?_)
            refine Run.go rfl rfl rfl (sem_fieldAddr ⟨k21, 0, none⟩ 2 rfl TF.fld_121_2 ?_)
            obtain ⟨s46, hl, hS⟩ := hS
            refine Run.go rfl rfl rfl (sem_load1 ⟨k21, 2, none⟩ ((Value.string s46)) rfl TF.agg_9 hl ?_)
            refine Run.go rfl rfl rfl (sem_buildSliceL [(0, (Value.string s46))] [(Value.string s46)] TF.slc_94 TF.zero_9 rfl (by decide) (by decide) rfl rfl (fun k47 hb1 hb2 h48 hb3 => ?_))
            have hS := hS k47 hb1 hb2 h48 hb3
            refine Run.go rfl rfl rfl (sem_callL [(Value.pointer (some ⟨k6, 0, none⟩)), (Value.slice (some ⟨k47, 0, none⟩) 1 1)] (TF.goes_66) rfl rfl (Spec.mono hS fun v h49 hv => ?_))
            obtain ⟨rfl, hS⟩ := hv
            refine Run.region_end ?_
            refine Run.ops0 (idx := [0, 1, 2, 3, 4, 5]) rfl ?_
            refine Run.go rfl rfl rfl (sem_move ((Value.string s8)) rfl ?_)
            refine Run.go rfl rfl rfl (sem_fieldAddr ⟨k21, 0, none⟩ 2 rfl TF.fld_121_2 ?_)
            obtain ⟨s50, hl, hS⟩ := hS
            refine Run.go rfl rfl rfl (sem_load1 ⟨k21, 2, none⟩ ((Value.string s50)) rfl TF.agg_9 hl ?_)
            refine Run.go rfl rfl rfl (sem_callL [(Value.string s50)] (TF.goes_67) rfl rfl (Spec.mono hS fun v h51 hv => ?_))
            obtain ⟨s52, rfl, hS⟩ := hv
            obtain ⟨hi0, hS⟩ := hS
            refine Run.go rfl rfl rfl (sem_strAdd s8 s52 rfl rfl hi0 ?_)
            refine Run.go rfl rfl rfl (sem_assign ((Value.string (s8 ++ s52))) rfl ?_)
            refine Run.region_end ?_
            refine Run.inBlock ?_
            refine Run.inBlock ?_
            refine Run.ops0 (idx := [0, 1]) rfl ?_
            refine Run.go rfl rfl rfl (sem_binI .i64 (i9) (1) ((Value.int .i64 (IntKind.wrap .i64 ((i9) + (1))))) rfl rfl rfl ?_)
            refine Run.go rfl rfl rfl (sem_move ((Value.int .i64 (IntKind.wrap .i64 ((i9) + (1))))) rfl ?_)
            refine Run.region_end ?_
            exact Run.of_fin (hS.imp fun h' ⟨m', hm, hS⟩ => ih13 ((s8 ++ s52), (IntKind.wrap .i64 ((i9) + (1))), m') _ _ ⟨hS, ⟨rfl, rfl, rfl, rfl, rfl, trivial⟩⟩ hm)
          · have hS := hF hb45; clear hT hF
            refine Run.go rfl rfl rfl (sem_binI .i64 (i24) (3) (.bool false) rfl rfl (binI_eql_f hb45) ?_)
            refine Run.go rfl rfl rfl (sem_assign ((Value.bool false)) rfl ?_)
            refine Run.region_end ?_
            refine Run.condF rfl ?_
            refine Run.skip ?_
            refine Run.inBlock ?_
            refine Run.inBlock ?_
            refine Run.ops0 (idx := [0, 1]) rfl ?_
            refine Run.go rfl rfl rfl (sem_binI .i64 (i9) (1) ((Value.int .i64 (IntKind.wrap .i64 ((i9) + (1))))) rfl rfl rfl ?_)
            refine Run.go rfl rfl rfl (sem_move ((Value.int .i64 (IntKind.wrap .i64 ((i9) + (1))))) rfl ?_)
            refine Run.region_end ?_
            exact Run.of_fin (hS.imp fun h' ⟨m', hm, hS⟩ => ih13 (s8, (IntKind.wrap .i64 ((i9) + (1))), m') _ _ ⟨hS, ⟨rfl, rfl, rfl, rfl, rfl, trivial⟩⟩ hm)
  · have hS := hF hb15; clear hT hF
    refine Run.go rfl rfl rfl (sem_binI .i64 (i9) ((n2 : Nat)) (.bool false) rfl rfl (binI_lss_f hb15) ?_)
    refine Run.region_end ?_
    refine Run.seq ?_
    refine Run.condF rfl ?_
    refine Run.exit rfl ?_
    refine Run.seq ?_
    refine Run.ops0 (idx := [0, 1, 2, 3, 4]) rfl ?_
    refine Run.go rfl rfl rfl (sem_move ((Value.pointer (some ⟨k6, 0, none⟩))) rfl ?_)
    refine Run.go rfl rfl rfl (sem_callL [(Value.pointer (some ⟨k6, 0, none⟩))] (TF.goes_17) rfl rfl (Spec.mono hS fun v h53 hv => ?_))
    obtain ⟨s54, rfl, hS⟩ := hv
    refine Run.go rfl rfl rfl (sem_move ((Value.string s8)) rfl ?_)
    refine Run.go rfl rfl rfl (sem_assign ((Value.string s54)) rfl ?_)
    refine Run.go rfl rfl rfl (sem_assign ((Value.string s8)) rfl ?_)
    refine Run.region_end ?_
    refine Run.ret ⟨.inr rfl, ?_⟩
    exact hS.imp fun h' hq => ⟨s54, s8, rfl, hq⟩
set_option maxHeartbeats 4000000 in
theorem C_stylus_Stylus_Int.of {B : RO} {p1 : Option Addr} {a2 : Option Addr} {n3 : Nat} {c4 : Nat} {h : Heap} {Q : Heap → Prop} (hS : S_stylus_Stylus_Int B p1 a2 n3 c4 h Q) : C_stylus_Stylus_Int B p1 a2 n3 c4 h Q := by
  unfold S_stylus_Stylus_Int at hS
  unfold C_stylus_Stylus_Int
  refine Spec.of_run Try.func51 (N := 48) (rs := []) rfl rfl rfl (Nat.le_of_ble_eq_true rfl) ?_
  refine Run.seq ?_
  refine Run.ops0 (idx := [0, 1, 2]) rfl ?_
  refine Run.go rfl rfl rfl (sem_move ((Value.slice a2 n3 c4)) rfl ?_)
  refine Run.go rfl rfl rfl (sem_lenSl a2 n3 c4 rfl TF.sl_65 ?_)
  refine Run.go rfl rfl rfl (sem_move ((Value.int .i64 (0))) rfl ?_)
  refine Run.region_end ?_
  refine Run.block ?_
  obtain ⟨J10, m8, h0, hS⟩ := hS
  refine Run.of_fin (h0.imp fun h' h0 => ?_)
  refine Run.loop (σ := Int × Nat) (fun x e h => J10 x.1 x.2 h ∧ Agree [(0, (Value.pointer p1)), (7, (Value.slice a2 n3 c4)), (8, (Value.int .i64 ((n3 : Nat)))), (9, (Value.int .i64 (x.1)))] e) (fun x => x.2) ((0), m8) ⟨h0, ⟨rfl, rfl, rfl, rfl, trivial⟩⟩ ?_; clear h0
  rintro ⟨i5, m7⟩ e h6 ⟨hJ, hag⟩ ih9
  have hS := hS i5 m7 h6 hJ; clear hJ
  refine Run.env hag ?_; clear hag
  refine Run.seq ?_
  refine Run.ops0 (idx := [0]) rfl ?_
  obtain ⟨hT, hF⟩ := hS
  by_cases hb11 : (i5 : Int) < ((n3 : Nat))
  · have hS := hT hb11; clear hT hF
    refine Run.go rfl rfl rfl (sem_binI .i64 (i5) ((n3 : Nat)) (.bool true) rfl rfl (binI_lss_t hb11) ?_)
    refine Run.region_end ?_
    refine Run.seq ?_
    refine Run.condT rfl ?_
    refine Run.skip ?_
    refine Run.seq ?_
    refine Run.block ?_
    refine Run.seq ?_
    refine Run.ops0 (idx := [0, 1, 2]) rfl ?_
    obtain ⟨A12, e13, hi0, hi1, hS⟩ := hS
    refine Run.go rfl rfl rfl (sem_indexAddrS A12 n3 c4 .i64 (i5) (congrArg (fun a => Value.slice a n3 c4) e13) rfl TF.slc_65 hi0 hi1 ?_)
    obtain ⟨i14, hl, hS⟩ := hS
    refine Run.go rfl rfl rfl (sem_load1 (Addr.add A12 (Int.toNat (i5) * 1)) ((Value.int .i64 (i14))) rfl TF.agg_3 hl ?_)
    refine Run.go rfl rfl rfl (sem_assign ((Value.int .i64 (i14))) rfl ?_)
    refine Run.region_end ?_
    refine Run.seq ?_
    refine Run.ops0 (idx := [0, 1, 2, 3, 4, 5, 6, 7]) rfl ?_
    refine Run.go rfl rfl rfl (sem_move ((Value.int .i64 (i14))) rfl ?_)
    refine Run.go rfl rfl rfl (sem_convI .i64 .u64 (i14) rfl TF.int_3 TF.int_98 ?_)
    obtain ⟨hi0, hS⟩ := hS
    refine Run.go rfl rfl rfl (sem_shl .u64 .u64 (IntKind.wrap .u64 (i14)) (1) rfl rfl hi0 ?_)
    refine Run.go rfl rfl rfl (sem_move ((Value.int .i64 (i14))) rfl ?_)
    obtain ⟨hi0, hS⟩ := hS
    refine Run.go rfl rfl rfl (sem_shr .i64 .u64 (i14) (63) rfl rfl hi0 ?_)
    refine Run.go rfl rfl rfl (sem_convI .i64 .u64 (Int.fdiv (i14) (2 ^ (min (Int.toNat (63)) (IntKind.bits .i64)))) rfl TF.int_3 TF.int_98 ?_)
    refine Run.go rfl rfl rfl (sem_binI .u64 (IntKind.wrap .u64 ((IntKind.wrap .u64 (i14)) * 2 ^ (min (Int.toNat (1)) (IntKind.bits .u64)))) (IntKind.wrap .u64 (Int.fdiv (i14) (2 ^ (min (Int.toNat (63)) (IntKind.bits .i64))))) ((Value.int .u64 (IntKind.wrap .u64 ((BitVec.ofInt (IntKind.bits .u64) (IntKind.wrap .u64 ((IntKind.wrap .u64 (i14)) * 2 ^ (min (Int.toNat (1)) (IntKind.bits .u64)))) ^^^ BitVec.ofInt (IntKind.bits .u64) (IntKind.wrap .u64 (Int.fdiv (i14) (2 ^ (min (Int.toNat (63)) (IntKind.bits .i64)))))).toNat : Int)))) rfl rfl rfl ?_)
    refine Run.go rfl rfl rfl (sem_assign ((Value.int .u64 (IntKind.wrap .u64 ((BitVec.ofInt (IntKind.bits .u64) (IntKind.wrap .u64 ((IntKind.wrap .u64 (i14)) * 2 ^ (min (Int.toNat (1)) (IntKind.bits .u64)))) ^^^ BitVec.ofInt (IntKind.bits .u64) (IntKind.wrap .u64 (Int.fdiv (i14) (2 ^ (min (Int.toNat (63)) (IntKind.bits .i64)))))).toNat : Int)))) rfl ?_)
    refine Run.region_end ?_
    refine Run.seqJ (fun e h17 => ∃ i16 : Int, Agree [(0, (Value.pointer p1)), (6, (Value.int .u64 (i16))), (7, (Value.slice a2 n3 c4)), (8, (Value.int .i64 ((n3 : Nat)))), (9, (Value.int .i64 (i5)))] e ∧ S_stylus_Stylus_Int_J1 B p1 a2 n3 c4 i5 m7 J10 i16 h17 Q) ?_ fun j15 => ?_
    · rintro e h17 ⟨i16, hag, hS⟩
      refine Run.env hag ?_; clear hag
      refine Run.ops0 (idx := [0, 1, 2, 3, 4, 5, 6, 7, 8, 9, 10, 11]) rfl ?_
      refine Run.go rfl rfl rfl (sem_move ((Value.pointer p1)) rfl ?_)
      refine Run.go rfl rfl rfl (sem_move ((Value.pointer p1)) rfl ?_)
      obtain ⟨A18, e19, hS⟩ := hS
      refine Run.go rfl rfl rfl (sem_nilCheck A18 (congrArg Value.pointer e19) ?_)
      refine Run.go rfl rfl rfl (sem_fieldAddr A18 0 rfl TF.fld_26_0 ?_)
      refine Run.ldSl hS fun a20 n21 c22 h23 hl hS => ?_
      refine Run.go rfl rfl rfl (sem_load1 A18 ((Value.slice a20 n21 c22)) rfl TF.agg_24 hl ?_)
      refine Run.go rfl rfl rfl (sem_move ((Value.int .u64 (i16))) rfl ?_)
      refine Run.go rfl rfl rfl (sem_convI .u64 .u8 (i16) rfl TF.int_98 TF.int_5 ?_)
      refine Run.go rfl rfl rfl (sem_buildSliceL [(0, (Value.int .u8 (IntKind.wrap .u8 (i16))))] [(Value.int .u8 (IntKind.wrap .u8 (i16)))] TF.slc_24 TF.zero_5 rfl (by decide) (by decide) rfl rfl (fun k24 hb1 hb2 h25 hb3 => ?_))
      have hS := hS k24 hb1 hb2 h25 hb3
      refine Run.go rfl rfl rfl (sem_appendL [(Value.slice a20 n21 c22), (Value.slice (some ⟨k24, 0, none⟩) 1 1)] rfl (semH_mono (fun v h26 hv => ?_) hS))
      obtain ⟨a27, n28, c29, rfl, hS⟩ := hv
      obtain ⟨A30, e31, hS⟩ := hS
      refine Run.go rfl rfl rfl (sem_nilCheck A30 (congrArg Value.pointer e31) ?_)
      refine Run.go rfl rfl rfl (sem_fieldAddr A30 0 rfl TF.fld_26_0 ?_)
      obtain ⟨h32, hst, hS⟩ := hS
      refine Run.go rfl rfl rfl (sem_store1 A30 ((Value.slice a27 n28 c29)) h32 rfl rfl rfl TF.sz_24 hst ?_)
      refine Run.region_end ?_
      refine Run.inBlock ?_
      refine Run.ops0 (idx := [0, 1]) rfl ?_
      refine Run.go rfl rfl rfl (sem_binI .i64 (i5) (1) ((Value.int .i64 (IntKind.wrap .i64 ((i5) + (1))))) rfl rfl rfl ?_)
      refine Run.go rfl rfl rfl (sem_move ((Value.int .i64 (IntKind.wrap .i64 ((i5) + (1))))) rfl ?_)
      refine Run.region_end ?_
      exact Run.of_fin (hS.imp fun h' ⟨m', hm, hS⟩ => ih9 ((IntKind.wrap .i64 ((i5) + (1))), m') _ _ ⟨hS, ⟨rfl, rfl, rfl, rfl, trivial⟩⟩ hm)
    refine Run.block ?_
    obtain ⟨J38, m36, h0, hS⟩ := hS
    refine Run.of_fin (h0.imp fun h' h0 => ?_)
    refine Run.loop (σ := Int × Nat) (fun x e h => J38 x.1 x.2 h ∧ Agree [(0, (Value.pointer p1)), (6, (Value.int .u64 (x.1))), (7, (Value.slice a2 n3 c4)), (8, (Value.int .i64 ((n3 : Nat)))), (9, (Value.int .i64 (i5)))] e) (fun x => x.2) ((IntKind.wrap .u64 ((BitVec.ofInt (IntKind.bits .u64) (IntKind.wrap .u64 ((IntKind.wrap .u64 (i14)) * 2 ^ (min (Int.toNat (1)) (IntKind.bits .u64)))) ^^^ BitVec.ofInt (IntKind.bits .u64) (IntKind.wrap .u64 (Int.fdiv (i14) (2 ^ (min (Int.toNat (63)) (IntKind.bits .i64)))))).toNat : Int)), m36) ⟨h0, ⟨rfl, rfl, rfl, rfl, rfl, trivial⟩⟩ ?_; clear h0
    rintro ⟨i33, m35⟩ e h34 ⟨hJ, hag⟩ ih37
    have hS := hS i33 m35 h34 hJ; clear hJ
    refine Run.env hag ?_; clear hag
    refine Run.seq ?_
    refine Run.seq ?_
    refine Run.ops0 (idx := [0, 1]) rfl ?_
    refine Run.go rfl rfl rfl (sem_move ((Value.int .u64 (i33))) rfl ?_)
    obtain ⟨hT, hF⟩ := hS
    by_cases hb39 : (i33 : Int) ≥ (128)
    · have hS := hT hb39; clear hT hF
      refine Run.go rfl rfl rfl (sem_binI .u64 (i33) (128) (.bool true) rfl rfl (binI_geq_t hb39) ?_)
      refine Run.region_end ?_
      refine Run.condT rfl ?_
      refine Run.skip ?_
      refine Run.block ?_
      refine Run.seq ?_
      refine Run.ops0 (idx := [0, 1, 2, 3, 4, 5, 6, 7, 8, 9, 10, 11, 12]) rfl ?_
      refine Run.go rfl rfl rfl (sem_move ((Value.pointer p1)) rfl ?_)
      refine Run.go rfl rfl rfl (sem_move ((Value.pointer p1)) rfl ?_)
      obtain ⟨A40, e41, hS⟩ := hS
      refine Run.go rfl rfl rfl (sem_nilCheck A40 (congrArg Value.pointer e41) ?_)
      refine Run.go rfl rfl rfl (sem_fieldAddr A40 0 rfl TF.fld_26_0 ?_)
      refine Run.ldSl hS fun a42 n43 c44 h45 hl hS => ?_
      refine Run.go rfl rfl rfl (sem_load1 A40 ((Value.slice a42 n43 c44)) rfl TF.agg_24 hl ?_)
      refine Run.go rfl rfl rfl (sem_move ((Value.int .u64 (i33))) rfl ?_)
      refine Run.go rfl rfl rfl (sem_convI .u64 .u8 (i33) rfl TF.int_98 TF.int_5 ?_)
      refine Run.go rfl rfl rfl (sem_binI .u8 (IntKind.wrap .u8 (i33)) (128) ((Value.int .u8 (IntKind.wrap .u8 ((BitVec.ofInt (IntKind.bits .u8) (IntKind.wrap .u8 (i33)) ||| BitVec.ofInt (IntKind.bits .u8) (128)).toNat : Int)))) rfl rfl rfl ?_)
      refine Run.go rfl rfl rfl (sem_buildSliceL [(0, (Value.int .u8 (IntKind.wrap .u8 ((BitVec.ofInt (IntKind.bits .u8) (IntKind.wrap .u8 (i33)) ||| BitVec.ofInt (IntKind.bits .u8) (128)).toNat : Int))))] [(Value.int .u8 (IntKind.wrap .u8 ((BitVec.ofInt (IntKind.bits .u8) (IntKind.wrap .u8 (i33)) ||| BitVec.ofInt (IntKind.bits .u8) (128)).toNat : Int)))] TF.slc_24 TF.zero_5 rfl (by decide) (by decide) rfl rfl (fun k46 hb1 hb2 h47 hb3 => ?_))
      have hS := hS k46 hb1 hb2 h47 hb3
      refine Run.go rfl rfl rfl (sem_appendL [(Value.slice a42 n43 c44), (Value.slice (some ⟨k46, 0, none⟩) 1 1)] rfl (semH_mono (fun v h48 hv => ?_) hS))
      obtain ⟨a49, n50, c51, rfl, hS⟩ := hv
      obtain ⟨A52, e53, hS⟩ := hS
      refine Run.go rfl rfl rfl (sem_nilCheck A52 (congrArg Value.pointer e53) ?_)
      refine Run.go rfl rfl rfl (sem_fieldAddr A52 0 rfl TF.fld_26_0 ?_)
      obtain ⟨h54, hst, hS⟩ := hS
      refine Run.go rfl rfl rfl (sem_store1 A52 ((Value.slice a49 n50 c51)) h54 rfl rfl rfl TF.sz_24 hst ?_)
      refine Run.region_end ?_
      refine Run.ops0 (idx := [0, 1, 2]) rfl ?_
      refine Run.go rfl rfl rfl (sem_move ((Value.int .u64 (i33))) rfl ?_)
      obtain ⟨hi0, hS⟩ := hS
      refine Run.go rfl rfl rfl (sem_shr .u64 .u64 (i33) (7) rfl rfl hi0 ?_)
      refine Run.go rfl rfl rfl (sem_assign ((Value.int .u64 (Int.fdiv (i33) (2 ^ (min (Int.toNat (7)) (IntKind.bits .u64)))))) rfl ?_)
      refine Run.region_end ?_
      refine Run.inBlock ?_
      exact Run.of_fin (hS.imp fun h' ⟨m', hm, hS⟩ => ih37 ((Int.fdiv (i33) (2 ^ (min (Int.toNat (7)) (IntKind.bits .u64)))), m') _ _ ⟨hS, ⟨rfl, rfl, rfl, rfl, rfl, trivial⟩⟩ hm)
    · have hS := hF hb39; clear hT hF
      refine Run.go rfl rfl rfl (sem_binI .u64 (i33) (128) (.bool false) rfl rfl (binI_geq_f hb39) ?_)
      refine Run.region_end ?_
      refine Run.condF rfl ?_
      refine Run.exit rfl ?_
      exact Run.of_fin (hS.imp fun h' hS => j15 _ _ ⟨(i33), ⟨rfl, rfl, rfl, rfl, rfl, trivial⟩, hS⟩)
  · have hS := hF hb11; clear hT hF
    refine Run.go rfl rfl rfl (sem_binI .i64 (i5) ((n3 : Nat)) (.bool false) rfl rfl (binI_lss_f hb11) ?_)
    refine Run.region_end ?_
    refine Run.seq ?_
    refine Run.condF rfl ?_
    refine Run.exit rfl ?_
    refine Run.fall ⟨.inl rfl, ?_⟩
    exact hS.imp fun h' hq => ⟨rfl, hq⟩
set_option maxHeartbeats 4000000 in
theorem C_stylus_Of.of {B : RO} {s1 : ByteArray} {h : Heap} {Q : Option Addr → Heap → Prop} (hS : S_stylus_Of B s1 h Q) : C_stylus_Of B s1 h Q := by
  unfold S_stylus_Of at hS
  unfold C_stylus_Of
  refine Spec.of_run Try.func52 (N := 6) (rs := [ResultVar.tmp 2]) rfl rfl rfl (Nat.le_of_ble_eq_true rfl) ?_
  refine Run.seq ?_
  refine Run.ops0 (idx := [0]) rfl ?_
  refine Run.go rfl rfl rfl (sem_assign ((Value.pointer none)) rfl ?_)
  refine Run.region_end ?_
  refine Run.seq ?_
  refine Run.ops0 (idx := [0, 1, 2, 3]) rfl ?_
  refine Run.go rfl rfl rfl (sem_move ((Value.string s1)) rfl ?_)
  refine Run.go rfl rfl rfl (sem_buildSL [(0, (Value.string s1))] [(Value.string s1), (Value.bool false)] TF.zero_145 TF.places_145 rfl rfl ?_)
  refine Run.go rfl rfl rfl (sem_boxNN [(Value.string s1), (Value.bool false)] rfl (fun k3 hb1 hb2 h4 hb3 => ?_))
  have hS := hS k3 hb1 hb2 h4 hb3
  refine Run.go rfl rfl rfl (sem_assign ((Value.pointer (some ⟨k3, 0, none⟩))) rfl ?_)
  refine Run.region_end ?_
  refine Run.ret ⟨.inr rfl, ?_⟩
  exact hS.imp fun h' hq => ⟨(some ⟨k3, 0, none⟩), rfl, hq⟩
set_option maxHeartbeats 4000000 in
theorem C_stylus_Reader_Nat.of {B : RO} {p1 : Option Addr} {i2 : Int} {h : Heap} {Q : Int → Heap → Prop} (hS : S_stylus_Reader_Nat B p1 i2 h Q) : C_stylus_Reader_Nat B p1 i2 h Q := by
  unfold S_stylus_Reader_Nat at hS
  unfold C_stylus_Reader_Nat
  refine Spec.of_run Try.func53 (N := 20) (rs := [ResultVar.tmp 4]) rfl rfl rfl (Nat.le_of_ble_eq_true rfl) ?_
  refine Run.seq ?_
  refine Run.ops0 (idx := [0]) rfl ?_
  refine Run.go rfl rfl rfl (sem_assign ((Value.int .i64 (0))) rfl ?_)
  refine Run.region_end ?_
  refine Run.seq ?_
  refine Run.ops0 (idx := [0, 1, 2]) rfl ?_
  refine Run.go rfl rfl rfl (sem_move ((Value.pointer p1)) rfl ?_)
  refine Run.go rfl rfl rfl (sem_callL [(Value.pointer p1)] (TF.goes_77) rfl rfl (Spec.mono hS fun v h4 hv => ?_))
  obtain ⟨i5, rfl, hS⟩ := hv
  refine Run.go rfl rfl rfl (sem_assign ((Value.int .u64 (i5))) rfl ?_)
  refine Run.region_end ?_
  refine Run.seq ?_
  refine Run.seq ?_
  refine Run.ops0 (idx := [0, 1, 2, 3, 4, 5, 6, 7]) rfl ?_
  refine Run.go rfl rfl rfl (sem_move ((Value.int .i64 (i2))) rfl ?_)
  obtain ⟨hT, hF⟩ := hS
  by_cases hb6 : (i2 : Int) < (0)
  · have hS := hT hb6; clear hT hF
    refine Run.go rfl rfl rfl (sem_binI .i64 (i2) (0) (.bool true) rfl rfl (binI_lss_t hb6) ?_)
    refine Run.go rfl rfl rfl (sem_move ((Value.bool true)) rfl ?_)
    refine Run.no rfl rfl rfl ?_
    refine Run.no rfl rfl rfl ?_
    refine Run.no rfl rfl rfl ?_
    refine Run.no rfl rfl rfl ?_
    refine Run.go rfl rfl rfl (sem_pick true ((Value.bool true)) rfl rfl ?_)
    refine Run.region_end ?_
    refine Run.condT rfl ?_
    refine Run.seq ?_
    refine Run.ops0 (idx := [0, 1]) rfl ?_
    refine Run.go rfl rfl rfl (sem_move ((Value.pointer p1)) rfl ?_)
    refine Run.go rfl rfl rfl (sem_callL [(Value.pointer p1)] (TF.goes_78) rfl rfl (Spec.mono hS fun v h7 hv => ?_))
    obtain ⟨rfl, hS⟩ := hv
    refine Run.region_end ?_
    refine Run.seq ?_
    refine Run.ops0 (idx := [0]) rfl ?_
    refine Run.go rfl rfl rfl (sem_assign ((Value.int .i64 (0))) rfl ?_)
    refine Run.region_end ?_
    refine Run.ret ⟨.inr rfl, ?_⟩
    exact hS.imp fun h' hq => ⟨(0), rfl, hq⟩
  · have hS := hF hb6; clear hT hF
    refine Run.go rfl rfl rfl (sem_binI .i64 (i2) (0) (.bool false) rfl rfl (binI_lss_f hb6) ?_)
    refine Run.go rfl rfl rfl (sem_move ((Value.bool false)) rfl ?_)
    refine Run.go rfl rfl rfl (sem_move ((Value.int .u64 (i5))) rfl ?_)
    refine Run.go rfl rfl rfl (sem_move ((Value.int .i64 (i2))) rfl ?_)
    refine Run.go rfl rfl rfl (sem_convI .i64 .u64 (i2) rfl TF.int_3 TF.int_98 ?_)
    obtain ⟨hT, hF⟩ := hS
    by_cases hb8 : (i5 : Int) > (IntKind.wrap .u64 (i2))
    · have hS := hT hb8; clear hT hF
      refine Run.go rfl rfl rfl (sem_binI .u64 (i5) (IntKind.wrap .u64 (i2)) (.bool true) rfl rfl (binI_gtr_t hb8) ?_)
      refine Run.go rfl rfl rfl (sem_pick false ((Value.bool true)) rfl rfl ?_)
      refine Run.region_end ?_
      refine Run.condT rfl ?_
      refine Run.seq ?_
      refine Run.ops0 (idx := [0, 1]) rfl ?_
      refine Run.go rfl rfl rfl (sem_move ((Value.pointer p1)) rfl ?_)
      refine Run.go rfl rfl rfl (sem_callL [(Value.pointer p1)] (TF.goes_78) rfl rfl (Spec.mono hS fun v h9 hv => ?_))
      obtain ⟨rfl, hS⟩ := hv
      refine Run.region_end ?_
      refine Run.seq ?_
      refine Run.ops0 (idx := [0]) rfl ?_
      refine Run.go rfl rfl rfl (sem_assign ((Value.int .i64 (0))) rfl ?_)
      refine Run.region_end ?_
      refine Run.ret ⟨.inr rfl, ?_⟩
      exact hS.imp fun h' hq => ⟨(0), rfl, hq⟩
    · have hS := hF hb8; clear hT hF
      refine Run.go rfl rfl rfl (sem_binI .u64 (i5) (IntKind.wrap .u64 (i2)) (.bool false) rfl rfl (binI_gtr_f hb8) ?_)
      refine Run.go rfl rfl rfl (sem_pick false ((Value.bool false)) rfl rfl ?_)
      refine Run.region_end ?_
      refine Run.condF rfl ?_
      refine Run.skip ?_
      refine Run.seq ?_
      refine Run.ops0 (idx := [0, 1, 2]) rfl ?_
      refine Run.go rfl rfl rfl (sem_move ((Value.int .u64 (i5))) rfl ?_)
      refine Run.go rfl rfl rfl (sem_convI .u64 .i64 (i5) rfl TF.int_98 TF.int_3 ?_)
      refine Run.go rfl rfl rfl (sem_assign ((Value.int .i64 (IntKind.wrap .i64 (i5)))) rfl ?_)
      refine Run.region_end ?_
      refine Run.ret ⟨.inr rfl, ?_⟩
      exact hS.imp fun h' hq => ⟨(IntKind.wrap .i64 (i5)), rfl, hq⟩
set_option maxHeartbeats 4000000 in
theorem C_countermandref01_Taken.of {B : RO} {s1 : ByteArray} {h : Heap} {Q : Int → Int → Heap → Prop} (hS : S_countermandref01_Taken B s1 h Q) : C_countermandref01_Taken B s1 h Q := by
  unfold S_countermandref01_Taken at hS
  unfold C_countermandref01_Taken
  refine Spec.of_run Try.func54 (N := 44) (rs := [ResultVar.tmp 2, ResultVar.tmp 3]) rfl rfl rfl (Nat.le_of_ble_eq_true rfl) ?_
  refine Run.seq ?_
  refine Run.ops0 (idx := [0, 1]) rfl ?_
  refine Run.go rfl rfl rfl (sem_assign ((Value.int .u64 (0))) rfl ?_)
  refine Run.go rfl rfl rfl (sem_assign ((Value.int .i64 (0))) rfl ?_)
  refine Run.region_end ?_
  refine Run.seq ?_
  refine Run.seq ?_
  refine Run.ops0 (idx := [0]) rfl ?_
  refine Run.go rfl rfl rfl (sem_assign ((Value.int .i64 (1))) rfl ?_)
  refine Run.region_end ?_
  refine Run.block ?_
  obtain ⟨J9, m7, h0, hS⟩ := hS
  refine Run.of_fin (h0.imp fun h' h0 => ?_)
  refine Run.loop (σ := Int × Nat) (fun x e h => J9 x.1 x.2 h ∧ Agree [(0, (Value.string s1)), (4, (Value.int .i64 (x.1)))] e) (fun x => x.2) ((1), m7) ⟨h0, ⟨rfl, rfl, trivial⟩⟩ ?_; clear h0
  rintro ⟨i4, m6⟩ e h5 ⟨hJ, hag⟩ ih8
  have hS := hS i4 m6 h5 hJ; clear hJ
  refine Run.env hag ?_; clear hag
  refine Run.seqJ (fun e h11 => Agree [(0, (Value.string s1)), (4, (Value.int .i64 (i4)))] e ∧ S_countermandref01_Taken_J1 B s1 i4 m6 J9 h11 Q) ?_ fun j10 => ?_
  · rintro e h11 ⟨hag, hS⟩
    refine Run.env hag ?_; clear hag
    refine Run.seq ?_
    refine Run.block ?_
    refine Run.seq ?_
    refine Run.seq ?_
    refine Run.ops0 (idx := [0, 1, 2, 3, 4]) rfl ?_
    refine Run.go rfl rfl rfl (sem_move ((Value.string s1)) rfl ?_)
    refine Run.go rfl rfl rfl (sem_move ((Value.int .i64 (i4))) rfl ?_)
    refine Run.go rfl rfl rfl (sem_binI .i64 (i4) (1) ((Value.int .i64 (IntKind.wrap .i64 ((i4) - (1))))) rfl rfl rfl ?_)
    obtain ⟨hi0, hi1, hS⟩ := hS
    refine Run.go rfl rfl rfl (sem_indexStr' s1 .i64 (IntKind.wrap .i64 ((i4) - (1))) rfl rfl TF.isStr_9 hi0 hi1 ?_)
    obtain ⟨hT, hF⟩ := hS
    by_cases hb12 : (byteAt s1 (Int.toNat (IntKind.wrap .i64 ((i4) - (1)))) : Int) > (127)
    · have hS := hT hb12; clear hT hF
      refine Run.go rfl rfl rfl (sem_binI .u8 (byteAt s1 (Int.toNat (IntKind.wrap .i64 ((i4) - (1))))) (127) (.bool true) rfl rfl (binI_gtr_t hb12) ?_)
      refine Run.region_end ?_
      refine Run.condT rfl ?_
      refine Run.exit rfl ?_
      refine Run.ops0 (idx := [0, 1, 2]) rfl ?_
      refine Run.go rfl rfl rfl (sem_move ((Value.int .i64 (i4))) rfl ?_)
      refine Run.go rfl rfl rfl (sem_binI .i64 (i4) (1) ((Value.int .i64 (IntKind.wrap .i64 ((i4) + (1))))) rfl rfl rfl ?_)
      refine Run.go rfl rfl rfl (sem_assign ((Value.int .i64 (IntKind.wrap .i64 ((i4) + (1))))) rfl ?_)
      refine Run.region_end ?_
      exact Run.of_fin (hS.imp fun h' ⟨m', hm, hS⟩ => ih8 ((IntKind.wrap .i64 ((i4) + (1))), m') _ _ ⟨hS, ⟨rfl, rfl, trivial⟩⟩ hm)
    · have hS := hF hb12; clear hT hF
      refine Run.go rfl rfl rfl (sem_binI .u8 (byteAt s1 (Int.toNat (IntKind.wrap .i64 ((i4) - (1))))) (127) (.bool false) rfl rfl (binI_gtr_f hb12) ?_)
      refine Run.region_end ?_
      refine Run.condF rfl ?_
      refine Run.skip ?_
      refine Run.seq ?_
      refine Run.ops0 (idx := [0]) rfl ?_
      refine Run.go rfl rfl rfl (sem_assign ((Value.int .u64 (0))) rfl ?_)
      refine Run.region_end ?_
      refine Run.seqJ (fun e h15 => ∃ i14 : Int, Agree [(0, (Value.string s1)), (4, (Value.int .i64 (i4))), (5, (Value.int .u64 (i14)))] e ∧ S_countermandref01_Taken_J2 B s1 i4 i14 h15 Q) ?_ fun j13 => ?_
      · rintro e h15 ⟨i14, hag, hS⟩
        refine Run.env hag ?_; clear hag
        refine Run.seq ?_
        refine Run.seq ?_
        skip
        skip
        skip
        obtain ⟨hi0, hi1, hi2, hS⟩ := hS
        have f20 := hi0; have f21 := hi1; have f22 := hi2
        refine Run.draw (fun h' => True) [] [.q 0, .q 2, .q 3, .q 4, .x 1, .q 5] TF.mixed (by kernel_rfl) trivial ?_
        refine RunO.quiet rfl rfl rfl (fun h' hC => sem_move ((Value.int .u64 (i14))) rfl ⟨rfl, rfl⟩) ?_
        refine RunO.quiet rfl rfl rfl (fun h' hC => sem_move ((Value.string s1)) rfl ⟨rfl, rfl⟩) ?_
        refine RunO.quiet rfl rfl rfl (fun h' hC => sem_move ((Value.int .i64 (i4))) rfl ⟨rfl, rfl⟩) ?_
        refine RunO.quiet rfl rfl rfl (fun h' hC => sem_sliceStrI s1 (0) (i4) rfl TF.isStr_9 rfl ⟨_, rfl⟩ f20 f21 f22 ⟨rfl, rfl⟩) ?_
        refine OpH.go rfl rfl rfl (sem_callL [(Value.int .u64 (i14))] (TF.goes_79) rfl rfl (Spec.mono hS fun v h23 hv => ?_))
        obtain ⟨s24, rfl, hS⟩ := hv
        refine ⟨fun _ => trivial, ?_⟩
        obtain ⟨hT, hF⟩ := hS
        by_cases hb25 : s24 = (ByteArray.extract s1 (Int.toNat (0)) (Int.toNat (i4)))
        · have hS := hT hb25; clear hT hF
          refine RunO.quiet rfl rfl rfl (fun h' hC => sem_strNeT s24 (ByteArray.extract s1 (Int.toNat (0)) (Int.toNat (i4))) rfl rfl hb25 ⟨rfl, rfl⟩) ?_
          refine Run.condF rfl ?_
          refine Run.skip ?_
          refine Run.seq ?_
          refine Run.ops0 (idx := [0, 1, 2, 3]) rfl ?_
          refine Run.go rfl rfl rfl (sem_move ((Value.int .u64 (i14))) rfl ?_)
          refine Run.go rfl rfl rfl (sem_move ((Value.int .i64 (i4))) rfl ?_)
          refine Run.go rfl rfl rfl (sem_assign ((Value.int .u64 (i14))) rfl ?_)
          refine Run.go rfl rfl rfl (sem_assign ((Value.int .i64 (i4))) rfl ?_)
          refine Run.region_end ?_
          refine Run.ret ⟨.inr rfl, ?_⟩
          exact hS.imp fun h' hq => ⟨(i14), (i4), rfl, hq⟩
        · have hS := hF hb25; clear hT hF
          refine RunO.quiet rfl rfl rfl (fun h' hC => sem_strNeF s24 (ByteArray.extract s1 (Int.toNat (0)) (Int.toNat (i4))) rfl rfl hb25 ⟨rfl, rfl⟩) ?_
          refine Run.condT rfl ?_
          refine Run.seq ?_
          refine Run.ops0 (idx := [0, 1]) rfl ?_
          refine Run.go rfl rfl rfl (sem_assign ((Value.int .u64 (0))) rfl ?_)
          refine Run.go rfl rfl rfl (sem_assign ((Value.int .i64 (0))) rfl ?_)
          refine Run.region_end ?_
          refine Run.ret ⟨.inr rfl, ?_⟩
          exact hS.imp fun h' hq => ⟨(0), (0), rfl, hq⟩
      refine Run.seq ?_
      refine Run.ops0 (idx := [0, 1, 2]) rfl ?_
      refine Run.go rfl rfl rfl (sem_move ((Value.int .i64 (i4))) rfl ?_)
      refine Run.go rfl rfl rfl (sem_binI .i64 (i4) (1) ((Value.int .i64 (IntKind.wrap .i64 ((i4) - (1))))) rfl rfl rfl ?_)
      refine Run.go rfl rfl rfl (sem_assign ((Value.int .i64 (IntKind.wrap .i64 ((i4) - (1))))) rfl ?_)
      refine Run.region_end ?_
      refine Run.block ?_
      obtain ⟨J32, m30, h0, hS⟩ := hS
      refine Run.of_fin (h0.imp fun h' h0 => ?_)
      refine Run.loop (σ := Int × Int × Nat) (fun x e h => J32 x.1 x.2.1 x.2.2 h ∧ Agree [(0, (Value.string s1)), (4, (Value.int .i64 (i4))), (5, (Value.int .u64 (x.1))), (6, (Value.int .i64 (x.2.1)))] e) (fun x => x.2.2) ((0), (IntKind.wrap .i64 ((i4) - (1))), m30) ⟨h0, ⟨rfl, rfl, rfl, rfl, trivial⟩⟩ ?_; clear h0
      rintro ⟨i26, i27, m29⟩ e h28 ⟨hJ, hag⟩ ih31
      have hS := hS i26 i27 m29 h28 hJ; clear hJ
      refine Run.env hag ?_; clear hag
      refine Run.seq ?_
      refine Run.seq ?_
      refine Run.ops0 (idx := [0, 1]) rfl ?_
      refine Run.go rfl rfl rfl (sem_move ((Value.int .i64 (i27))) rfl ?_)
      obtain ⟨hT, hF⟩ := hS
      by_cases hb33 : (i27 : Int) ≥ (0)
      · have hS := hT hb33; clear hT hF
        refine Run.go rfl rfl rfl (sem_binI .i64 (i27) (0) (.bool true) rfl rfl (binI_geq_t hb33) ?_)
        refine Run.region_end ?_
        refine Run.condT rfl ?_
        refine Run.skip ?_
        refine Run.seq ?_
        refine Run.block ?_
        refine Run.ops0 (idx := [0, 1, 2, 3, 4, 5, 6, 7, 8]) rfl ?_
        refine Run.go rfl rfl rfl (sem_move ((Value.int .u64 (i26))) rfl ?_)
        refine Run.go rfl rfl rfl (sem_binI .u64 (i26) (128) ((Value.int .u64 (IntKind.wrap .u64 ((i26) * (128))))) rfl rfl rfl ?_)
        refine Run.go rfl rfl rfl (sem_move ((Value.string s1)) rfl ?_)
        refine Run.go rfl rfl rfl (sem_move ((Value.int .i64 (i27))) rfl ?_)
        obtain ⟨hi0, hi1, hS⟩ := hS
        refine Run.go rfl rfl rfl (sem_indexStr' s1 .i64 (i27) rfl rfl TF.isStr_9 hi0 hi1 ?_)
        refine Run.go rfl rfl rfl (sem_convI .u8 .u64 (byteAt s1 (Int.toNat (i27))) rfl TF.int_5 TF.int_98 ?_)
        obtain ⟨hi0, hS⟩ := hS
        refine Run.go rfl rfl rfl (sem_binI .u64 (IntKind.wrap .u64 (byteAt s1 (Int.toNat (i27)))) (128) ((Value.int .u64 (Int.tmod (IntKind.wrap .u64 (byteAt s1 (Int.toNat (i27)))) (128)))) rfl rfl (binI_rem hi0) ?_)
        refine Run.go rfl rfl rfl (sem_binI .u64 (IntKind.wrap .u64 ((i26) * (128))) (Int.tmod (IntKind.wrap .u64 (byteAt s1 (Int.toNat (i27)))) (128)) ((Value.int .u64 (IntKind.wrap .u64 ((IntKind.wrap .u64 ((i26) * (128))) + (Int.tmod (IntKind.wrap .u64 (byteAt s1 (Int.toNat (i27)))) (128)))))) rfl rfl rfl ?_)
        refine Run.go rfl rfl rfl (sem_assign ((Value.int .u64 (IntKind.wrap .u64 ((IntKind.wrap .u64 ((i26) * (128))) + (Int.tmod (IntKind.wrap .u64 (byteAt s1 (Int.toNat (i27)))) (128)))))) rfl ?_)
        refine Run.region_end ?_
        refine Run.inBlock ?_
        refine Run.ops0 (idx := [0, 1, 2]) rfl ?_
        refine Run.go rfl rfl rfl (sem_move ((Value.int .i64 (i27))) rfl ?_)
        refine Run.go rfl rfl rfl (sem_binI .i64 (i27) (1) ((Value.int .i64 (IntKind.wrap .i64 ((i27) - (1))))) rfl rfl rfl ?_)
        refine Run.go rfl rfl rfl (sem_assign ((Value.int .i64 (IntKind.wrap .i64 ((i27) - (1))))) rfl ?_)
        refine Run.region_end ?_
        exact Run.of_fin (hS.imp fun h' ⟨m', hm, hS⟩ => ih31 ((IntKind.wrap .u64 ((IntKind.wrap .u64 ((i26) * (128))) + (Int.tmod (IntKind.wrap .u64 (byteAt s1 (Int.toNat (i27)))) (128)))), (IntKind.wrap .i64 ((i27) - (1))), m') _ _ ⟨hS, ⟨rfl, rfl, rfl, rfl, trivial⟩⟩ hm)
      · have hS := hF hb33; clear hT hF
        refine Run.go rfl rfl rfl (sem_binI .i64 (i27) (0) (.bool false) rfl rfl (binI_geq_f hb33) ?_)
        refine Run.region_end ?_
        refine Run.condF rfl ?_
        refine Run.exit rfl ?_
        exact Run.of_fin (hS.imp fun h' hS => j13 _ _ ⟨(i26), ⟨rfl, rfl, rfl, trivial⟩, hS⟩)
  refine Run.seq ?_
  refine Run.ops0 (idx := [0, 1, 2, 3, 4, 5, 6, 7]) rfl ?_
  refine Run.go rfl rfl rfl (sem_move ((Value.int .i64 (i4))) rfl ?_)
  obtain ⟨hT, hF⟩ := hS
  by_cases hb34 : (i4 : Int) ≤ (10)
  · have hS := hT hb34; clear hT hF
    refine Run.go rfl rfl rfl (sem_binI .i64 (i4) (10) (.bool true) rfl rfl (binI_leq_t hb34) ?_)
    refine Run.go rfl rfl rfl (sem_move ((Value.bool true)) rfl ?_)
    refine Run.go rfl rfl rfl (sem_move ((Value.int .i64 (i4))) rfl ?_)
    refine Run.go rfl rfl rfl (sem_move ((Value.string s1)) rfl ?_)
    refine Run.go rfl rfl rfl (sem_lenStr s1 rfl TF.isStr_9 ?_)
    obtain ⟨hT, hF⟩ := hS
    by_cases hb35 : (i4 : Int) ≤ ((ByteArray.size s1 : Nat))
    · have hS := hT hb35; clear hT hF
      refine Run.go rfl rfl rfl (sem_binI .i64 (i4) ((ByteArray.size s1 : Nat)) (.bool true) rfl rfl (binI_leq_t hb35) ?_)
      refine Run.go rfl rfl rfl (sem_pick true ((Value.bool true)) rfl rfl ?_)
      refine Run.region_end ?_
      refine Run.condT rfl ?_
      refine Run.skip ?_
      exact Run.of_fin (hS.imp fun h' hS => j10 _ _ ⟨⟨rfl, rfl, trivial⟩, hS⟩)
    · have hS := hF hb35; clear hT hF
      refine Run.go rfl rfl rfl (sem_binI .i64 (i4) ((ByteArray.size s1 : Nat)) (.bool false) rfl rfl (binI_leq_f hb35) ?_)
      refine Run.go rfl rfl rfl (sem_pick true ((Value.bool false)) rfl rfl ?_)
      refine Run.region_end ?_
      refine Run.condF rfl ?_
      refine Run.exit rfl ?_
      refine Run.seq ?_
      refine Run.ops0 (idx := [0, 1]) rfl ?_
      refine Run.go rfl rfl rfl (sem_assign ((Value.int .u64 (0))) rfl ?_)
      refine Run.go rfl rfl rfl (sem_assign ((Value.int .i64 (0))) rfl ?_)
      refine Run.region_end ?_
      refine Run.ret ⟨.inr rfl, ?_⟩
      exact hS.imp fun h' hq => ⟨(0), (0), rfl, hq⟩
  · have hS := hF hb34; clear hT hF
    refine Run.go rfl rfl rfl (sem_binI .i64 (i4) (10) (.bool false) rfl rfl (binI_leq_f hb34) ?_)
    refine Run.go rfl rfl rfl (sem_move ((Value.bool false)) rfl ?_)
    refine Run.no rfl rfl rfl ?_
    refine Run.no rfl rfl rfl ?_
    refine Run.no rfl rfl rfl ?_
    refine Run.no rfl rfl rfl ?_
    refine Run.go rfl rfl rfl (sem_pick false ((Value.bool false)) rfl rfl ?_)
    refine Run.region_end ?_
    refine Run.condF rfl ?_
    refine Run.exit rfl ?_
    refine Run.seq ?_
    refine Run.ops0 (idx := [0, 1]) rfl ?_
    refine Run.go rfl rfl rfl (sem_assign ((Value.int .u64 (0))) rfl ?_)
    refine Run.go rfl rfl rfl (sem_assign ((Value.int .i64 (0))) rfl ?_)
    refine Run.region_end ?_
    refine Run.ret ⟨.inr rfl, ?_⟩
    exact hS.imp fun h' hq => ⟨(0), (0), rfl, hq⟩
set_option maxHeartbeats 4000000 in
theorem C_stylus_Reader_Bad.of {B : RO} {p1 : Option Addr} {h : Heap} {Q : Bool → Heap → Prop} (hS : S_stylus_Reader_Bad B p1 h Q) : C_stylus_Reader_Bad B p1 h Q := by
  unfold S_stylus_Reader_Bad at hS
  unfold C_stylus_Reader_Bad
  refine Spec.of_run Try.func55 (N := 11) (rs := [ResultVar.tmp 2]) rfl rfl rfl (Nat.le_of_ble_eq_true rfl) ?_
  refine Run.seq ?_
  refine Run.ops0 (idx := [0]) rfl ?_
  refine Run.go rfl rfl rfl (sem_assign ((Value.bool false)) rfl ?_)
  refine Run.region_end ?_
  refine Run.seq ?_
  refine Run.ops0 (idx := [0, 1, 2, 3, 4, 5, 6, 7, 8]) rfl ?_
  refine Run.go rfl rfl rfl (sem_move ((Value.pointer p1)) rfl ?_)
  obtain ⟨hT, hF⟩ := hS
  by_cases hb3 : p1 = none
  · have hS := hT hb3; clear hT hF
    refine Run.go rfl rfl rfl (sem_ptrNilT p1 (.inl rfl) true rfl rfl TF.ptr_96 hb3 rfl ?_)
    refine Run.go rfl rfl rfl (sem_move ((Value.bool true)) rfl ?_)
    refine Run.no rfl rfl rfl ?_
    refine Run.no rfl rfl rfl ?_
    refine Run.no rfl rfl rfl ?_
    refine Run.no rfl rfl rfl ?_
    refine Run.go rfl rfl rfl (sem_pick true ((Value.bool true)) rfl rfl ?_)
    refine Run.go rfl rfl rfl (sem_assign ((Value.bool true)) rfl ?_)
    refine Run.region_end ?_
    refine Run.ret ⟨.inr rfl, ?_⟩
    exact hS.imp fun h' hq => ⟨(true), rfl, hq⟩
  · have hS := hF hb3; clear hT hF
    refine Run.go rfl rfl rfl (sem_ptrNilF p1 (.inl rfl) false rfl rfl TF.ptr_96 hb3 rfl ?_)
    refine Run.go rfl rfl rfl (sem_move ((Value.bool false)) rfl ?_)
    refine Run.go rfl rfl rfl (sem_move ((Value.pointer p1)) rfl ?_)
    obtain ⟨A4, e5, hS⟩ := hS
    refine Run.go rfl rfl rfl (sem_nilCheck A4 (congrArg Value.pointer e5) ?_)
    refine Run.go rfl rfl rfl (sem_fieldAddr A4 1 rfl TF.fld_145_1 ?_)
    obtain ⟨b6, hl, hS⟩ := hS
    refine Run.go rfl rfl rfl (sem_load1 (Addr.add A4 1) ((Value.bool b6)) rfl TF.agg_4 hl ?_)
    refine Run.go rfl rfl rfl (sem_pick false ((Value.bool b6)) rfl rfl ?_)
    refine Run.go rfl rfl rfl (sem_assign ((Value.bool b6)) rfl ?_)
    refine Run.region_end ?_
    refine Run.ret ⟨.inr rfl, ?_⟩
    exact hS.imp fun h' hq => ⟨(b6), rfl, hq⟩
set_option maxHeartbeats 4000000 in
theorem C_stylus_Reader_Left.of {B : RO} {p1 : Option Addr} {h : Heap} {Q : Int → Heap → Prop} (hS : S_stylus_Reader_Left B p1 h Q) : C_stylus_Reader_Left B p1 h Q := by
  unfold S_stylus_Reader_Left at hS
  unfold C_stylus_Reader_Left
  refine Spec.of_run Try.func56 (N := 10) (rs := [ResultVar.tmp 2]) rfl rfl rfl (Nat.le_of_ble_eq_true rfl) ?_
  refine Run.seq ?_
  refine Run.ops0 (idx := [0]) rfl ?_
  refine Run.go rfl rfl rfl (sem_assign ((Value.int .i64 (0))) rfl ?_)
  refine Run.region_end ?_
  refine Run.seq ?_
  refine Run.seq ?_
  refine Run.ops0 (idx := [0, 1]) rfl ?_
  refine Run.go rfl rfl rfl (sem_move ((Value.pointer p1)) rfl ?_)
  obtain ⟨hT, hF⟩ := hS
  by_cases hb3 : p1 = none
  · have hS := hT hb3; clear hT hF
    refine Run.go rfl rfl rfl (sem_ptrNilT p1 (.inl rfl) true rfl rfl TF.ptr_96 hb3 rfl ?_)
    refine Run.region_end ?_
    refine Run.condT rfl ?_
    refine Run.seq ?_
    refine Run.ops0 (idx := [0]) rfl ?_
    refine Run.go rfl rfl rfl (sem_assign ((Value.int .i64 (0))) rfl ?_)
    refine Run.region_end ?_
    refine Run.ret ⟨.inr rfl, ?_⟩
    exact hS.imp fun h' hq => ⟨(0), rfl, hq⟩
  · have hS := hF hb3; clear hT hF
    refine Run.go rfl rfl rfl (sem_ptrNilF p1 (.inl rfl) false rfl rfl TF.ptr_96 hb3 rfl ?_)
    refine Run.region_end ?_
    refine Run.condF rfl ?_
    refine Run.skip ?_
    refine Run.seq ?_
    refine Run.ops0 (idx := [0, 1, 2, 3, 4, 5]) rfl ?_
    refine Run.go rfl rfl rfl (sem_move ((Value.pointer p1)) rfl ?_)
    obtain ⟨A4, e5, hS⟩ := hS
    refine Run.go rfl rfl rfl (sem_nilCheck A4 (congrArg Value.pointer e5) ?_)
    refine Run.go rfl rfl rfl (sem_fieldAddr A4 0 rfl TF.fld_145_0 ?_)
    obtain ⟨s6, hl, hS⟩ := hS
    refine Run.go rfl rfl rfl (sem_load1 A4 ((Value.string s6)) rfl TF.agg_9 hl ?_)
    refine Run.go rfl rfl rfl (sem_lenStr s6 rfl TF.isStr_9 ?_)
    refine Run.go rfl rfl rfl (sem_assign ((Value.int .i64 ((ByteArray.size s6 : Nat)))) rfl ?_)
    refine Run.region_end ?_
    refine Run.ret ⟨.inr rfl, ?_⟩
    exact hS.imp fun h' hq => ⟨((ByteArray.size s6 : Nat)), rfl, hq⟩
set_option maxHeartbeats 4000000 in
theorem C_stylus_Reader_Over.of {B : RO} {p1 : Option Addr} {h : Heap} {Q : Bool → Heap → Prop} (hS : S_stylus_Reader_Over B p1 h Q) : C_stylus_Reader_Over B p1 h Q := by
  unfold S_stylus_Reader_Over at hS
  unfold C_stylus_Reader_Over
  refine Spec.of_run Try.func62 (N := 19) (rs := [ResultVar.tmp 2]) rfl rfl rfl (Nat.le_of_ble_eq_true rfl) ?_
  refine Run.seq ?_
  refine Run.ops0 (idx := [0]) rfl ?_
  refine Run.go rfl rfl rfl (sem_assign ((Value.bool false)) rfl ?_)
  refine Run.region_end ?_
  refine Run.seq ?_
  refine Run.ops0 (idx := [0, 1, 2, 3, 4, 5, 6, 7, 8, 9, 10, 11, 12, 13, 14, 15, 16]) rfl ?_
  refine Run.go rfl rfl rfl (sem_move ((Value.pointer p1)) rfl ?_)
  obtain ⟨hT, hF⟩ := hS
  by_cases hb3 : p1 = none
  · have hS := hT hb3; clear hT hF
    refine Run.go rfl rfl rfl (sem_ptrNilT p1 (.inr rfl) false rfl rfl TF.ptr_96 hb3 rfl ?_)
    refine Run.go rfl rfl rfl (sem_move ((Value.bool false)) rfl ?_)
    refine Run.no rfl rfl rfl ?_
    refine Run.no rfl rfl rfl ?_
    refine Run.no rfl rfl rfl ?_
    refine Run.no rfl rfl rfl ?_
    refine Run.no rfl rfl rfl ?_
    refine Run.go rfl rfl rfl (sem_pick false ((Value.bool false)) rfl rfl ?_)
    refine Run.go rfl rfl rfl (sem_move ((Value.bool false)) rfl ?_)
    refine Run.no rfl rfl rfl ?_
    refine Run.no rfl rfl rfl ?_
    refine Run.no rfl rfl rfl ?_
    refine Run.no rfl rfl rfl ?_
    refine Run.no rfl rfl rfl ?_
    refine Run.go rfl rfl rfl (sem_pick false ((Value.bool false)) rfl rfl ?_)
    refine Run.go rfl rfl rfl (sem_assign ((Value.bool false)) rfl ?_)
    refine Run.region_end ?_
    refine Run.ret ⟨.inr rfl, ?_⟩
    exact hS.imp fun h' hq => ⟨(false), rfl, hq⟩
  · have hS := hF hb3; clear hT hF
    refine Run.go rfl rfl rfl (sem_ptrNilF p1 (.inr rfl) true rfl rfl TF.ptr_96 hb3 rfl ?_)
    refine Run.go rfl rfl rfl (sem_move ((Value.bool true)) rfl ?_)
    refine Run.go rfl rfl rfl (sem_move ((Value.pointer p1)) rfl ?_)
    obtain ⟨A4, e5, hS⟩ := hS
    refine Run.go rfl rfl rfl (sem_nilCheck A4 (congrArg Value.pointer e5) ?_)
    refine Run.go rfl rfl rfl (sem_fieldAddr A4 1 rfl TF.fld_145_1 ?_)
    obtain ⟨b6, hl, hS⟩ := hS
    obtain ⟨hT, hF⟩ := hS
    cases b6
    · have hS := hF rfl; clear hT hF
      refine Run.go rfl rfl rfl (sem_load1 (Addr.add A4 1) (.bool false) rfl TF.agg_4 hl ?_)
      refine Run.go rfl rfl rfl (sem_not false rfl ?_)
      refine Run.go rfl rfl rfl (sem_pick true ((Value.bool true)) rfl rfl ?_)
      refine Run.go rfl rfl rfl (sem_move ((Value.bool true)) rfl ?_)
      refine Run.go rfl rfl rfl (sem_move ((Value.pointer p1)) rfl ?_)
      obtain ⟨A7, e8, hS⟩ := hS
      refine Run.go rfl rfl rfl (sem_nilCheck A7 (congrArg Value.pointer e8) ?_)
      refine Run.go rfl rfl rfl (sem_fieldAddr A7 0 rfl TF.fld_145_0 ?_)
      obtain ⟨s9, hl, hS⟩ := hS
      refine Run.go rfl rfl rfl (sem_load1 A7 ((Value.string s9)) rfl TF.agg_9 hl ?_)
      refine Run.go rfl rfl rfl (sem_strEq s9 (ByteArray.mk #[]) rfl rfl ?_)
      refine Run.go rfl rfl rfl (sem_pick true ((Value.bool (decide (s9 = (ByteArray.mk #[]))))) rfl rfl ?_)
      refine Run.go rfl rfl rfl (sem_assign ((Value.bool (decide (s9 = (ByteArray.mk #[]))))) rfl ?_)
      refine Run.region_end ?_
      refine Run.ret ⟨.inr rfl, ?_⟩
      exact hS.imp fun h' hq => ⟨((decide (s9 = (ByteArray.mk #[])))), rfl, hq⟩
    · have hS := hT rfl; clear hT hF
      refine Run.go rfl rfl rfl (sem_load1 (Addr.add A4 1) (.bool true) rfl TF.agg_4 hl ?_)
      refine Run.go rfl rfl rfl (sem_not true rfl ?_)
      refine Run.go rfl rfl rfl (sem_pick true ((Value.bool false)) rfl rfl ?_)
      refine Run.go rfl rfl rfl (sem_move ((Value.bool false)) rfl ?_)
      refine Run.no rfl rfl rfl ?_
      refine Run.no rfl rfl rfl ?_
      refine Run.no rfl rfl rfl ?_
      refine Run.no rfl rfl rfl ?_
      refine Run.no rfl rfl rfl ?_
      refine Run.go rfl rfl rfl (sem_pick false ((Value.bool false)) rfl rfl ?_)
      refine Run.go rfl rfl rfl (sem_assign ((Value.bool false)) rfl ?_)
      refine Run.region_end ?_
      refine Run.ret ⟨.inr rfl, ?_⟩
      exact hS.imp fun h' hq => ⟨(false), rfl, hq⟩
set_option maxHeartbeats 4000000 in
theorem C_countermandref01_Nat.of {B : RO} {i1 : Int} {h : Heap} {Q : ByteArray → Heap → Prop} (hS : S_countermandref01_Nat B i1 h Q) : C_countermandref01_Nat B i1 h Q := by
  unfold S_countermandref01_Nat at hS
  unfold C_countermandref01_Nat
  refine Spec.of_run Try.func63 (N := 8) (rs := [ResultVar.tmp 2]) rfl rfl rfl (Nat.le_of_ble_eq_true rfl) ?_
  refine Run.seq ?_
  refine Run.ops0 (idx := [0]) rfl ?_
  refine Run.go rfl rfl rfl (sem_assign ((Value.string (ByteArray.mk #[]))) rfl ?_)
  refine Run.region_end ?_
  refine Run.seq ?_
  refine Run.seq ?_
  refine Run.ops0 (idx := [0, 1]) rfl ?_
  refine Run.go rfl rfl rfl (sem_move ((Value.int .i64 (i1))) rfl ?_)
  obtain ⟨hT, hF⟩ := hS
  by_cases hb3 : (i1 : Int) < (0)
  · have hS := hT hb3; clear hT hF
    refine Run.go rfl rfl rfl (sem_binI .i64 (i1) (0) (.bool true) rfl rfl (binI_lss_t hb3) ?_)
    refine Run.region_end ?_
    refine Run.condT rfl ?_
    refine Run.seq ?_
    refine Run.ops0 (idx := [0]) rfl ?_
    refine Run.go rfl rfl rfl (sem_assign ((Value.string (ByteArray.mk #[]))) rfl ?_)
    refine Run.region_end ?_
    refine Run.ret ⟨.inr rfl, ?_⟩
    exact hS.imp fun h' hq => ⟨(ByteArray.mk #[]), rfl, hq⟩
  · have hS := hF hb3; clear hT hF
    refine Run.go rfl rfl rfl (sem_binI .i64 (i1) (0) (.bool false) rfl rfl (binI_lss_f hb3) ?_)
    refine Run.region_end ?_
    refine Run.condF rfl ?_
    refine Run.skip ?_
    refine Run.seq ?_
    refine Run.ops0 (idx := [0, 1, 2, 3]) rfl ?_
    refine Run.go rfl rfl rfl (sem_move ((Value.int .i64 (i1))) rfl ?_)
    refine Run.go rfl rfl rfl (sem_convI .i64 .u64 (i1) rfl TF.int_3 TF.int_98 ?_)
    refine Run.go rfl rfl rfl (sem_callL [(Value.int .u64 (IntKind.wrap .u64 (i1)))] (TF.goes_79) rfl rfl (Spec.mono hS fun v h4 hv => ?_))
    obtain ⟨s5, rfl, hS⟩ := hv
    refine Run.go rfl rfl rfl (sem_assign ((Value.string s5)) rfl ?_)
    refine Run.region_end ?_
    refine Run.ret ⟨.inr rfl, ?_⟩
    exact hS.imp fun h' hq => ⟨s5, rfl, hq⟩
set_option maxHeartbeats 4000000 in
theorem C_countermandref01_Int.of {B : RO} {i1 : Int} {h : Heap} {Q : ByteArray → Heap → Prop} (hS : S_countermandref01_Int B i1 h Q) : C_countermandref01_Int B i1 h Q := by
  unfold S_countermandref01_Int at hS
  unfold C_countermandref01_Int
  refine Spec.of_run Try.func64 (N := 16) (rs := [ResultVar.tmp 2]) rfl rfl rfl (Nat.le_of_ble_eq_true rfl) ?_
  refine Run.seq ?_
  refine Run.ops0 (idx := [0]) rfl ?_
  refine Run.go rfl rfl rfl (sem_assign ((Value.string (ByteArray.mk #[]))) rfl ?_)
  refine Run.region_end ?_
  refine Run.seq ?_
  refine Run.seq ?_
  refine Run.ops0 (idx := [0, 1]) rfl ?_
  refine Run.go rfl rfl rfl (sem_move ((Value.int .i64 (i1))) rfl ?_)
  obtain ⟨hT, hF⟩ := hS
  by_cases hb3 : (i1 : Int) < (0)
  · have hS := hT hb3; clear hT hF
    refine Run.go rfl rfl rfl (sem_binI .i64 (i1) (0) (.bool true) rfl rfl (binI_lss_t hb3) ?_)
    refine Run.region_end ?_
    refine Run.condT rfl ?_
    refine Run.seq ?_
    refine Run.ops0 (idx := [0, 1, 2, 3, 4, 5, 6, 7]) rfl ?_
    refine Run.go rfl rfl rfl (sem_move ((Value.int .i64 (i1))) rfl ?_)
    refine Run.go rfl rfl rfl (sem_binI .i64 (i1) (1) ((Value.int .i64 (IntKind.wrap .i64 ((i1) + (1))))) rfl rfl rfl ?_)
    refine Run.go rfl rfl rfl (sem_neg .i64 (IntKind.wrap .i64 ((i1) + (1))) rfl ?_)
    refine Run.go rfl rfl rfl (sem_convI .i64 .u64 (IntKind.wrap .i64 (0 - (IntKind.wrap .i64 ((i1) + (1))))) rfl TF.int_3 TF.int_98 ?_)
    refine Run.go rfl rfl rfl (sem_binI .u64 (2) (IntKind.wrap .u64 (IntKind.wrap .i64 (0 - (IntKind.wrap .i64 ((i1) + (1)))))) ((Value.int .u64 (IntKind.wrap .u64 ((2) * (IntKind.wrap .u64 (IntKind.wrap .i64 (0 - (IntKind.wrap .i64 ((i1) + (1)))))))))) rfl rfl rfl ?_)
    refine Run.go rfl rfl rfl (sem_binI .u64 (IntKind.wrap .u64 ((2) * (IntKind.wrap .u64 (IntKind.wrap .i64 (0 - (IntKind.wrap .i64 ((i1) + (1)))))))) (1) ((Value.int .u64 (IntKind.wrap .u64 ((IntKind.wrap .u64 ((2) * (IntKind.wrap .u64 (IntKind.wrap .i64 (0 - (IntKind.wrap .i64 ((i1) + (1)))))))) + (1))))) rfl rfl rfl ?_)
    refine Run.go rfl rfl rfl (sem_callL [(Value.int .u64 (IntKind.wrap .u64 ((IntKind.wrap .u64 ((2) * (IntKind.wrap .u64 (IntKind.wrap .i64 (0 - (IntKind.wrap .i64 ((i1) + (1)))))))) + (1))))] (TF.goes_79) rfl rfl (Spec.mono hS fun v h4 hv => ?_))
    obtain ⟨s5, rfl, hS⟩ := hv
    refine Run.go rfl rfl rfl (sem_assign ((Value.string s5)) rfl ?_)
    refine Run.region_end ?_
    refine Run.ret ⟨.inr rfl, ?_⟩
    exact hS.imp fun h' hq => ⟨s5, rfl, hq⟩
  · have hS := hF hb3; clear hT hF
    refine Run.go rfl rfl rfl (sem_binI .i64 (i1) (0) (.bool false) rfl rfl (binI_lss_f hb3) ?_)
    refine Run.region_end ?_
    refine Run.condF rfl ?_
    refine Run.skip ?_
    refine Run.seq ?_
    refine Run.ops0 (idx := [0, 1, 2, 3, 4]) rfl ?_
    refine Run.go rfl rfl rfl (sem_move ((Value.int .i64 (i1))) rfl ?_)
    refine Run.go rfl rfl rfl (sem_convI .i64 .u64 (i1) rfl TF.int_3 TF.int_98 ?_)
    refine Run.go rfl rfl rfl (sem_binI .u64 (2) (IntKind.wrap .u64 (i1)) ((Value.int .u64 (IntKind.wrap .u64 ((2) * (IntKind.wrap .u64 (i1)))))) rfl rfl rfl ?_)
    refine Run.go rfl rfl rfl (sem_callL [(Value.int .u64 (IntKind.wrap .u64 ((2) * (IntKind.wrap .u64 (i1)))))] (TF.goes_79) rfl rfl (Spec.mono hS fun v h6 hv => ?_))
    obtain ⟨s7, rfl, hS⟩ := hv
    refine Run.go rfl rfl rfl (sem_assign ((Value.string s7)) rfl ?_)
    refine Run.region_end ?_
    refine Run.ret ⟨.inr rfl, ?_⟩
    exact hS.imp fun h' hq => ⟨s7, rfl, hq⟩
set_option maxHeartbeats 4000000 in
theorem C_stylus_Stylus_Raw.of {B : RO} {p1 : Option Addr} {s2 : ByteArray} {h : Heap} {Q : Heap → Prop} (hS : S_stylus_Stylus_Raw B p1 s2 h Q) : C_stylus_Stylus_Raw B p1 s2 h Q := by
  unfold S_stylus_Stylus_Raw at hS
  unfold C_stylus_Stylus_Raw
  refine Spec.of_run Try.func65 (N := 13) (rs := []) rfl rfl rfl (Nat.le_of_ble_eq_true rfl) ?_
  refine Run.ops0 (idx := [0, 1, 2, 3, 4, 5, 6, 7, 8, 9]) rfl ?_
  refine Run.go rfl rfl rfl (sem_move ((Value.pointer p1)) rfl ?_)
  refine Run.go rfl rfl rfl (sem_move ((Value.pointer p1)) rfl ?_)
  obtain ⟨A3, e4, hS⟩ := hS
  refine Run.go rfl rfl rfl (sem_nilCheck A3 (congrArg Value.pointer e4) ?_)
  refine Run.go rfl rfl rfl (sem_fieldAddr A3 0 rfl TF.fld_26_0 ?_)
  refine Run.ldSl hS fun a5 n6 c7 h8 hl hS => ?_
  refine Run.go rfl rfl rfl (sem_load1 A3 ((Value.slice a5 n6 c7)) rfl TF.agg_24 hl ?_)
  refine Run.go rfl rfl rfl (sem_move ((Value.string s2)) rfl ?_)
  refine Run.go rfl rfl rfl (sem_appendL [(Value.slice a5 n6 c7), (Value.string s2)] rfl (semH_mono (fun v h9 hv => ?_) hS))
  obtain ⟨a10, n11, c12, rfl, hS⟩ := hv
  obtain ⟨A13, e14, hS⟩ := hS
  refine Run.go rfl rfl rfl (sem_nilCheck A13 (congrArg Value.pointer e14) ?_)
  refine Run.go rfl rfl rfl (sem_fieldAddr A13 0 rfl TF.fld_26_0 ?_)
  obtain ⟨h15, hst, hS⟩ := hS
  refine Run.go rfl rfl rfl (sem_store1 A13 ((Value.slice a10 n11 c12)) h15 rfl rfl rfl TF.sz_24 hst ?_)
  refine Run.region_end ?_
  refine Run.fall ⟨.inl rfl, ?_⟩
  exact hS.imp fun h' hq => ⟨rfl, hq⟩
set_option maxHeartbeats 4000000 in
theorem C_stylus_Stylus_Text.of {B : RO} {p1 : Option Addr} {a2 : Option Addr} {n3 : Nat} {c4 : Nat} {h : Heap} {Q : Heap → Prop} (hS : S_stylus_Stylus_Text B p1 a2 n3 c4 h Q) : C_stylus_Stylus_Text B p1 a2 n3 c4 h Q := by
  unfold S_stylus_Stylus_Text at hS
  unfold C_stylus_Stylus_Text
  refine Spec.of_run Try.func66 (N := 21) (rs := []) rfl rfl rfl (Nat.le_of_ble_eq_true rfl) ?_
  refine Run.seq ?_
  refine Run.ops0 (idx := [0, 1, 2]) rfl ?_
  refine Run.go rfl rfl rfl (sem_move ((Value.slice a2 n3 c4)) rfl ?_)
  refine Run.go rfl rfl rfl (sem_lenSl a2 n3 c4 rfl TF.sl_94 ?_)
  refine Run.go rfl rfl rfl (sem_move ((Value.int .i64 (0))) rfl ?_)
  refine Run.region_end ?_
  refine Run.block ?_
  obtain ⟨J10, m8, h0, hS⟩ := hS
  refine Run.of_fin (h0.imp fun h' h0 => ?_)
  refine Run.loop (σ := Int × Nat) (fun x e h => J10 x.1 x.2 h ∧ Agree [(0, (Value.pointer p1)), (6, (Value.slice a2 n3 c4)), (7, (Value.int .i64 ((n3 : Nat)))), (8, (Value.int .i64 (x.1)))] e) (fun x => x.2) ((0), m8) ⟨h0, ⟨rfl, rfl, rfl, rfl, trivial⟩⟩ ?_; clear h0
  rintro ⟨i5, m7⟩ e h6 ⟨hJ, hag⟩ ih9
  have hS := hS i5 m7 h6 hJ; clear hJ
  refine Run.env hag ?_; clear hag
  refine Run.seq ?_
  refine Run.ops0 (idx := [0]) rfl ?_
  obtain ⟨hT, hF⟩ := hS
  by_cases hb11 : (i5 : Int) < ((n3 : Nat))
  · have hS := hT hb11; clear hT hF
    refine Run.go rfl rfl rfl (sem_binI .i64 (i5) ((n3 : Nat)) (.bool true) rfl rfl (binI_lss_t hb11) ?_)
    refine Run.region_end ?_
    refine Run.seq ?_
    refine Run.condT rfl ?_
    refine Run.skip ?_
    refine Run.seq ?_
    refine Run.block ?_
    refine Run.seq ?_
    refine Run.ops0 (idx := [0, 1, 2]) rfl ?_
    obtain ⟨A12, e13, hi0, hi1, hS⟩ := hS
    refine Run.go rfl rfl rfl (sem_indexAddrS A12 n3 c4 .i64 (i5) (congrArg (fun a => Value.slice a n3 c4) e13) rfl TF.slc_94 hi0 hi1 ?_)
    obtain ⟨s14, hl, hS⟩ := hS
    refine Run.go rfl rfl rfl (sem_load1 (Addr.add A12 (Int.toNat (i5) * 1)) ((Value.string s14)) rfl TF.agg_9 hl ?_)
    refine Run.go rfl rfl rfl (sem_assign ((Value.string s14)) rfl ?_)
    refine Run.region_end ?_
    refine Run.seq ?_
    refine Run.ops0 (idx := [0, 1, 2, 3, 4]) rfl ?_
    refine Run.go rfl rfl rfl (sem_move ((Value.pointer p1)) rfl ?_)
    refine Run.go rfl rfl rfl (sem_move ((Value.string s14)) rfl ?_)
    refine Run.go rfl rfl rfl (sem_lenStr s14 rfl TF.isStr_9 ?_)
    refine Run.go rfl rfl rfl (sem_buildSliceL [(0, (Value.int .i64 ((ByteArray.size s14 : Nat))))] [(Value.int .i64 ((ByteArray.size s14 : Nat)))] TF.slc_65 TF.zero_3 rfl (by decide) (by decide) rfl rfl (fun k15 hb1 hb2 h16 hb3 => ?_))
    have hS := hS k15 hb1 hb2 h16 hb3
    refine Run.go rfl rfl rfl (sem_callL [(Value.pointer p1), (Value.slice (some ⟨k15, 0, none⟩) 1 1)] (TF.goes_16) rfl rfl (Spec.mono hS fun v h17 hv => ?_))
    obtain ⟨rfl, hS⟩ := hv
    refine Run.region_end ?_
    refine Run.ops0 (idx := [0, 1, 2]) rfl ?_
    refine Run.go rfl rfl rfl (sem_move ((Value.pointer p1)) rfl ?_)
    refine Run.go rfl rfl rfl (sem_move ((Value.string s14)) rfl ?_)
    refine Run.go rfl rfl rfl (sem_callL [(Value.pointer p1), (Value.string s14)] (TF.goes_65) rfl rfl (Spec.mono hS fun v h18 hv => ?_))
    obtain ⟨rfl, hS⟩ := hv
    refine Run.region_end ?_
    refine Run.inBlock ?_
    refine Run.ops0 (idx := [0, 1]) rfl ?_
    refine Run.go rfl rfl rfl (sem_binI .i64 (i5) (1) ((Value.int .i64 (IntKind.wrap .i64 ((i5) + (1))))) rfl rfl rfl ?_)
    refine Run.go rfl rfl rfl (sem_move ((Value.int .i64 (IntKind.wrap .i64 ((i5) + (1))))) rfl ?_)
    refine Run.region_end ?_
    exact Run.of_fin (hS.imp fun h' ⟨m', hm, hS⟩ => ih9 ((IntKind.wrap .i64 ((i5) + (1))), m') _ _ ⟨hS, ⟨rfl, rfl, rfl, rfl, trivial⟩⟩ hm)
  · have hS := hF hb11; clear hT hF
    refine Run.go rfl rfl rfl (sem_binI .i64 (i5) ((n3 : Nat)) (.bool false) rfl rfl (binI_lss_f hb11) ?_)
    refine Run.region_end ?_
    refine Run.seq ?_
    refine Run.condF rfl ?_
    refine Run.exit rfl ?_
    refine Run.fall ⟨.inl rfl, ?_⟩
    exact hS.imp fun h' hq => ⟨rfl, hq⟩
set_option maxHeartbeats 4000000 in
theorem C_countermandref01_Text.of {B : RO} {s1 : ByteArray} {h : Heap} {Q : ByteArray → Heap → Prop} (hS : S_countermandref01_Text B s1 h Q) : C_countermandref01_Text B s1 h Q := by
  unfold S_countermandref01_Text at hS
  unfold C_countermandref01_Text
  refine Spec.of_run Try.func67 (N := 8) (rs := [ResultVar.tmp 2]) rfl rfl rfl (Nat.le_of_ble_eq_true rfl) ?_
  refine Run.seq ?_
  refine Run.ops0 (idx := [0]) rfl ?_
  refine Run.go rfl rfl rfl (sem_assign ((Value.string (ByteArray.mk #[]))) rfl ?_)
  refine Run.region_end ?_
  refine Run.seq ?_
  refine Run.ops0 (idx := [0, 1, 2, 3, 4, 5]) rfl ?_
  refine Run.go rfl rfl rfl (sem_move ((Value.string s1)) rfl ?_)
  refine Run.go rfl rfl rfl (sem_lenStr s1 rfl TF.isStr_9 ?_)
  refine Run.go rfl rfl rfl (sem_callL [(Value.int .i64 ((ByteArray.size s1 : Nat)))] (TF.goes_63) rfl rfl (Spec.mono hS fun v h3 hv => ?_))
  obtain ⟨s4, rfl, hS⟩ := hv
  refine Run.go rfl rfl rfl (sem_move ((Value.string s1)) rfl ?_)
  obtain ⟨hi0, hS⟩ := hS
  refine Run.go rfl rfl rfl (sem_strAdd s4 s1 rfl rfl hi0 ?_)
  refine Run.go rfl rfl rfl (sem_assign ((Value.string (s4 ++ s1))) rfl ?_)
  refine Run.region_end ?_
  refine Run.ret ⟨.inr rfl, ?_⟩
  exact hS.imp fun h' hq => ⟨(s4 ++ s1), rfl, hq⟩
set_option maxHeartbeats 4000000 in
theorem C_stylus_Reader_word.of {B : RO} {p1 : Option Addr} {h : Heap} {Q : Int → Heap → Prop} (hS : S_stylus_Reader_word B p1 h Q) : C_stylus_Reader_word B p1 h Q := by
  unfold S_stylus_Reader_word at hS
  unfold C_stylus_Reader_word
  refine Spec.of_run Try.func77 (N := 46) (rs := [ResultVar.tmp 2]) rfl rfl rfl (Nat.le_of_ble_eq_true rfl) ?_
  refine Run.seq ?_
  refine Run.ops0 (idx := [0]) rfl ?_
  refine Run.go rfl rfl rfl (sem_assign ((Value.int .u64 (0))) rfl ?_)
  refine Run.region_end ?_
  refine Run.seq ?_
  refine Run.ops0 (idx := [0]) rfl ?_
  refine Run.go rfl rfl rfl (sem_assign ((Value.int .u64 (0))) rfl ?_)
  refine Run.region_end ?_
  refine Run.seq ?_
  refine Run.seq ?_
  refine Run.ops0 (idx := [0]) rfl ?_
  refine Run.go rfl rfl rfl (sem_assign ((Value.int .i64 (0))) rfl ?_)
  refine Run.region_end ?_
  refine Run.block ?_
  obtain ⟨J9, m7, h0, hS⟩ := hS
  refine Run.of_fin (h0.imp fun h' h0 => ?_)
  refine Run.loop (σ := Int × Int × Nat) (fun x e h => J9 x.1 x.2.1 x.2.2 h ∧ Agree [(0, (Value.pointer p1)), (3, (Value.int .u64 (x.1))), (4, (Value.int .i64 (x.2.1)))] e) (fun x => x.2.2) ((0), (0), m7) ⟨h0, ⟨rfl, rfl, rfl, trivial⟩⟩ ?_; clear h0
  rintro ⟨i3, i4, m6⟩ e h5 ⟨hJ, hag⟩ ih8
  have hS := hS i3 i4 m6 h5 hJ; clear hJ
  refine Run.env hag ?_; clear hag
  refine Run.seq ?_
  refine Run.seq ?_
  refine Run.ops0 (idx := [0, 1]) rfl ?_
  refine Run.go rfl rfl rfl (sem_move ((Value.int .i64 (i4))) rfl ?_)
  obtain ⟨hT, hF⟩ := hS
  by_cases hb10 : (i4 : Int) < (64)
  · have hS := hT hb10; clear hT hF
    refine Run.go rfl rfl rfl (sem_binI .i64 (i4) (64) (.bool true) rfl rfl (binI_lss_t hb10) ?_)
    refine Run.region_end ?_
    refine Run.condT rfl ?_
    refine Run.skip ?_
    refine Run.seq ?_
    refine Run.block ?_
    refine Run.seq ?_
    refine Run.ops0 (idx := [0, 1, 2]) rfl ?_
    refine Run.go rfl rfl rfl (sem_move ((Value.pointer p1)) rfl ?_)
    refine Run.go rfl rfl rfl (sem_callL [(Value.pointer p1), (Value.int .i64 (1))] (TF.goes_84) rfl rfl (Spec.mono hS fun v h11 hv => ?_))
    obtain ⟨s12, rfl, hS⟩ := hv
    refine Run.go rfl rfl rfl (sem_assign ((Value.string s12)) rfl ?_)
    refine Run.region_end ?_
    refine Run.seqJ (fun e h14 => Agree [(0, (Value.pointer p1)), (3, (Value.int .u64 (i3))), (4, (Value.int .i64 (i4))), (5, (Value.string s12))] e ∧ S_stylus_Reader_word_J1 B p1 i3 i4 m6 J9 s12 h14 Q) ?_ fun j13 => ?_
    · rintro e h14 ⟨hag, hS⟩
      refine Run.env hag ?_; clear hag
      refine Run.seq ?_
      refine Run.ops0 (idx := [0, 1, 2, 3, 4, 5, 6, 7, 8]) rfl ?_
      refine Run.go rfl rfl rfl (sem_move ((Value.int .u64 (i3))) rfl ?_)
      refine Run.go rfl rfl rfl (sem_move ((Value.string s12)) rfl ?_)
      obtain ⟨hi0, hi1, hS⟩ := hS
      refine Run.go rfl rfl rfl (sem_indexStr' s12 .i64 (0) rfl rfl TF.isStr_9 hi0 hi1 ?_)
      refine Run.go rfl rfl rfl (sem_binI .u8 (byteAt s12 (Int.toNat (0))) (127) ((Value.int .u8 (IntKind.wrap .u8 ((BitVec.ofInt (IntKind.bits .u8) (byteAt s12 (Int.toNat (0))) &&& BitVec.ofInt (IntKind.bits .u8) (127)).toNat : Int)))) rfl rfl rfl ?_)
      refine Run.go rfl rfl rfl (sem_convI .u8 .u64 (IntKind.wrap .u8 ((BitVec.ofInt (IntKind.bits .u8) (byteAt s12 (Int.toNat (0))) &&& BitVec.ofInt (IntKind.bits .u8) (127)).toNat : Int)) rfl TF.int_5 TF.int_98 ?_)
      refine Run.go rfl rfl rfl (sem_move ((Value.int .i64 (i4))) rfl ?_)
      obtain ⟨hi0, hS⟩ := hS
      refine Run.go rfl rfl rfl (sem_shl .u64 .i64 (IntKind.wrap .u64 (IntKind.wrap .u8 ((BitVec.ofInt (IntKind.bits .u8) (byteAt s12 (Int.toNat (0))) &&& BitVec.ofInt (IntKind.bits .u8) (127)).toNat : Int))) (i4) rfl rfl hi0 ?_)
      refine Run.go rfl rfl rfl (sem_binI .u64 (i3) (IntKind.wrap .u64 ((IntKind.wrap .u64 (IntKind.wrap .u8 ((BitVec.ofInt (IntKind.bits .u8) (byteAt s12 (Int.toNat (0))) &&& BitVec.ofInt (IntKind.bits .u8) (127)).toNat : Int))) * 2 ^ (min (Int.toNat (i4)) (IntKind.bits .u64)))) ((Value.int .u64 (IntKind.wrap .u64 ((BitVec.ofInt (IntKind.bits .u64) (i3) ||| BitVec.ofInt (IntKind.bits .u64) (IntKind.wrap .u64 ((IntKind.wrap .u64 (IntKind.wrap .u8 ((BitVec.ofInt (IntKind.bits .u8) (byteAt s12 (Int.toNat (0))) &&& BitVec.ofInt (IntKind.bits .u8) (127)).toNat : Int))) * 2 ^ (min (Int.toNat (i4)) (IntKind.bits .u64))))).toNat : Int)))) rfl rfl rfl ?_)
      refine Run.go rfl rfl rfl (sem_assign ((Value.int .u64 (IntKind.wrap .u64 ((BitVec.ofInt (IntKind.bits .u64) (i3) ||| BitVec.ofInt (IntKind.bits .u64) (IntKind.wrap .u64 ((IntKind.wrap .u64 (IntKind.wrap .u8 ((BitVec.ofInt (IntKind.bits .u8) (byteAt s12 (Int.toNat (0))) &&& BitVec.ofInt (IntKind.bits .u8) (127)).toNat : Int))) * 2 ^ (min (Int.toNat (i4)) (IntKind.bits .u64))))).toNat : Int)))) rfl ?_)
      refine Run.region_end ?_
      refine Run.seq ?_
      refine Run.ops0 (idx := [0, 1, 2]) rfl ?_
      refine Run.go rfl rfl rfl (sem_move ((Value.string s12)) rfl ?_)
      obtain ⟨hi0, hi1, hS⟩ := hS
      refine Run.go rfl rfl rfl (sem_indexStr' s12 .i64 (0) rfl rfl TF.isStr_9 hi0 hi1 ?_)
      obtain ⟨hT, hF⟩ := hS
      by_cases hb15 : (byteAt s12 (Int.toNat (0)) : Int) < (128)
      · have hS := hT hb15; clear hT hF
        refine Run.go rfl rfl rfl (sem_binI .u8 (byteAt s12 (Int.toNat (0))) (128) (.bool true) rfl rfl (binI_lss_t hb15) ?_)
        refine Run.region_end ?_
        refine Run.condT rfl ?_
        refine Run.seq ?_
        refine Run.ops0 (idx := [0, 1]) rfl ?_
        refine Run.go rfl rfl rfl (sem_move ((Value.int .u64 (IntKind.wrap .u64 ((BitVec.ofInt (IntKind.bits .u64) (i3) ||| BitVec.ofInt (IntKind.bits .u64) (IntKind.wrap .u64 ((IntKind.wrap .u64 (IntKind.wrap .u8 ((BitVec.ofInt (IntKind.bits .u8) (byteAt s12 (Int.toNat (0))) &&& BitVec.ofInt (IntKind.bits .u8) (127)).toNat : Int))) * 2 ^ (min (Int.toNat (i4)) (IntKind.bits .u64))))).toNat : Int)))) rfl ?_)
        refine Run.go rfl rfl rfl (sem_assign ((Value.int .u64 (IntKind.wrap .u64 ((BitVec.ofInt (IntKind.bits .u64) (i3) ||| BitVec.ofInt (IntKind.bits .u64) (IntKind.wrap .u64 ((IntKind.wrap .u64 (IntKind.wrap .u8 ((BitVec.ofInt (IntKind.bits .u8) (byteAt s12 (Int.toNat (0))) &&& BitVec.ofInt (IntKind.bits .u8) (127)).toNat : Int))) * 2 ^ (min (Int.toNat (i4)) (IntKind.bits .u64))))).toNat : Int)))) rfl ?_)
        refine Run.region_end ?_
        refine Run.ret ⟨.inr rfl, ?_⟩
        exact hS.imp fun h' hq => ⟨(IntKind.wrap .u64 ((BitVec.ofInt (IntKind.bits .u64) (i3) ||| BitVec.ofInt (IntKind.bits .u64) (IntKind.wrap .u64 ((IntKind.wrap .u64 (IntKind.wrap .u8 ((BitVec.ofInt (IntKind.bits .u8) (byteAt s12 (Int.toNat (0))) &&& BitVec.ofInt (IntKind.bits .u8) (127)).toNat : Int))) * 2 ^ (min (Int.toNat (i4)) (IntKind.bits .u64))))).toNat : Int)), rfl, hq⟩
      · have hS := hF hb15; clear hT hF
        refine Run.go rfl rfl rfl (sem_binI .u8 (byteAt s12 (Int.toNat (0))) (128) (.bool false) rfl rfl (binI_lss_f hb15) ?_)
        refine Run.region_end ?_
        refine Run.condF rfl ?_
        refine Run.skip ?_
        refine Run.inBlock ?_
        refine Run.ops0 (idx := [0, 1, 2]) rfl ?_
        refine Run.go rfl rfl rfl (sem_move ((Value.int .i64 (i4))) rfl ?_)
        refine Run.go rfl rfl rfl (sem_binI .i64 (i4) (7) ((Value.int .i64 (IntKind.wrap .i64 ((i4) + (7))))) rfl rfl rfl ?_)
        refine Run.go rfl rfl rfl (sem_assign ((Value.int .i64 (IntKind.wrap .i64 ((i4) + (7))))) rfl ?_)
        refine Run.region_end ?_
        exact Run.of_fin (hS.imp fun h' ⟨m', hm, hS⟩ => ih8 ((IntKind.wrap .u64 ((BitVec.ofInt (IntKind.bits .u64) (i3) ||| BitVec.ofInt (IntKind.bits .u64) (IntKind.wrap .u64 ((IntKind.wrap .u64 (IntKind.wrap .u8 ((BitVec.ofInt (IntKind.bits .u8) (byteAt s12 (Int.toNat (0))) &&& BitVec.ofInt (IntKind.bits .u8) (127)).toNat : Int))) * 2 ^ (min (Int.toNat (i4)) (IntKind.bits .u64))))).toNat : Int)), (IntKind.wrap .i64 ((i4) + (7))), m') _ _ ⟨hS, ⟨rfl, rfl, rfl, trivial⟩⟩ hm)
    refine Run.seq ?_
    refine Run.ops0 (idx := [0, 1, 2, 3, 4, 5, 6, 7, 8, 9, 10, 11, 12, 13, 14, 15, 16, 17, 18, 19]) rfl ?_
    refine Run.go rfl rfl rfl (sem_move ((Value.string s12)) rfl ?_)
    obtain ⟨hT, hF⟩ := hS
    by_cases hb16 : s12 = (ByteArray.mk #[])
    · have hS := hT hb16; clear hT hF
      refine Run.go rfl rfl rfl (sem_strEqT s12 (ByteArray.mk #[]) rfl rfl hb16 ?_)
      refine Run.go rfl rfl rfl (sem_move ((Value.bool true)) rfl ?_)
      refine Run.no rfl rfl rfl ?_
      refine Run.no rfl rfl rfl ?_
      refine Run.no rfl rfl rfl ?_
      refine Run.no rfl rfl rfl ?_
      refine Run.no rfl rfl rfl ?_
      refine Run.no rfl rfl rfl ?_
      refine Run.no rfl rfl rfl ?_
      refine Run.go rfl rfl rfl (sem_pick true ((Value.bool true)) rfl rfl ?_)
      refine Run.go rfl rfl rfl (sem_move ((Value.bool true)) rfl ?_)
      refine Run.no rfl rfl rfl ?_
      refine Run.no rfl rfl rfl ?_
      refine Run.no rfl rfl rfl ?_
      refine Run.no rfl rfl rfl ?_
      refine Run.no rfl rfl rfl ?_
      refine Run.no rfl rfl rfl ?_
      refine Run.no rfl rfl rfl ?_
      refine Run.go rfl rfl rfl (sem_pick true ((Value.bool true)) rfl rfl ?_)
      refine Run.region_end ?_
      refine Run.condT rfl ?_
      refine Run.exit rfl ?_
      refine Run.seq ?_
      refine Run.ops0 (idx := [0, 1]) rfl ?_
      refine Run.go rfl rfl rfl (sem_move ((Value.pointer p1)) rfl ?_)
      refine Run.go rfl rfl rfl (sem_callL [(Value.pointer p1)] (TF.goes_78) rfl rfl (Spec.mono hS fun v h17 hv => ?_))
      obtain ⟨rfl, hS⟩ := hv
      refine Run.region_end ?_
      refine Run.seq ?_
      refine Run.ops0 (idx := [0]) rfl ?_
      refine Run.go rfl rfl rfl (sem_assign ((Value.int .u64 (0))) rfl ?_)
      refine Run.region_end ?_
      refine Run.ret ⟨.inr rfl, ?_⟩
      exact hS.imp fun h' hq => ⟨(0), rfl, hq⟩
    · have hS := hF hb16; clear hT hF
      refine Run.go rfl rfl rfl (sem_strEqF s12 (ByteArray.mk #[]) rfl rfl hb16 ?_)
      refine Run.go rfl rfl rfl (sem_move ((Value.bool false)) rfl ?_)
      refine Run.go rfl rfl rfl (sem_move ((Value.int .i64 (i4))) rfl ?_)
      obtain ⟨hT, hF⟩ := hS
      by_cases hb18 : (i4 : Int) = 63
      · have hS := hT hb18; clear hT hF
        refine Run.go rfl rfl rfl (sem_binI .i64 (i4) (63) (.bool true) rfl rfl (binI_eql_t hb18) ?_)
        refine Run.go rfl rfl rfl (sem_move ((Value.bool true)) rfl ?_)
        refine Run.go rfl rfl rfl (sem_move ((Value.string s12)) rfl ?_)
        obtain ⟨hi0, hi1, hS⟩ := hS
        refine Run.go rfl rfl rfl (sem_indexStr' s12 .i64 (0) rfl rfl TF.isStr_9 hi0 hi1 ?_)
        obtain ⟨hT, hF⟩ := hS
        by_cases hb19 : (byteAt s12 (Int.toNat (0)) : Int) > (1)
        · have hS := hT hb19; clear hT hF
          refine Run.go rfl rfl rfl (sem_binI .u8 (byteAt s12 (Int.toNat (0))) (1) (.bool true) rfl rfl (binI_gtr_t hb19) ?_)
          refine Run.go rfl rfl rfl (sem_pick true ((Value.bool true)) rfl rfl ?_)
          refine Run.go rfl rfl rfl (sem_pick false ((Value.bool true)) rfl rfl ?_)
          refine Run.go rfl rfl rfl (sem_move ((Value.bool true)) rfl ?_)
          refine Run.no rfl rfl rfl ?_
          refine Run.no rfl rfl rfl ?_
          refine Run.no rfl rfl rfl ?_
          refine Run.no rfl rfl rfl ?_
          refine Run.no rfl rfl rfl ?_
          refine Run.no rfl rfl rfl ?_
          refine Run.no rfl rfl rfl ?_
          refine Run.go rfl rfl rfl (sem_pick true ((Value.bool true)) rfl rfl ?_)
          refine Run.region_end ?_
          refine Run.condT rfl ?_
          refine Run.exit rfl ?_
          refine Run.seq ?_
          refine Run.ops0 (idx := [0, 1]) rfl ?_
          refine Run.go rfl rfl rfl (sem_move ((Value.pointer p1)) rfl ?_)
          refine Run.go rfl rfl rfl (sem_callL [(Value.pointer p1)] (TF.goes_78) rfl rfl (Spec.mono hS fun v h20 hv => ?_))
          obtain ⟨rfl, hS⟩ := hv
          refine Run.region_end ?_
          refine Run.seq ?_
          refine Run.ops0 (idx := [0]) rfl ?_
          refine Run.go rfl rfl rfl (sem_assign ((Value.int .u64 (0))) rfl ?_)
          refine Run.region_end ?_
          refine Run.ret ⟨.inr rfl, ?_⟩
          exact hS.imp fun h' hq => ⟨(0), rfl, hq⟩
        · have hS := hF hb19; clear hT hF
          refine Run.go rfl rfl rfl (sem_binI .u8 (byteAt s12 (Int.toNat (0))) (1) (.bool false) rfl rfl (binI_gtr_f hb19) ?_)
          refine Run.go rfl rfl rfl (sem_pick true ((Value.bool false)) rfl rfl ?_)
          refine Run.go rfl rfl rfl (sem_pick false ((Value.bool false)) rfl rfl ?_)
          refine Run.go rfl rfl rfl (sem_move ((Value.bool false)) rfl ?_)
          refine Run.go rfl rfl rfl (sem_move ((Value.int .i64 (i4))) rfl ?_)
          obtain ⟨hT, hF⟩ := hS
          by_cases hb21 : (i4 : Int) > (0)
          · have hS := hT hb21; clear hT hF
            refine Run.go rfl rfl rfl (sem_binI .i64 (i4) (0) (.bool true) rfl rfl (binI_gtr_t hb21) ?_)
            refine Run.go rfl rfl rfl (sem_move ((Value.bool true)) rfl ?_)
            refine Run.go rfl rfl rfl (sem_move ((Value.string s12)) rfl ?_)
            obtain ⟨hi0, hi1, hS⟩ := hS
            refine Run.go rfl rfl rfl (sem_indexStr' s12 .i64 (0) rfl rfl TF.isStr_9 hi0 hi1 ?_)
            obtain ⟨hT, hF⟩ := hS
            by_cases hb22 : (byteAt s12 (Int.toNat (0)) : Int) = 0
            · have hS := hT hb22; clear hT hF
              refine Run.go rfl rfl rfl (sem_binI .u8 (byteAt s12 (Int.toNat (0))) (0) (.bool true) rfl rfl (binI_eql_t hb22) ?_)
              refine Run.go rfl rfl rfl (sem_pick true ((Value.bool true)) rfl rfl ?_)
              refine Run.go rfl rfl rfl (sem_pick false ((Value.bool true)) rfl rfl ?_)
              refine Run.region_end ?_
              refine Run.condT rfl ?_
              refine Run.exit rfl ?_
              refine Run.seq ?_
              refine Run.ops0 (idx := [0, 1]) rfl ?_
              refine Run.go rfl rfl rfl (sem_move ((Value.pointer p1)) rfl ?_)
              refine Run.go rfl rfl rfl (sem_callL [(Value.pointer p1)] (TF.goes_78) rfl rfl (Spec.mono hS fun v h23 hv => ?_))
              obtain ⟨rfl, hS⟩ := hv
              refine Run.region_end ?_
              refine Run.seq ?_
              refine Run.ops0 (idx := [0]) rfl ?_
              refine Run.go rfl rfl rfl (sem_assign ((Value.int .u64 (0))) rfl ?_)
              refine Run.region_end ?_
              refine Run.ret ⟨.inr rfl, ?_⟩
              exact hS.imp fun h' hq => ⟨(0), rfl, hq⟩
            · have hS := hF hb22; clear hT hF
              refine Run.go rfl rfl rfl (sem_binI .u8 (byteAt s12 (Int.toNat (0))) (0) (.bool false) rfl rfl (binI_eql_f hb22) ?_)
              refine Run.go rfl rfl rfl (sem_pick true ((Value.bool false)) rfl rfl ?_)
              refine Run.go rfl rfl rfl (sem_pick false ((Value.bool false)) rfl rfl ?_)
              refine Run.region_end ?_
              refine Run.condF rfl ?_
              refine Run.skip ?_
              exact Run.of_fin (hS.imp fun h' hS => j13 _ _ ⟨⟨rfl, rfl, rfl, rfl, trivial⟩, hS⟩)
          · have hS := hF hb21; clear hT hF
            refine Run.go rfl rfl rfl (sem_binI .i64 (i4) (0) (.bool false) rfl rfl (binI_gtr_f hb21) ?_)
            refine Run.go rfl rfl rfl (sem_move ((Value.bool false)) rfl ?_)
            refine Run.no rfl rfl rfl ?_
            refine Run.no rfl rfl rfl ?_
            refine Run.no rfl rfl rfl ?_
            refine Run.go rfl rfl rfl (sem_pick false ((Value.bool false)) rfl rfl ?_)
            refine Run.go rfl rfl rfl (sem_pick false ((Value.bool false)) rfl rfl ?_)
            refine Run.region_end ?_
            refine Run.condF rfl ?_
            refine Run.skip ?_
            exact Run.of_fin (hS.imp fun h' hS => j13 _ _ ⟨⟨rfl, rfl, rfl, rfl, trivial⟩, hS⟩)
      · have hS := hF hb18; clear hT hF
        refine Run.go rfl rfl rfl (sem_binI .i64 (i4) (63) (.bool false) rfl rfl (binI_eql_f hb18) ?_)
        refine Run.go rfl rfl rfl (sem_move ((Value.bool false)) rfl ?_)
        refine Run.no rfl rfl rfl ?_
        refine Run.no rfl rfl rfl ?_
        refine Run.no rfl rfl rfl ?_
        refine Run.go rfl rfl rfl (sem_pick false ((Value.bool false)) rfl rfl ?_)
        refine Run.go rfl rfl rfl (sem_pick false ((Value.bool false)) rfl rfl ?_)
        refine Run.go rfl rfl rfl (sem_move ((Value.bool false)) rfl ?_)
        refine Run.go rfl rfl rfl (sem_move ((Value.int .i64 (i4))) rfl ?_)
        obtain ⟨hT, hF⟩ := hS
        by_cases hb24 : (i4 : Int) > (0)
        · have hS := hT hb24; clear hT hF
          refine Run.go rfl rfl rfl (sem_binI .i64 (i4) (0) (.bool true) rfl rfl (binI_gtr_t hb24) ?_)
          refine Run.go rfl rfl rfl (sem_move ((Value.bool true)) rfl ?_)
          refine Run.go rfl rfl rfl (sem_move ((Value.string s12)) rfl ?_)
          obtain ⟨hi0, hi1, hS⟩ := hS
          refine Run.go rfl rfl rfl (sem_indexStr' s12 .i64 (0) rfl rfl TF.isStr_9 hi0 hi1 ?_)
          obtain ⟨hT, hF⟩ := hS
          by_cases hb25 : (byteAt s12 (Int.toNat (0)) : Int) = 0
          · have hS := hT hb25; clear hT hF
            refine Run.go rfl rfl rfl (sem_binI .u8 (byteAt s12 (Int.toNat (0))) (0) (.bool true) rfl rfl (binI_eql_t hb25) ?_)
            refine Run.go rfl rfl rfl (sem_pick true ((Value.bool true)) rfl rfl ?_)
            refine Run.go rfl rfl rfl (sem_pick false ((Value.bool true)) rfl rfl ?_)
            refine Run.region_end ?_
            refine Run.condT rfl ?_
            refine Run.exit rfl ?_
            refine Run.seq ?_
            refine Run.ops0 (idx := [0, 1]) rfl ?_
            refine Run.go rfl rfl rfl (sem_move ((Value.pointer p1)) rfl ?_)
            refine Run.go rfl rfl rfl (sem_callL [(Value.pointer p1)] (TF.goes_78) rfl rfl (Spec.mono hS fun v h26 hv => ?_))
            obtain ⟨rfl, hS⟩ := hv
            refine Run.region_end ?_
            refine Run.seq ?_
            refine Run.ops0 (idx := [0]) rfl ?_
            refine Run.go rfl rfl rfl (sem_assign ((Value.int .u64 (0))) rfl ?_)
            refine Run.region_end ?_
            refine Run.ret ⟨.inr rfl, ?_⟩
            exact hS.imp fun h' hq => ⟨(0), rfl, hq⟩
          · have hS := hF hb25; clear hT hF
            refine Run.go rfl rfl rfl (sem_binI .u8 (byteAt s12 (Int.toNat (0))) (0) (.bool false) rfl rfl (binI_eql_f hb25) ?_)
            refine Run.go rfl rfl rfl (sem_pick true ((Value.bool false)) rfl rfl ?_)
            refine Run.go rfl rfl rfl (sem_pick false ((Value.bool false)) rfl rfl ?_)
            refine Run.region_end ?_
            refine Run.condF rfl ?_
            refine Run.skip ?_
            exact Run.of_fin (hS.imp fun h' hS => j13 _ _ ⟨⟨rfl, rfl, rfl, rfl, trivial⟩, hS⟩)
        · have hS := hF hb24; clear hT hF
          refine Run.go rfl rfl rfl (sem_binI .i64 (i4) (0) (.bool false) rfl rfl (binI_gtr_f hb24) ?_)
          refine Run.go rfl rfl rfl (sem_move ((Value.bool false)) rfl ?_)
          refine Run.no rfl rfl rfl ?_
          refine Run.no rfl rfl rfl ?_
          refine Run.no rfl rfl rfl ?_
          refine Run.go rfl rfl rfl (sem_pick false ((Value.bool false)) rfl rfl ?_)
          refine Run.go rfl rfl rfl (sem_pick false ((Value.bool false)) rfl rfl ?_)
          refine Run.region_end ?_
          refine Run.condF rfl ?_
          refine Run.skip ?_
          exact Run.of_fin (hS.imp fun h' hS => j13 _ _ ⟨⟨rfl, rfl, rfl, rfl, trivial⟩, hS⟩)
  · have hS := hF hb10; clear hT hF
    refine Run.go rfl rfl rfl (sem_binI .i64 (i4) (64) (.bool false) rfl rfl (binI_lss_f hb10) ?_)
    refine Run.region_end ?_
    refine Run.condF rfl ?_
    refine Run.exit rfl ?_
    refine Run.seq ?_
    refine Run.ops0 (idx := [0, 1]) rfl ?_
    refine Run.go rfl rfl rfl (sem_move ((Value.pointer p1)) rfl ?_)
    refine Run.go rfl rfl rfl (sem_callL [(Value.pointer p1)] (TF.goes_78) rfl rfl (Spec.mono hS fun v h27 hv => ?_))
    obtain ⟨rfl, hS⟩ := hv
    refine Run.region_end ?_
    refine Run.seq ?_
    refine Run.ops0 (idx := [0]) rfl ?_
    refine Run.go rfl rfl rfl (sem_assign ((Value.int .u64 (0))) rfl ?_)
    refine Run.region_end ?_
    refine Run.ret ⟨.inr rfl, ?_⟩
    exact hS.imp fun h' hq => ⟨(0), rfl, hq⟩
set_option maxHeartbeats 4000000 in
theorem C_stylus_Reader_Spoil.of {B : RO} {p1 : Option Addr} {h : Heap} {Q : Heap → Prop} (hS : S_stylus_Reader_Spoil B p1 h Q) : C_stylus_Reader_Spoil B p1 h Q := by
  unfold S_stylus_Reader_Spoil at hS
  unfold C_stylus_Reader_Spoil
  refine Spec.of_run Try.func78 (N := 10) (rs := []) rfl rfl rfl (Nat.le_of_ble_eq_true rfl) ?_
  refine Run.seq ?_
  refine Run.ops0 (idx := [0, 1]) rfl ?_
  refine Run.go rfl rfl rfl (sem_move ((Value.pointer p1)) rfl ?_)
  obtain ⟨hT, hF⟩ := hS
  by_cases hb2 : p1 = none
  · have hS := hT hb2; clear hT hF
    refine Run.go rfl rfl rfl (sem_ptrNilT p1 (.inr rfl) false rfl rfl TF.ptr_96 hb2 rfl ?_)
    refine Run.region_end ?_
    refine Run.condF rfl ?_
    refine Run.skip ?_
    refine Run.fall ⟨.inl rfl, ?_⟩
    exact hS.imp fun h' hq => ⟨rfl, hq⟩
  · have hS := hF hb2; clear hT hF
    refine Run.go rfl rfl rfl (sem_ptrNilF p1 (.inr rfl) true rfl rfl TF.ptr_96 hb2 rfl ?_)
    refine Run.region_end ?_
    refine Run.condT rfl ?_
    refine Run.ops0 (idx := [0, 1, 2, 3, 4, 5, 6, 7]) rfl ?_
    refine Run.go rfl rfl rfl (sem_move ((Value.pointer p1)) rfl ?_)
    refine Run.go rfl rfl rfl (sem_move ((Value.pointer p1)) rfl ?_)
    obtain ⟨A3, e4, hS⟩ := hS
    refine Run.go rfl rfl rfl (sem_nilCheck A3 (congrArg Value.pointer e4) ?_)
    refine Run.go rfl rfl rfl (sem_fieldAddr A3 0 rfl TF.fld_145_0 ?_)
    obtain ⟨h5, hst, hS⟩ := hS
    refine Run.go rfl rfl rfl (sem_store1 A3 ((Value.string (ByteArray.mk #[]))) h5 rfl rfl rfl TF.sz_9 hst ?_)
    obtain ⟨A6, e7, hS⟩ := hS
    refine Run.go rfl rfl rfl (sem_nilCheck A6 (congrArg Value.pointer e7) ?_)
    refine Run.go rfl rfl rfl (sem_fieldAddr A6 1 rfl TF.fld_145_1 ?_)
    obtain ⟨h8, hst, hS⟩ := hS
    refine Run.go rfl rfl rfl (sem_store1 (Addr.add A6 1) ((Value.bool true)) h8 rfl rfl rfl TF.sz_4 hst ?_)
    refine Run.region_end ?_
    refine Run.fall ⟨.inl rfl, ?_⟩
    exact hS.imp fun h' hq => ⟨rfl, hq⟩
set_option maxHeartbeats 4000000 in
theorem C_countermandref01_Wide.of {B : RO} {i1 : Int} {h : Heap} {Q : ByteArray → Heap → Prop} (hS : S_countermandref01_Wide B i1 h Q) : C_countermandref01_Wide B i1 h Q := by
  unfold S_countermandref01_Wide at hS
  unfold C_countermandref01_Wide
  refine Spec.of_run Try.func79 (N := 22) (rs := [ResultVar.tmp 2]) rfl rfl rfl (Nat.le_of_ble_eq_true rfl) ?_
  refine Run.seq ?_
  refine Run.ops0 (idx := [0]) rfl ?_
  refine Run.go rfl rfl rfl (sem_assign ((Value.string (ByteArray.mk #[]))) rfl ?_)
  refine Run.region_end ?_
  refine Run.seq ?_
  refine Run.ops0 (idx := [0]) rfl ?_
  refine Run.go rfl rfl rfl (sem_assign ((Value.string (ByteArray.mk #[]))) rfl ?_)
  refine Run.region_end ?_
  refine Run.seqJ (fun e h6 => ∃ i4 : Int, ∃ s5 : ByteArray, Agree [(0, (Value.int .u64 (i4))), (3, (Value.string s5))] e ∧ S_countermandref01_Wide_J1 B i4 s5 h6 Q) ?_ fun j3 => ?_
  · rintro e h6 ⟨i4, s5, hag, hS⟩
    refine Run.env hag ?_; clear hag
    refine Run.seq ?_
    refine Run.ops0 (idx := [0, 1, 2, 3, 4, 5, 6]) rfl ?_
    refine Run.go rfl rfl rfl (sem_move ((Value.string s5)) rfl ?_)
    refine Run.go rfl rfl rfl (sem_move ((Value.int .u64 (i4))) rfl ?_)
    refine Run.go rfl rfl rfl (sem_convI .u64 .u8 (i4) rfl TF.int_98 TF.int_5 ?_)
    refine Run.go rfl rfl rfl (sem_buildSliceL [(0, (Value.int .u8 (IntKind.wrap .u8 (i4))))] [(Value.int .u8 (IntKind.wrap .u8 (i4)))] TF.slc_24 TF.zero_5 rfl (by decide) (by decide) rfl rfl (fun k7 hb1 hb2 h8 hb3 => ?_))
    have hS := hS k7 hb1 hb2 h8 hb3
    refine Run.go rfl rfl rfl (sem_convW ((Value.slice (some ⟨k7, 0, none⟩) 1 1)) rfl (semH_mono (fun v h10 hv => ?_) hS))
    obtain ⟨s9, rfl, hS⟩ := hv
    obtain ⟨hi0, hS⟩ := hS
    refine Run.go rfl rfl rfl (sem_strAdd s5 s9 rfl rfl hi0 ?_)
    refine Run.go rfl rfl rfl (sem_assign ((Value.string (s5 ++ s9))) rfl ?_)
    refine Run.region_end ?_
    refine Run.ret ⟨.inr rfl, ?_⟩
    exact hS.imp fun h' hq => ⟨(s5 ++ s9), rfl, hq⟩
  refine Run.block ?_
  obtain ⟨J17, m15, h0, hS⟩ := hS
  refine Run.of_fin (h0.imp fun h' h0 => ?_)
  refine Run.loop (σ := Int × ByteArray × Nat) (fun x e h => J17 x.1 x.2.1 x.2.2 h ∧ Agree [(0, (Value.int .u64 (x.1))), (3, (Value.string x.2.1))] e) (fun x => x.2.2) ((i1), (ByteArray.mk #[]), m15) ⟨h0, ⟨rfl, rfl, trivial⟩⟩ ?_; clear h0
  rintro ⟨i11, s12, m14⟩ e h13 ⟨hJ, hag⟩ ih16
  have hS := hS i11 s12 m14 h13 hJ; clear hJ
  refine Run.env hag ?_; clear hag
  refine Run.seq ?_
  refine Run.seq ?_
  refine Run.ops0 (idx := [0, 1]) rfl ?_
  refine Run.go rfl rfl rfl (sem_move ((Value.int .u64 (i11))) rfl ?_)
  obtain ⟨hT, hF⟩ := hS
  by_cases hb18 : (i11 : Int) > (127)
  · have hS := hT hb18; clear hT hF
    refine Run.go rfl rfl rfl (sem_binI .u64 (i11) (127) (.bool true) rfl rfl (binI_gtr_t hb18) ?_)
    refine Run.region_end ?_
    refine Run.condT rfl ?_
    refine Run.skip ?_
    refine Run.block ?_
    refine Run.seq ?_
    refine Run.ops0 (idx := [0, 1, 2, 3, 4, 5, 6, 7, 8]) rfl ?_
    refine Run.go rfl rfl rfl (sem_move ((Value.string s12)) rfl ?_)
    refine Run.go rfl rfl rfl (sem_move ((Value.int .u64 (i11))) rfl ?_)
    obtain ⟨hi0, hS⟩ := hS
    refine Run.go rfl rfl rfl (sem_binI .u64 (i11) (128) ((Value.int .u64 (Int.tmod (i11) (128)))) rfl rfl (binI_rem hi0) ?_)
    refine Run.go rfl rfl rfl (sem_binI .u64 (128) (Int.tmod (i11) (128)) ((Value.int .u64 (IntKind.wrap .u64 ((128) + (Int.tmod (i11) (128)))))) rfl rfl rfl ?_)
    refine Run.go rfl rfl rfl (sem_convI .u64 .u8 (IntKind.wrap .u64 ((128) + (Int.tmod (i11) (128)))) rfl TF.int_98 TF.int_5 ?_)
    refine Run.go rfl rfl rfl (sem_buildSliceL [(0, (Value.int .u8 (IntKind.wrap .u8 (IntKind.wrap .u64 ((128) + (Int.tmod (i11) (128)))))))] [(Value.int .u8 (IntKind.wrap .u8 (IntKind.wrap .u64 ((128) + (Int.tmod (i11) (128))))))] TF.slc_24 TF.zero_5 rfl (by decide) (by decide) rfl rfl (fun k19 hb1 hb2 h20 hb3 => ?_))
    have hS := hS k19 hb1 hb2 h20 hb3
    refine Run.go rfl rfl rfl (sem_convW ((Value.slice (some ⟨k19, 0, none⟩) 1 1)) rfl (semH_mono (fun v h22 hv => ?_) hS))
    obtain ⟨s21, rfl, hS⟩ := hv
    obtain ⟨hi0, hS⟩ := hS
    refine Run.go rfl rfl rfl (sem_strAdd s12 s21 rfl rfl hi0 ?_)
    refine Run.go rfl rfl rfl (sem_assign ((Value.string (s12 ++ s21))) rfl ?_)
    refine Run.region_end ?_
    refine Run.ops0 (idx := [0, 1, 2]) rfl ?_
    refine Run.go rfl rfl rfl (sem_move ((Value.int .u64 (i11))) rfl ?_)
    obtain ⟨hi0, hS⟩ := hS
    refine Run.go rfl rfl rfl (sem_binI .u64 (i11) (128) ((Value.int .u64 (IntKind.wrap .u64 (Int.tdiv (i11) (128))))) rfl rfl (binI_quo hi0) ?_)
    refine Run.go rfl rfl rfl (sem_assign ((Value.int .u64 (IntKind.wrap .u64 (Int.tdiv (i11) (128))))) rfl ?_)
    refine Run.region_end ?_
    refine Run.inBlock ?_
    exact Run.of_fin (hS.imp fun h' ⟨m', hm, hS⟩ => ih16 ((IntKind.wrap .u64 (Int.tdiv (i11) (128))), (s12 ++ s21), m') _ _ ⟨hS, ⟨rfl, rfl, trivial⟩⟩ hm)
  · have hS := hF hb18; clear hT hF
    refine Run.go rfl rfl rfl (sem_binI .u64 (i11) (127) (.bool false) rfl rfl (binI_gtr_f hb18) ?_)
    refine Run.region_end ?_
    refine Run.condF rfl ?_
    refine Run.exit rfl ?_
    exact Run.of_fin (hS.imp fun h' hS => j3 _ _ ⟨(i11), s12, ⟨rfl, rfl, trivial⟩, hS⟩)
set_option maxHeartbeats 4000000 in
theorem C_stylus_Reader_Raw.of {B : RO} {p1 : Option Addr} {i2 : Int} {h : Heap} {Q : ByteArray → Heap → Prop} (hS : S_stylus_Reader_Raw B p1 i2 h Q) : C_stylus_Reader_Raw B p1 i2 h Q := by
  unfold S_stylus_Reader_Raw at hS
  unfold C_stylus_Reader_Raw
  refine Spec.of_run Try.func84 (N := 45) (rs := [ResultVar.tmp 4]) rfl rfl rfl (Nat.le_of_ble_eq_true rfl) ?_
  refine Run.seq ?_
  refine Run.ops0 (idx := [0]) rfl ?_
  refine Run.go rfl rfl rfl (sem_assign ((Value.string (ByteArray.mk #[]))) rfl ?_)
  refine Run.region_end ?_
  refine Run.seqJ (fun e h5 => Agree [(0, (Value.pointer p1)), (1, (Value.int .i64 (i2)))] e ∧ S_stylus_Reader_Raw_J1 B p1 i2 h5 Q) ?_ fun j4 => ?_
  · rintro e h5 ⟨hag, hS⟩
    refine Run.env hag ?_; clear hag
    refine Run.seq ?_
    refine Run.ops0 (idx := [0, 1, 2, 3, 4, 5, 6]) rfl ?_
    refine Run.go rfl rfl rfl (sem_move ((Value.pointer p1)) rfl ?_)
    obtain ⟨A6, e7, hS⟩ := hS
    refine Run.go rfl rfl rfl (sem_nilCheck A6 (congrArg Value.pointer e7) ?_)
    refine Run.go rfl rfl rfl (sem_fieldAddr A6 0 rfl TF.fld_145_0 ?_)
    obtain ⟨s8, hl, hS⟩ := hS
    refine Run.go rfl rfl rfl (sem_load1 A6 ((Value.string s8)) rfl TF.agg_9 hl ?_)
    refine Run.go rfl rfl rfl (sem_move ((Value.int .i64 (i2))) rfl ?_)
    obtain ⟨hi0, hi1, hi2, hS⟩ := hS
    refine Run.go rfl rfl rfl (sem_sliceStrI s8 (0) (i2) rfl TF.isStr_9 rfl ⟨_, rfl⟩ hi0 hi1 hi2 ?_)
    refine Run.go rfl rfl rfl (sem_assign ((Value.string (ByteArray.extract s8 (Int.toNat (0)) (Int.toNat (i2))))) rfl ?_)
    refine Run.region_end ?_
    refine Run.seq ?_
    refine Run.ops0 (idx := [0, 1, 2, 3, 4, 5, 6, 7, 8, 9]) rfl ?_
    refine Run.go rfl rfl rfl (sem_move ((Value.pointer p1)) rfl ?_)
    refine Run.go rfl rfl rfl (sem_move ((Value.pointer p1)) rfl ?_)
    obtain ⟨A9, e10, hS⟩ := hS
    refine Run.go rfl rfl rfl (sem_nilCheck A9 (congrArg Value.pointer e10) ?_)
    refine Run.go rfl rfl rfl (sem_fieldAddr A9 0 rfl TF.fld_145_0 ?_)
    obtain ⟨s11, hl, hS⟩ := hS
    refine Run.go rfl rfl rfl (sem_load1 A9 ((Value.string s11)) rfl TF.agg_9 hl ?_)
    refine Run.go rfl rfl rfl (sem_move ((Value.int .i64 (i2))) rfl ?_)
    obtain ⟨hi0, hi1, hi2, hS⟩ := hS
    refine Run.go rfl rfl rfl (sem_sliceStrI s11 (i2) ((ByteArray.size s11 : Nat)) rfl TF.isStr_9 ⟨_, rfl⟩ rfl hi0 hi1 hi2 ?_)
    obtain ⟨A12, e13, hS⟩ := hS
    refine Run.go rfl rfl rfl (sem_nilCheck A12 (congrArg Value.pointer e13) ?_)
    refine Run.go rfl rfl rfl (sem_fieldAddr A12 0 rfl TF.fld_145_0 ?_)
    obtain ⟨h14, hst, hS⟩ := hS
    refine Run.go rfl rfl rfl (sem_store1 A12 ((Value.string (ByteArray.extract s11 (Int.toNat (i2)) (Int.toNat ((ByteArray.size s11 : Nat)))))) h14 rfl rfl rfl TF.sz_9 hst ?_)
    refine Run.region_end ?_
    refine Run.seq ?_
    refine Run.ops0 (idx := [0, 1]) rfl ?_
    refine Run.go rfl rfl rfl (sem_move ((Value.string (ByteArray.extract s8 (Int.toNat (0)) (Int.toNat (i2))))) rfl ?_)
    refine Run.go rfl rfl rfl (sem_assign ((Value.string (ByteArray.extract s8 (Int.toNat (0)) (Int.toNat (i2))))) rfl ?_)
    refine Run.region_end ?_
    refine Run.ret ⟨.inr rfl, ?_⟩
    exact hS.imp fun h' hq => ⟨(ByteArray.extract s8 (Int.toNat (0)) (Int.toNat (i2))), rfl, hq⟩
  refine Run.seq ?_
  refine Run.ops0 (idx := [0, 1, 2, 3, 4, 5, 6, 7, 8, 9, 10, 11, 12, 13, 14, 15, 16, 17, 18, 19, 20]) rfl ?_
  refine Run.go rfl rfl rfl (sem_move ((Value.pointer p1)) rfl ?_)
  obtain ⟨hT, hF⟩ := hS
  by_cases hb15 : p1 = none
  · have hS := hT hb15; clear hT hF
    refine Run.go rfl rfl rfl (sem_ptrNilT p1 (.inl rfl) true rfl rfl TF.ptr_96 hb15 rfl ?_)
    refine Run.go rfl rfl rfl (sem_move ((Value.bool true)) rfl ?_)
    refine Run.no rfl rfl rfl ?_
    refine Run.no rfl rfl rfl ?_
    refine Run.no rfl rfl rfl ?_
    refine Run.no rfl rfl rfl ?_
    refine Run.go rfl rfl rfl (sem_pick true ((Value.bool true)) rfl rfl ?_)
    refine Run.go rfl rfl rfl (sem_move ((Value.bool true)) rfl ?_)
    refine Run.no rfl rfl rfl ?_
    refine Run.no rfl rfl rfl ?_
    refine Run.go rfl rfl rfl (sem_pick true ((Value.bool true)) rfl rfl ?_)
    refine Run.go rfl rfl rfl (sem_move ((Value.bool true)) rfl ?_)
    refine Run.no rfl rfl rfl ?_
    refine Run.no rfl rfl rfl ?_
    refine Run.no rfl rfl rfl ?_
    refine Run.no rfl rfl rfl ?_
    refine Run.no rfl rfl rfl ?_
    refine Run.no rfl rfl rfl ?_
    refine Run.no rfl rfl rfl ?_
    refine Run.go rfl rfl rfl (sem_pick true ((Value.bool true)) rfl rfl ?_)
    refine Run.region_end ?_
    refine Run.condT rfl ?_
    refine Run.seq ?_
    refine Run.ops0 (idx := [0, 1]) rfl ?_
    refine Run.go rfl rfl rfl (sem_move ((Value.pointer p1)) rfl ?_)
    refine Run.go rfl rfl rfl (sem_callL [(Value.pointer p1)] (TF.goes_78) rfl rfl (Spec.mono hS fun v h16 hv => ?_))
    obtain ⟨rfl, hS⟩ := hv
    refine Run.region_end ?_
    refine Run.seq ?_
    refine Run.ops0 (idx := [0]) rfl ?_
    refine Run.go rfl rfl rfl (sem_assign ((Value.string (ByteArray.mk #[]))) rfl ?_)
    refine Run.region_end ?_
    refine Run.ret ⟨.inr rfl, ?_⟩
    exact hS.imp fun h' hq => ⟨(ByteArray.mk #[]), rfl, hq⟩
  · have hS := hF hb15; clear hT hF
    refine Run.go rfl rfl rfl (sem_ptrNilF p1 (.inl rfl) false rfl rfl TF.ptr_96 hb15 rfl ?_)
    refine Run.go rfl rfl rfl (sem_move ((Value.bool false)) rfl ?_)
    refine Run.go rfl rfl rfl (sem_move ((Value.pointer p1)) rfl ?_)
    obtain ⟨A17, e18, hS⟩ := hS
    refine Run.go rfl rfl rfl (sem_nilCheck A17 (congrArg Value.pointer e18) ?_)
    refine Run.go rfl rfl rfl (sem_fieldAddr A17 1 rfl TF.fld_145_1 ?_)
    obtain ⟨b19, hl, hS⟩ := hS
    obtain ⟨hT, hF⟩ := hS
    cases b19
    · have hS := hF rfl; clear hT hF
      refine Run.go rfl rfl rfl (sem_load1 (Addr.add A17 1) (.bool false) rfl TF.agg_4 hl ?_)
      refine Run.go rfl rfl rfl (sem_pick false ((Value.bool false)) rfl rfl ?_)
      refine Run.go rfl rfl rfl (sem_move ((Value.bool false)) rfl ?_)
      refine Run.go rfl rfl rfl (sem_move ((Value.int .i64 (i2))) rfl ?_)
      obtain ⟨hT, hF⟩ := hS
      by_cases hb20 : (i2 : Int) < (0)
      · have hS := hT hb20; clear hT hF
        refine Run.go rfl rfl rfl (sem_binI .i64 (i2) (0) (.bool true) rfl rfl (binI_lss_t hb20) ?_)
        refine Run.go rfl rfl rfl (sem_pick false ((Value.bool true)) rfl rfl ?_)
        refine Run.go rfl rfl rfl (sem_move ((Value.bool true)) rfl ?_)
        refine Run.no rfl rfl rfl ?_
        refine Run.no rfl rfl rfl ?_
        refine Run.no rfl rfl rfl ?_
        refine Run.no rfl rfl rfl ?_
        refine Run.no rfl rfl rfl ?_
        refine Run.no rfl rfl rfl ?_
        refine Run.no rfl rfl rfl ?_
        refine Run.go rfl rfl rfl (sem_pick true ((Value.bool true)) rfl rfl ?_)
        refine Run.region_end ?_
        refine Run.condT rfl ?_
        refine Run.seq ?_
        refine Run.ops0 (idx := [0, 1]) rfl ?_
        refine Run.go rfl rfl rfl (sem_move ((Value.pointer p1)) rfl ?_)
        refine Run.go rfl rfl rfl (sem_callL [(Value.pointer p1)] (TF.goes_78) rfl rfl (Spec.mono hS fun v h21 hv => ?_))
        obtain ⟨rfl, hS⟩ := hv
        refine Run.region_end ?_
        refine Run.seq ?_
        refine Run.ops0 (idx := [0]) rfl ?_
        refine Run.go rfl rfl rfl (sem_assign ((Value.string (ByteArray.mk #[]))) rfl ?_)
        refine Run.region_end ?_
        refine Run.ret ⟨.inr rfl, ?_⟩
        exact hS.imp fun h' hq => ⟨(ByteArray.mk #[]), rfl, hq⟩
      · have hS := hF hb20; clear hT hF
        refine Run.go rfl rfl rfl (sem_binI .i64 (i2) (0) (.bool false) rfl rfl (binI_lss_f hb20) ?_)
        refine Run.go rfl rfl rfl (sem_pick false ((Value.bool false)) rfl rfl ?_)
        refine Run.go rfl rfl rfl (sem_move ((Value.bool false)) rfl ?_)
        refine Run.go rfl rfl rfl (sem_move ((Value.int .i64 (i2))) rfl ?_)
        refine Run.go rfl rfl rfl (sem_move ((Value.pointer p1)) rfl ?_)
        obtain ⟨A22, e23, hS⟩ := hS
        refine Run.go rfl rfl rfl (sem_nilCheck A22 (congrArg Value.pointer e23) ?_)
        refine Run.go rfl rfl rfl (sem_fieldAddr A22 0 rfl TF.fld_145_0 ?_)
        obtain ⟨s24, hl, hS⟩ := hS
        refine Run.go rfl rfl rfl (sem_load1 A22 ((Value.string s24)) rfl TF.agg_9 hl ?_)
        refine Run.go rfl rfl rfl (sem_lenStr s24 rfl TF.isStr_9 ?_)
        obtain ⟨hT, hF⟩ := hS
        by_cases hb25 : (i2 : Int) > ((ByteArray.size s24 : Nat))
        · have hS := hT hb25; clear hT hF
          refine Run.go rfl rfl rfl (sem_binI .i64 (i2) ((ByteArray.size s24 : Nat)) (.bool true) rfl rfl (binI_gtr_t hb25) ?_)
          refine Run.go rfl rfl rfl (sem_pick false ((Value.bool true)) rfl rfl ?_)
          refine Run.region_end ?_
          refine Run.condT rfl ?_
          refine Run.seq ?_
          refine Run.ops0 (idx := [0, 1]) rfl ?_
          refine Run.go rfl rfl rfl (sem_move ((Value.pointer p1)) rfl ?_)
          refine Run.go rfl rfl rfl (sem_callL [(Value.pointer p1)] (TF.goes_78) rfl rfl (Spec.mono hS fun v h26 hv => ?_))
          obtain ⟨rfl, hS⟩ := hv
          refine Run.region_end ?_
          refine Run.seq ?_
          refine Run.ops0 (idx := [0]) rfl ?_
          refine Run.go rfl rfl rfl (sem_assign ((Value.string (ByteArray.mk #[]))) rfl ?_)
          refine Run.region_end ?_
          refine Run.ret ⟨.inr rfl, ?_⟩
          exact hS.imp fun h' hq => ⟨(ByteArray.mk #[]), rfl, hq⟩
        · have hS := hF hb25; clear hT hF
          refine Run.go rfl rfl rfl (sem_binI .i64 (i2) ((ByteArray.size s24 : Nat)) (.bool false) rfl rfl (binI_gtr_f hb25) ?_)
          refine Run.go rfl rfl rfl (sem_pick false ((Value.bool false)) rfl rfl ?_)
          refine Run.region_end ?_
          refine Run.condF rfl ?_
          refine Run.skip ?_
          exact Run.of_fin (hS.imp fun h' hS => j4 _ _ ⟨⟨rfl, rfl, trivial⟩, hS⟩)
    · have hS := hT rfl; clear hT hF
      refine Run.go rfl rfl rfl (sem_load1 (Addr.add A17 1) (.bool true) rfl TF.agg_4 hl ?_)
      refine Run.go rfl rfl rfl (sem_pick false ((Value.bool true)) rfl rfl ?_)
      refine Run.go rfl rfl rfl (sem_move ((Value.bool true)) rfl ?_)
      refine Run.no rfl rfl rfl ?_
      refine Run.no rfl rfl rfl ?_
      refine Run.go rfl rfl rfl (sem_pick true ((Value.bool true)) rfl rfl ?_)
      refine Run.go rfl rfl rfl (sem_move ((Value.bool true)) rfl ?_)
      refine Run.no rfl rfl rfl ?_
      refine Run.no rfl rfl rfl ?_
      refine Run.no rfl rfl rfl ?_
      refine Run.no rfl rfl rfl ?_
      refine Run.no rfl rfl rfl ?_
      refine Run.no rfl rfl rfl ?_
      refine Run.no rfl rfl rfl ?_
      refine Run.go rfl rfl rfl (sem_pick true ((Value.bool true)) rfl rfl ?_)
      refine Run.region_end ?_
      refine Run.condT rfl ?_
      refine Run.seq ?_
      refine Run.ops0 (idx := [0, 1]) rfl ?_
      refine Run.go rfl rfl rfl (sem_move ((Value.pointer p1)) rfl ?_)
      refine Run.go rfl rfl rfl (sem_callL [(Value.pointer p1)] (TF.goes_78) rfl rfl (Spec.mono hS fun v h27 hv => ?_))
      obtain ⟨rfl, hS⟩ := hv
      refine Run.region_end ?_
      refine Run.seq ?_
      refine Run.ops0 (idx := [0]) rfl ?_
      refine Run.go rfl rfl rfl (sem_assign ((Value.string (ByteArray.mk #[]))) rfl ?_)
      refine Run.region_end ?_
      refine Run.ret ⟨.inr rfl, ?_⟩
      exact hS.imp fun h' hq => ⟨(ByteArray.mk #[]), rfl, hq⟩
end Go.Proofs.Ythlnibaechobmaa.H
