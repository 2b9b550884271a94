/- The functions do what they ask for. No condition. -/
import Derived.Test.YtoajfmmomgpjcaaXgS
namespace Go.Proofs.Ytoajfmmomgpjcaa.H
open Go
set_option linter.unusedVariables false
set_option maxRecDepth 100000

set_option maxHeartbeats 4000000 in
theorem C_countermandref01_Taken.of {B : RO} {s1 : ByteArray} {h : Heap} {Q : Int → Int → Heap → Prop} (hS : S_countermandref01_Taken B s1 h Q) : C_countermandref01_Taken B s1 h Q := by
  unfold S_countermandref01_Taken at hS
  unfold C_countermandref01_Taken
  refine Spec.of_run Try.func17 (N := 44) (rs := [ResultVar.tmp 2, ResultVar.tmp 3]) rfl rfl rfl (Nat.le_of_ble_eq_true rfl) ?_
  refine Run.seq ?_
  refine Run.ops0 (idx := [0, 1]) rfl ?_
  refine Run.go rfl rfl rfl (sem_assign ((Value.int .u64 (0))) rfl ?_)
  refine Run.go rfl rfl rfl (sem_assign ((Value.int .i64 (0))) rfl ?_)
  refine Run.region_end ?_
  refine Run.seq ?_
  refine Run.seq ?_
  refine Run.ops0 (idx := [0]) rfl ?_
  refine Run.go rfl rfl rfl (sem_assign ((Value.int .i64 (1))) rfl ?_)
  refine Run.region_end ?_
  refine Run.block ?_
  obtain ⟨J9, m7, h0, hS⟩ := hS
  refine Run.of_fin (h0.imp fun h' h0 => ?_)
  refine Run.loop (σ := Int × Nat) (fun x e h => J9 x.1 x.2 h ∧ Agree [(0, (Value.string s1)), (4, (Value.int .i64 (x.1)))] e) (fun x => x.2) ((1), m7) ⟨h0, ⟨rfl, rfl, trivial⟩⟩ ?_; clear h0
  rintro ⟨i4, m6⟩ e h5 ⟨hJ, hag⟩ ih8
  have hS := hS i4 m6 h5 hJ; clear hJ
  refine Run.env hag ?_; clear hag
  refine Run.seqJ (fun e h11 => Agree [(0, (Value.string s1)), (4, (Value.int .i64 (i4)))] e ∧ S_countermandref01_Taken_J1 B s1 i4 m6 J9 h11 Q) ?_ fun j10 => ?_
  · rintro e h11 ⟨hag, hS⟩
    refine Run.env hag ?_; clear hag
    refine Run.seq ?_
    refine Run.block ?_
    refine Run.seq ?_
    refine Run.seq ?_
    refine Run.ops0 (idx := [0, 1, 2, 3, 4]) rfl ?_
    refine Run.go rfl rfl rfl (sem_move ((Value.string s1)) rfl ?_)
    refine Run.go rfl rfl rfl (sem_move ((Value.int .i64 (i4))) rfl ?_)
    refine Run.go rfl rfl rfl (sem_binI .i64 (i4) (1) ((Value.int .i64 (IntKind.wrap .i64 ((i4) - (1))))) rfl rfl rfl ?_)
    obtain ⟨hi0, hi1, hS⟩ := hS
    refine Run.go rfl rfl rfl (sem_indexStr' s1 .i64 (IntKind.wrap .i64 ((i4) - (1))) rfl rfl TF.isStr_9 hi0 hi1 ?_)
    obtain ⟨hT, hF⟩ := hS
    by_cases hb12 : (byteAt s1 (Int.toNat (IntKind.wrap .i64 ((i4) - (1)))) : Int) > (127)
    · have hS := hT hb12; clear hT hF
      refine Run.go rfl rfl rfl (sem_binI .u8 (byteAt s1 (Int.toNat (IntKind.wrap .i64 ((i4) - (1))))) (127) (.bool true) rfl rfl (binI_gtr_t hb12) ?_)
      refine Run.region_end ?_
      refine Run.condT rfl ?_
      refine Run.exit rfl ?_
      refine Run.ops0 (idx := [0, 1, 2]) rfl ?_
      refine Run.go rfl rfl rfl (sem_move ((Value.int .i64 (i4))) rfl ?_)
      refine Run.go rfl rfl rfl (sem_binI .i64 (i4) (1) ((Value.int .i64 (IntKind.wrap .i64 ((i4) + (1))))) rfl rfl rfl ?_)
      refine Run.go rfl rfl rfl (sem_assign ((Value.int .i64 (IntKind.wrap .i64 ((i4) + (1))))) rfl ?_)
      refine Run.region_end ?_
      exact Run.of_fin (hS.imp fun h' ⟨m', hm, hS⟩ => ih8 ((IntKind.wrap .i64 ((i4) + (1))), m') _ _ ⟨hS, ⟨rfl, rfl, trivial⟩⟩ hm)
    · have hS := hF hb12; clear hT hF
      refine Run.go rfl rfl rfl (sem_binI .u8 (byteAt s1 (Int.toNat (IntKind.wrap .i64 ((i4) - (1))))) (127) (.bool false) rfl rfl (binI_gtr_f hb12) ?_)
      refine Run.region_end ?_
      refine Run.condF rfl ?_
      refine Run.skip ?_
      refine Run.seq ?_
      refine Run.ops0 (idx := [0]) rfl ?_
      refine Run.go rfl rfl rfl (sem_assign ((Value.int .u64 (0))) rfl ?_)
      refine Run.region_end ?_
      refine Run.seqJ (fun e h15 => ∃ i14 : Int, Agree [(0, (Value.string s1)), (4, (Value.int .i64 (i4))), (5, (Value.int .u64 (i14)))] e ∧ S_countermandref01_Taken_J2 B s1 i4 i14 h15 Q) ?_ fun j13 => ?_
      · rintro e h15 ⟨i14, hag, hS⟩
        refine Run.env hag ?_; clear hag
        refine Run.seq ?_
        refine Run.seq ?_
        skip
        skip
        skip
        obtain ⟨hi0, hi1, hi2, hS⟩ := hS
        have f20 := hi0; have f21 := hi1; have f22 := hi2
        refine Run.draw (fun h' => True) [] [.q 0, .q 2, .q 3, .q 4, .x 1, .q 5] TF.mixed (by kernel_rfl) trivial ?_
        refine RunO.quiet rfl rfl rfl (fun h' hC => sem_move ((Value.int .u64 (i14))) rfl ⟨rfl, rfl⟩) ?_
        refine RunO.quiet rfl rfl rfl (fun h' hC => sem_move ((Value.string s1)) rfl ⟨rfl, rfl⟩) ?_
        refine RunO.quiet rfl rfl rfl (fun h' hC => sem_move ((Value.int .i64 (i4))) rfl ⟨rfl, rfl⟩) ?_
        refine RunO.quiet rfl rfl rfl (fun h' hC => sem_sliceStrI s1 (0) (i4) rfl TF.isStr_9 rfl ⟨_, rfl⟩ f20 f21 f22 ⟨rfl, rfl⟩) ?_
        refine OpH.go rfl rfl rfl (sem_callL [(Value.int .u64 (i14))] (TF.goes_72) rfl rfl (Spec.mono hS fun v h23 hv => ?_))
        obtain ⟨s24, rfl, hS⟩ := hv
        refine ⟨fun _ => trivial, ?_⟩
        obtain ⟨hT, hF⟩ := hS
        by_cases hb25 : s24 = (ByteArray.extract s1 (Int.toNat (0)) (Int.toNat (i4)))
        · have hS := hT hb25; clear hT hF
          refine RunO.quiet rfl rfl rfl (fun h' hC => sem_strNeT s24 (ByteArray.extract s1 (Int.toNat (0)) (Int.toNat (i4))) rfl rfl hb25 ⟨rfl, rfl⟩) ?_
          refine Run.condF rfl ?_
          refine Run.skip ?_
          refine Run.seq ?_
          refine Run.ops0 (idx := [0, 1, 2, 3]) rfl ?_
          refine Run.go rfl rfl rfl (sem_move ((Value.int .u64 (i14))) rfl ?_)
          refine Run.go rfl rfl rfl (sem_move ((Value.int .i64 (i4))) rfl ?_)
          refine Run.go rfl rfl rfl (sem_assign ((Value.int .u64 (i14))) rfl ?_)
          refine Run.go rfl rfl rfl (sem_assign ((Value.int .i64 (i4))) rfl ?_)
          refine Run.region_end ?_
          refine Run.ret ⟨.inr rfl, ?_⟩
          exact hS.imp fun h' hq => ⟨(i14), (i4), rfl, hq⟩
        · have hS := hF hb25; clear hT hF
          refine RunO.quiet rfl rfl rfl (fun h' hC => sem_strNeF s24 (ByteArray.extract s1 (Int.toNat (0)) (Int.toNat (i4))) rfl rfl hb25 ⟨rfl, rfl⟩) ?_
          refine Run.condT rfl ?_
          refine Run.seq ?_
          refine Run.ops0 (idx := [0, 1]) rfl ?_
          refine Run.go rfl rfl rfl (sem_assign ((Value.int .u64 (0))) rfl ?_)
          refine Run.go rfl rfl rfl (sem_assign ((Value.int .i64 (0))) rfl ?_)
          refine Run.region_end ?_
          refine Run.ret ⟨.inr rfl, ?_⟩
          exact hS.imp fun h' hq => ⟨(0), (0), rfl, hq⟩
      refine Run.seq ?_
      refine Run.ops0 (idx := [0, 1, 2]) rfl ?_
      refine Run.go rfl rfl rfl (sem_move ((Value.int .i64 (i4))) rfl ?_)
      refine Run.go rfl rfl rfl (sem_binI .i64 (i4) (1) ((Value.int .i64 (IntKind.wrap .i64 ((i4) - (1))))) rfl rfl rfl ?_)
      refine Run.go rfl rfl rfl (sem_assign ((Value.int .i64 (IntKind.wrap .i64 ((i4) - (1))))) rfl ?_)
      refine Run.region_end ?_
      refine Run.block ?_
      obtain ⟨J32, m30, h0, hS⟩ := hS
      refine Run.of_fin (h0.imp fun h' h0 => ?_)
      refine Run.loop (σ := Int × Int × Nat) (fun x e h => J32 x.1 x.2.1 x.2.2 h ∧ Agree [(0, (Value.string s1)), (4, (Value.int .i64 (i4))), (5, (Value.int .u64 (x.1))), (6, (Value.int .i64 (x.2.1)))] e) (fun x => x.2.2) ((0), (IntKind.wrap .i64 ((i4) - (1))), m30) ⟨h0, ⟨rfl, rfl, rfl, rfl, trivial⟩⟩ ?_; clear h0
      rintro ⟨i26, i27, m29⟩ e h28 ⟨hJ, hag⟩ ih31
      have hS := hS i26 i27 m29 h28 hJ; clear hJ
      refine Run.env hag ?_; clear hag
      refine Run.seq ?_
      refine Run.seq ?_
      refine Run.ops0 (idx := [0, 1]) rfl ?_
      refine Run.go rfl rfl rfl (sem_move ((Value.int .i64 (i27))) rfl ?_)
      obtain ⟨hT, hF⟩ := hS
      by_cases hb33 : (i27 : Int) ≥ (0)
      · have hS := hT hb33; clear hT hF
        refine Run.go rfl rfl rfl (sem_binI .i64 (i27) (0) (.bool true) rfl rfl (binI_geq_t hb33) ?_)
        refine Run.region_end ?_
        refine Run.condT rfl ?_
        refine Run.skip ?_
        refine Run.seq ?_
        refine Run.block ?_
        refine Run.ops0 (idx := [0, 1, 2, 3, 4, 5, 6, 7, 8]) rfl ?_
        refine Run.go rfl rfl rfl (sem_move ((Value.int .u64 (i26))) rfl ?_)
        refine Run.go rfl rfl rfl (sem_binI .u64 (i26) (128) ((Value.int .u64 (IntKind.wrap .u64 ((i26) * (128))))) rfl rfl rfl ?_)
        refine Run.go rfl rfl rfl (sem_move ((Value.string s1)) rfl ?_)
        refine Run.go rfl rfl rfl (sem_move ((Value.int .i64 (i27))) rfl ?_)
        obtain ⟨hi0, hi1, hS⟩ := hS
        refine Run.go rfl rfl rfl (sem_indexStr' s1 .i64 (i27) rfl rfl TF.isStr_9 hi0 hi1 ?_)
        refine Run.go rfl rfl rfl (sem_convI .u8 .u64 (byteAt s1 (Int.toNat (i27))) rfl TF.int_5 TF.int_28 ?_)
        obtain ⟨hi0, hS⟩ := hS
        refine Run.go rfl rfl rfl (sem_binI .u64 (IntKind.wrap .u64 (byteAt s1 (Int.toNat (i27)))) (128) ((Value.int .u64 (Int.tmod (IntKind.wrap .u64 (byteAt s1 (Int.toNat (i27)))) (128)))) rfl rfl (binI_rem hi0) ?_)
        refine Run.go rfl rfl rfl (sem_binI .u64 (IntKind.wrap .u64 ((i26) * (128))) (Int.tmod (IntKind.wrap .u64 (byteAt s1 (Int.toNat (i27)))) (128)) ((Value.int .u64 (IntKind.wrap .u64 ((IntKind.wrap .u64 ((i26) * (128))) + (Int.tmod (IntKind.wrap .u64 (byteAt s1 (Int.toNat (i27)))) (128)))))) rfl rfl rfl ?_)
        refine Run.go rfl rfl rfl (sem_assign ((Value.int .u64 (IntKind.wrap .u64 ((IntKind.wrap .u64 ((i26) * (128))) + (Int.tmod (IntKind.wrap .u64 (byteAt s1 (Int.toNat (i27)))) (128)))))) rfl ?_)
        refine Run.region_end ?_
        refine Run.inBlock ?_
        refine Run.ops0 (idx := [0, 1, 2]) rfl ?_
        refine Run.go rfl rfl rfl (sem_move ((Value.int .i64 (i27))) rfl ?_)
        refine Run.go rfl rfl rfl (sem_binI .i64 (i27) (1) ((Value.int .i64 (IntKind.wrap .i64 ((i27) - (1))))) rfl rfl rfl ?_)
        refine Run.go rfl rfl rfl (sem_assign ((Value.int .i64 (IntKind.wrap .i64 ((i27) - (1))))) rfl ?_)
        refine Run.region_end ?_
        exact Run.of_fin (hS.imp fun h' ⟨m', hm, hS⟩ => ih31 ((IntKind.wrap .u64 ((IntKind.wrap .u64 ((i26) * (128))) + (Int.tmod (IntKind.wrap .u64 (byteAt s1 (Int.toNat (i27)))) (128)))), (IntKind.wrap .i64 ((i27) - (1))), m') _ _ ⟨hS, ⟨rfl, rfl, rfl, rfl, trivial⟩⟩ hm)
      · have hS := hF hb33; clear hT hF
        refine Run.go rfl rfl rfl (sem_binI .i64 (i27) (0) (.bool false) rfl rfl (binI_geq_f hb33) ?_)
        refine Run.region_end ?_
        refine Run.condF rfl ?_
        refine Run.exit rfl ?_
        exact Run.of_fin (hS.imp fun h' hS => j13 _ _ ⟨(i26), ⟨rfl, rfl, rfl, trivial⟩, hS⟩)
  refine Run.seq ?_
  refine Run.ops0 (idx := [0, 1, 2, 3, 4, 5, 6, 7]) rfl ?_
  refine Run.go rfl rfl rfl (sem_move ((Value.int .i64 (i4))) rfl ?_)
  obtain ⟨hT, hF⟩ := hS
  by_cases hb34 : (i4 : Int) ≤ (10)
  · have hS := hT hb34; clear hT hF
    refine Run.go rfl rfl rfl (sem_binI .i64 (i4) (10) (.bool true) rfl rfl (binI_leq_t hb34) ?_)
    refine Run.go rfl rfl rfl (sem_move ((Value.bool true)) rfl ?_)
    refine Run.go rfl rfl rfl (sem_move ((Value.int .i64 (i4))) rfl ?_)
    refine Run.go rfl rfl rfl (sem_move ((Value.string s1)) rfl ?_)
    refine Run.go rfl rfl rfl (sem_lenStr s1 rfl TF.isStr_9 ?_)
    obtain ⟨hT, hF⟩ := hS
    by_cases hb35 : (i4 : Int) ≤ ((ByteArray.size s1 : Nat))
    · have hS := hT hb35; clear hT hF
      refine Run.go rfl rfl rfl (sem_binI .i64 (i4) ((ByteArray.size s1 : Nat)) (.bool true) rfl rfl (binI_leq_t hb35) ?_)
      refine Run.go rfl rfl rfl (sem_pick true ((Value.bool true)) rfl rfl ?_)
      refine Run.region_end ?_
      refine Run.condT rfl ?_
      refine Run.skip ?_
      exact Run.of_fin (hS.imp fun h' hS => j10 _ _ ⟨⟨rfl, rfl, trivial⟩, hS⟩)
    · have hS := hF hb35; clear hT hF
      refine Run.go rfl rfl rfl (sem_binI .i64 (i4) ((ByteArray.size s1 : Nat)) (.bool false) rfl rfl (binI_leq_f hb35) ?_)
      refine Run.go rfl rfl rfl (sem_pick true ((Value.bool false)) rfl rfl ?_)
      refine Run.region_end ?_
      refine Run.condF rfl ?_
      refine Run.exit rfl ?_
      refine Run.seq ?_
      refine Run.ops0 (idx := [0, 1]) rfl ?_
      refine Run.go rfl rfl rfl (sem_assign ((Value.int .u64 (0))) rfl ?_)
      refine Run.go rfl rfl rfl (sem_assign ((Value.int .i64 (0))) rfl ?_)
      refine Run.region_end ?_
      refine Run.ret ⟨.inr rfl, ?_⟩
      exact hS.imp fun h' hq => ⟨(0), (0), rfl, hq⟩
  · have hS := hF hb34; clear hT hF
    refine Run.go rfl rfl rfl (sem_binI .i64 (i4) (10) (.bool false) rfl rfl (binI_leq_f hb34) ?_)
    refine Run.go rfl rfl rfl (sem_move ((Value.bool false)) rfl ?_)
    refine Run.no rfl rfl rfl ?_
    refine Run.no rfl rfl rfl ?_
    refine Run.no rfl rfl rfl ?_
    refine Run.no rfl rfl rfl ?_
    refine Run.go rfl rfl rfl (sem_pick false ((Value.bool false)) rfl rfl ?_)
    refine Run.region_end ?_
    refine Run.condF rfl ?_
    refine Run.exit rfl ?_
    refine Run.seq ?_
    refine Run.ops0 (idx := [0, 1]) rfl ?_
    refine Run.go rfl rfl rfl (sem_assign ((Value.int .u64 (0))) rfl ?_)
    refine Run.go rfl rfl rfl (sem_assign ((Value.int .i64 (0))) rfl ?_)
    refine Run.region_end ?_
    refine Run.ret ⟨.inr rfl, ?_⟩
    exact hS.imp fun h' hq => ⟨(0), (0), rfl, hq⟩
set_option maxHeartbeats 4000000 in
theorem C_stylus_Reader_Nat.of {B : RO} {p1 : Option Addr} {i2 : Int} {h : Heap} {Q : Int → Heap → Prop} (hS : S_stylus_Reader_Nat B p1 i2 h Q) : C_stylus_Reader_Nat B p1 i2 h Q := by
  unfold S_stylus_Reader_Nat at hS
  unfold C_stylus_Reader_Nat
  refine Spec.of_run Try.func18 (N := 20) (rs := [ResultVar.tmp 4]) rfl rfl rfl (Nat.le_of_ble_eq_true rfl) ?_
  refine Run.seq ?_
  refine Run.ops0 (idx := [0]) rfl ?_
  refine Run.go rfl rfl rfl (sem_assign ((Value.int .i64 (0))) rfl ?_)
  refine Run.region_end ?_
  refine Run.seq ?_
  refine Run.ops0 (idx := [0, 1, 2]) rfl ?_
  refine Run.go rfl rfl rfl (sem_move ((Value.pointer p1)) rfl ?_)
  refine Run.go rfl rfl rfl (sem_callL [(Value.pointer p1)] (TF.goes_73) rfl rfl (Spec.mono hS fun v h4 hv => ?_))
  obtain ⟨i5, rfl, hS⟩ := hv
  refine Run.go rfl rfl rfl (sem_assign ((Value.int .u64 (i5))) rfl ?_)
  refine Run.region_end ?_
  refine Run.seq ?_
  refine Run.seq ?_
  refine Run.ops0 (idx := [0, 1, 2, 3, 4, 5, 6, 7]) rfl ?_
  refine Run.go rfl rfl rfl (sem_move ((Value.int .i64 (i2))) rfl ?_)
  obtain ⟨hT, hF⟩ := hS
  by_cases hb6 : (i2 : Int) < (0)
  · have hS := hT hb6; clear hT hF
    refine Run.go rfl rfl rfl (sem_binI .i64 (i2) (0) (.bool true) rfl rfl (binI_lss_t hb6) ?_)
    refine Run.go rfl rfl rfl (sem_move ((Value.bool true)) rfl ?_)
    refine Run.no rfl rfl rfl ?_
    refine Run.no rfl rfl rfl ?_
    refine Run.no rfl rfl rfl ?_
    refine Run.no rfl rfl rfl ?_
    refine Run.go rfl rfl rfl (sem_pick true ((Value.bool true)) rfl rfl ?_)
    refine Run.region_end ?_
    refine Run.condT rfl ?_
    refine Run.seq ?_
    refine Run.ops0 (idx := [0, 1]) rfl ?_
    refine Run.go rfl rfl rfl (sem_move ((Value.pointer p1)) rfl ?_)
    refine Run.go rfl rfl rfl (sem_callL [(Value.pointer p1)] (TF.goes_26) rfl rfl (Spec.mono hS fun v h7 hv => ?_))
    obtain ⟨rfl, hS⟩ := hv
    refine Run.region_end ?_
    refine Run.seq ?_
    refine Run.ops0 (idx := [0]) rfl ?_
    refine Run.go rfl rfl rfl (sem_assign ((Value.int .i64 (0))) rfl ?_)
    refine Run.region_end ?_
    refine Run.ret ⟨.inr rfl, ?_⟩
    exact hS.imp fun h' hq => ⟨(0), rfl, hq⟩
  · have hS := hF hb6; clear hT hF
    refine Run.go rfl rfl rfl (sem_binI .i64 (i2) (0) (.bool false) rfl rfl (binI_lss_f hb6) ?_)
    refine Run.go rfl rfl rfl (sem_move ((Value.bool false)) rfl ?_)
    refine Run.go rfl rfl rfl (sem_move ((Value.int .u64 (i5))) rfl ?_)
    refine Run.go rfl rfl rfl (sem_move ((Value.int .i64 (i2))) rfl ?_)
    refine Run.go rfl rfl rfl (sem_convI .i64 .u64 (i2) rfl TF.int_3 TF.int_28 ?_)
    obtain ⟨hT, hF⟩ := hS
    by_cases hb8 : (i5 : Int) > (IntKind.wrap .u64 (i2))
    · have hS := hT hb8; clear hT hF
      refine Run.go rfl rfl rfl (sem_binI .u64 (i5) (IntKind.wrap .u64 (i2)) (.bool true) rfl rfl (binI_gtr_t hb8) ?_)
      refine Run.go rfl rfl rfl (sem_pick false ((Value.bool true)) rfl rfl ?_)
      refine Run.region_end ?_
      refine Run.condT rfl ?_
      refine Run.seq ?_
      refine Run.ops0 (idx := [0, 1]) rfl ?_
      refine Run.go rfl rfl rfl (sem_move ((Value.pointer p1)) rfl ?_)
      refine Run.go rfl rfl rfl (sem_callL [(Value.pointer p1)] (TF.goes_26) rfl rfl (Spec.mono hS fun v h9 hv => ?_))
      obtain ⟨rfl, hS⟩ := hv
      refine Run.region_end ?_
      refine Run.seq ?_
      refine Run.ops0 (idx := [0]) rfl ?_
      refine Run.go rfl rfl rfl (sem_assign ((Value.int .i64 (0))) rfl ?_)
      refine Run.region_end ?_
      refine Run.ret ⟨.inr rfl, ?_⟩
      exact hS.imp fun h' hq => ⟨(0), rfl, hq⟩
    · have hS := hF hb8; clear hT hF
      refine Run.go rfl rfl rfl (sem_binI .u64 (i5) (IntKind.wrap .u64 (i2)) (.bool false) rfl rfl (binI_gtr_f hb8) ?_)
      refine Run.go rfl rfl rfl (sem_pick false ((Value.bool false)) rfl rfl ?_)
      refine Run.region_end ?_
      refine Run.condF rfl ?_
      refine Run.skip ?_
      refine Run.seq ?_
      refine Run.ops0 (idx := [0, 1, 2]) rfl ?_
      refine Run.go rfl rfl rfl (sem_move ((Value.int .u64 (i5))) rfl ?_)
      refine Run.go rfl rfl rfl (sem_convI .u64 .i64 (i5) rfl TF.int_28 TF.int_3 ?_)
      refine Run.go rfl rfl rfl (sem_assign ((Value.int .i64 (IntKind.wrap .i64 (i5)))) rfl ?_)
      refine Run.region_end ?_
      refine Run.ret ⟨.inr rfl, ?_⟩
      exact hS.imp fun h' hq => ⟨(IntKind.wrap .i64 (i5)), rfl, hq⟩
set_option maxHeartbeats 4000000 in
theorem C_stylus_Reader_Raw.of {B : RO} {p1 : Option Addr} {i2 : Int} {h : Heap} {Q : ByteArray → Heap → Prop} (hS : S_stylus_Reader_Raw B p1 i2 h Q) : C_stylus_Reader_Raw B p1 i2 h Q := by
  unfold S_stylus_Reader_Raw at hS
  unfold C_stylus_Reader_Raw
  refine Spec.of_run Try.func21 (N := 45) (rs := [ResultVar.tmp 4]) rfl rfl rfl (Nat.le_of_ble_eq_true rfl) ?_
  refine Run.seq ?_
  refine Run.ops0 (idx := [0]) rfl ?_
  refine Run.go rfl rfl rfl (sem_assign ((Value.string (ByteArray.mk #[]))) rfl ?_)
  refine Run.region_end ?_
  refine Run.seqJ (fun e h5 => Agree [(0, (Value.pointer p1)), (1, (Value.int .i64 (i2)))] e ∧ S_stylus_Reader_Raw_J1 B p1 i2 h5 Q) ?_ fun j4 => ?_
  · rintro e h5 ⟨hag, hS⟩
    refine Run.env hag ?_; clear hag
    refine Run.seq ?_
    refine Run.ops0 (idx := [0, 1, 2, 3, 4, 5, 6]) rfl ?_
    refine Run.go rfl rfl rfl (sem_move ((Value.pointer p1)) rfl ?_)
    obtain ⟨A6, e7, hS⟩ := hS
    refine Run.go rfl rfl rfl (sem_nilCheck A6 (congrArg Value.pointer e7) ?_)
    refine Run.go rfl rfl rfl (sem_fieldAddr A6 0 rfl TF.fld_137_0 ?_)
    obtain ⟨s8, hl, hS⟩ := hS
    refine Run.go rfl rfl rfl (sem_load1 A6 ((Value.string s8)) rfl TF.agg_9 hl ?_)
    refine Run.go rfl rfl rfl (sem_move ((Value.int .i64 (i2))) rfl ?_)
    obtain ⟨hi0, hi1, hi2, hS⟩ := hS
    refine Run.go rfl rfl rfl (sem_sliceStrI s8 (0) (i2) rfl TF.isStr_9 rfl ⟨_, rfl⟩ hi0 hi1 hi2 ?_)
    refine Run.go rfl rfl rfl (sem_assign ((Value.string (ByteArray.extract s8 (Int.toNat (0)) (Int.toNat (i2))))) rfl ?_)
    refine Run.region_end ?_
    refine Run.seq ?_
    refine Run.ops0 (idx := [0, 1, 2, 3, 4, 5, 6, 7, 8, 9]) rfl ?_
    refine Run.go rfl rfl rfl (sem_move ((Value.pointer p1)) rfl ?_)
    refine Run.go rfl rfl rfl (sem_move ((Value.pointer p1)) rfl ?_)
    obtain ⟨A9, e10, hS⟩ := hS
    refine Run.go rfl rfl rfl (sem_nilCheck A9 (congrArg Value.pointer e10) ?_)
    refine Run.go rfl rfl rfl (sem_fieldAddr A9 0 rfl TF.fld_137_0 ?_)
    obtain ⟨s11, hl, hS⟩ := hS
    refine Run.go rfl rfl rfl (sem_load1 A9 ((Value.string s11)) rfl TF.agg_9 hl ?_)
    refine Run.go rfl rfl rfl (sem_move ((Value.int .i64 (i2))) rfl ?_)
    obtain ⟨hi0, hi1, hi2, hS⟩ := hS
    refine Run.go rfl rfl rfl (sem_sliceStrI s11 (i2) ((ByteArray.size s11 : Nat)) rfl TF.isStr_9 ⟨_, rfl⟩ rfl hi0 hi1 hi2 ?_)
    obtain ⟨A12, e13, hS⟩ := hS
    refine Run.go rfl rfl rfl (sem_nilCheck A12 (congrArg Value.pointer e13) ?_)
    refine Run.go rfl rfl rfl (sem_fieldAddr A12 0 rfl TF.fld_137_0 ?_)
    obtain ⟨h14, hst, hS⟩ := hS
    refine Run.go rfl rfl rfl (sem_store1 A12 ((Value.string (ByteArray.extract s11 (Int.toNat (i2)) (Int.toNat ((ByteArray.size s11 : Nat)))))) h14 rfl rfl rfl TF.sz_9 hst ?_)
    refine Run.region_end ?_
    refine Run.seq ?_
    refine Run.ops0 (idx := [0, 1]) rfl ?_
    refine Run.go rfl rfl rfl (sem_move ((Value.string (ByteArray.extract s8 (Int.toNat (0)) (Int.toNat (i2))))) rfl ?_)
    refine Run.go rfl rfl rfl (sem_assign ((Value.string (ByteArray.extract s8 (Int.toNat (0)) (Int.toNat (i2))))) rfl ?_)
    refine Run.region_end ?_
    refine Run.ret ⟨.inr rfl, ?_⟩
    exact hS.imp fun h' hq => ⟨(ByteArray.extract s8 (Int.toNat (0)) (Int.toNat (i2))), rfl, hq⟩
  refine Run.seq ?_
  refine Run.ops0 (idx := [0, 1, 2, 3, 4, 5, 6, 7, 8, 9, 10, 11, 12, 13, 14, 15, 16, 17, 18, 19, 20]) rfl ?_
  refine Run.go rfl rfl rfl (sem_move ((Value.pointer p1)) rfl ?_)
  obtain ⟨hT, hF⟩ := hS
  by_cases hb15 : p1 = none
  · have hS := hT hb15; clear hT hF
    refine Run.go rfl rfl rfl (sem_ptrNilT p1 (.inl rfl) true rfl rfl TF.ptr_24 hb15 rfl ?_)
    refine Run.go rfl rfl rfl (sem_move ((Value.bool true)) rfl ?_)
    refine Run.no rfl rfl rfl ?_
    refine Run.no rfl rfl rfl ?_
    refine Run.no rfl rfl rfl ?_
    refine Run.no rfl rfl rfl ?_
    refine Run.go rfl rfl rfl (sem_pick true ((Value.bool true)) rfl rfl ?_)
    refine Run.go rfl rfl rfl (sem_move ((Value.bool true)) rfl ?_)
    refine Run.no rfl rfl rfl ?_
    refine Run.no rfl rfl rfl ?_
    refine Run.go rfl rfl rfl (sem_pick true ((Value.bool true)) rfl rfl ?_)
    refine Run.go rfl rfl rfl (sem_move ((Value.bool true)) rfl ?_)
    refine Run.no rfl rfl rfl ?_
    refine Run.no rfl rfl rfl ?_
    refine Run.no rfl rfl rfl ?_
    refine Run.no rfl rfl rfl ?_
    refine Run.no rfl rfl rfl ?_
    refine Run.no rfl rfl rfl ?_
    refine Run.no rfl rfl rfl ?_
    refine Run.go rfl rfl rfl (sem_pick true ((Value.bool true)) rfl rfl ?_)
    refine Run.region_end ?_
    refine Run.condT rfl ?_
    refine Run.seq ?_
    refine Run.ops0 (idx := [0, 1]) rfl ?_
    refine Run.go rfl rfl rfl (sem_move ((Value.pointer p1)) rfl ?_)
    refine Run.go rfl rfl rfl (sem_callL [(Value.pointer p1)] (TF.goes_26) rfl rfl (Spec.mono hS fun v h16 hv => ?_))
    obtain ⟨rfl, hS⟩ := hv
    refine Run.region_end ?_
    refine Run.seq ?_
    refine Run.ops0 (idx := [0]) rfl ?_
    refine Run.go rfl rfl rfl (sem_assign ((Value.string (ByteArray.mk #[]))) rfl ?_)
    refine Run.region_end ?_
    refine Run.ret ⟨.inr rfl, ?_⟩
    exact hS.imp fun h' hq => ⟨(ByteArray.mk #[]), rfl, hq⟩
  · have hS := hF hb15; clear hT hF
    refine Run.go rfl rfl rfl (sem_ptrNilF p1 (.inl rfl) false rfl rfl TF.ptr_24 hb15 rfl ?_)
    refine Run.go rfl rfl rfl (sem_move ((Value.bool false)) rfl ?_)
    refine Run.go rfl rfl rfl (sem_move ((Value.pointer p1)) rfl ?_)
    obtain ⟨A17, e18, hS⟩ := hS
    refine Run.go rfl rfl rfl (sem_nilCheck A17 (congrArg Value.pointer e18) ?_)
    refine Run.go rfl rfl rfl (sem_fieldAddr A17 1 rfl TF.fld_137_1 ?_)
    obtain ⟨b19, hl, hS⟩ := hS
    obtain ⟨hT, hF⟩ := hS
    cases b19
    · have hS := hF rfl; clear hT hF
      refine Run.go rfl rfl rfl (sem_load1 (Addr.add A17 1) (.bool false) rfl TF.agg_4 hl ?_)
      refine Run.go rfl rfl rfl (sem_pick false ((Value.bool false)) rfl rfl ?_)
      refine Run.go rfl rfl rfl (sem_move ((Value.bool false)) rfl ?_)
      refine Run.go rfl rfl rfl (sem_move ((Value.int .i64 (i2))) rfl ?_)
      obtain ⟨hT, hF⟩ := hS
      by_cases hb20 : (i2 : Int) < (0)
      · have hS := hT hb20; clear hT hF
        refine Run.go rfl rfl rfl (sem_binI .i64 (i2) (0) (.bool true) rfl rfl (binI_lss_t hb20) ?_)
        refine Run.go rfl rfl rfl (sem_pick false ((Value.bool true)) rfl rfl ?_)
        refine Run.go rfl rfl rfl (sem_move ((Value.bool true)) rfl ?_)
        refine Run.no rfl rfl rfl ?_
        refine Run.no rfl rfl rfl ?_
        refine Run.no rfl rfl rfl ?_
        refine Run.no rfl rfl rfl ?_
        refine Run.no rfl rfl rfl ?_
        refine Run.no rfl rfl rfl ?_
        refine Run.no rfl rfl rfl ?_
        refine Run.go rfl rfl rfl (sem_pick true ((Value.bool true)) rfl rfl ?_)
        refine Run.region_end ?_
        refine Run.condT rfl ?_
        refine Run.seq ?_
        refine Run.ops0 (idx := [0, 1]) rfl ?_
        refine Run.go rfl rfl rfl (sem_move ((Value.pointer p1)) rfl ?_)
        refine Run.go rfl rfl rfl (sem_callL [(Value.pointer p1)] (TF.goes_26) rfl rfl (Spec.mono hS fun v h21 hv => ?_))
        obtain ⟨rfl, hS⟩ := hv
        refine Run.region_end ?_
        refine Run.seq ?_
        refine Run.ops0 (idx := [0]) rfl ?_
        refine Run.go rfl rfl rfl (sem_assign ((Value.string (ByteArray.mk #[]))) rfl ?_)
        refine Run.region_end ?_
        refine Run.ret ⟨.inr rfl, ?_⟩
        exact hS.imp fun h' hq => ⟨(ByteArray.mk #[]), rfl, hq⟩
      · have hS := hF hb20; clear hT hF
        refine Run.go rfl rfl rfl (sem_binI .i64 (i2) (0) (.bool false) rfl rfl (binI_lss_f hb20) ?_)
        refine Run.go rfl rfl rfl (sem_pick false ((Value.bool false)) rfl rfl ?_)
        refine Run.go rfl rfl rfl (sem_move ((Value.bool false)) rfl ?_)
        refine Run.go rfl rfl rfl (sem_move ((Value.int .i64 (i2))) rfl ?_)
        refine Run.go rfl rfl rfl (sem_move ((Value.pointer p1)) rfl ?_)
        obtain ⟨A22, e23, hS⟩ := hS
        refine Run.go rfl rfl rfl (sem_nilCheck A22 (congrArg Value.pointer e23) ?_)
        refine Run.go rfl rfl rfl (sem_fieldAddr A22 0 rfl TF.fld_137_0 ?_)
        obtain ⟨s24, hl, hS⟩ := hS
        refine Run.go rfl rfl rfl (sem_load1 A22 ((Value.string s24)) rfl TF.agg_9 hl ?_)
        refine Run.go rfl rfl rfl (sem_lenStr s24 rfl TF.isStr_9 ?_)
        obtain ⟨hT, hF⟩ := hS
        by_cases hb25 : (i2 : Int) > ((ByteArray.size s24 : Nat))
        · have hS := hT hb25; clear hT hF
          refine Run.go rfl rfl rfl (sem_binI .i64 (i2) ((ByteArray.size s24 : Nat)) (.bool true) rfl rfl (binI_gtr_t hb25) ?_)
          refine Run.go rfl rfl rfl (sem_pick false ((Value.bool true)) rfl rfl ?_)
          refine Run.region_end ?_
          refine Run.condT rfl ?_
          refine Run.seq ?_
          refine Run.ops0 (idx := [0, 1]) rfl ?_
          refine Run.go rfl rfl rfl (sem_move ((Value.pointer p1)) rfl ?_)
          refine Run.go rfl rfl rfl (sem_callL [(Value.pointer p1)] (TF.goes_26) rfl rfl (Spec.mono hS fun v h26 hv => ?_))
          obtain ⟨rfl, hS⟩ := hv
          refine Run.region_end ?_
          refine Run.seq ?_
          refine Run.ops0 (idx := [0]) rfl ?_
          refine Run.go rfl rfl rfl (sem_assign ((Value.string (ByteArray.mk #[]))) rfl ?_)
          refine Run.region_end ?_
          refine Run.ret ⟨.inr rfl, ?_⟩
          exact hS.imp fun h' hq => ⟨(ByteArray.mk #[]), rfl, hq⟩
        · have hS := hF hb25; clear hT hF
          refine Run.go rfl rfl rfl (sem_binI .i64 (i2) ((ByteArray.size s24 : Nat)) (.bool false) rfl rfl (binI_gtr_f hb25) ?_)
          refine Run.go rfl rfl rfl (sem_pick false ((Value.bool false)) rfl rfl ?_)
          refine Run.region_end ?_
          refine Run.condF rfl ?_
          refine Run.skip ?_
          exact Run.of_fin (hS.imp fun h' hS => j4 _ _ ⟨⟨rfl, rfl, trivial⟩, hS⟩)
    · have hS := hT rfl; clear hT hF
      refine Run.go rfl rfl rfl (sem_load1 (Addr.add A17 1) (.bool true) rfl TF.agg_4 hl ?_)
      refine Run.go rfl rfl rfl (sem_pick false ((Value.bool true)) rfl rfl ?_)
      refine Run.go rfl rfl rfl (sem_move ((Value.bool true)) rfl ?_)
      refine Run.no rfl rfl rfl ?_
      refine Run.no rfl rfl rfl ?_
      refine Run.go rfl rfl rfl (sem_pick true ((Value.bool true)) rfl rfl ?_)
      refine Run.go rfl rfl rfl (sem_move ((Value.bool true)) rfl ?_)
      refine Run.no rfl rfl rfl ?_
      refine Run.no rfl rfl rfl ?_
      refine Run.no rfl rfl rfl ?_
      refine Run.no rfl rfl rfl ?_
      refine Run.no rfl rfl rfl ?_
      refine Run.no rfl rfl rfl ?_
      refine Run.no rfl rfl rfl ?_
      refine Run.go rfl rfl rfl (sem_pick true ((Value.bool true)) rfl rfl ?_)
      refine Run.region_end ?_
      refine Run.condT rfl ?_
      refine Run.seq ?_
      refine Run.ops0 (idx := [0, 1]) rfl ?_
      refine Run.go rfl rfl rfl (sem_move ((Value.pointer p1)) rfl ?_)
      refine Run.go rfl rfl rfl (sem_callL [(Value.pointer p1)] (TF.goes_26) rfl rfl (Spec.mono hS fun v h27 hv => ?_))
      obtain ⟨rfl, hS⟩ := hv
      refine Run.region_end ?_
      refine Run.seq ?_
      refine Run.ops0 (idx := [0]) rfl ?_
      refine Run.go rfl rfl rfl (sem_assign ((Value.string (ByteArray.mk #[]))) rfl ?_)
      refine Run.region_end ?_
      refine Run.ret ⟨.inr rfl, ?_⟩
      exact hS.imp fun h' hq => ⟨(ByteArray.mk #[]), rfl, hq⟩
set_option maxHeartbeats 4000000 in
theorem C_stylus_Reader_Text.of {B : RO} {p1 : Option Addr} {i2 : Int} {h : Heap} {Q : ByteArray → Heap → Prop} (hS : S_stylus_Reader_Text B p1 i2 h Q) : C_stylus_Reader_Text B p1 i2 h Q := by
  unfold S_stylus_Reader_Text at hS
  unfold C_stylus_Reader_Text
  refine Spec.of_run Try.func22 (N := 10) (rs := [ResultVar.tmp 4]) rfl rfl rfl (Nat.le_of_ble_eq_true rfl) ?_
  refine Run.seq ?_
  refine Run.ops0 (idx := [0]) rfl ?_
  refine Run.go rfl rfl rfl (sem_assign ((Value.string (ByteArray.mk #[]))) rfl ?_)
  refine Run.region_end ?_
  refine Run.seq ?_
  refine Run.ops0 (idx := [0, 1, 2, 3, 4, 5]) rfl ?_
  refine Run.go rfl rfl rfl (sem_move ((Value.pointer p1)) rfl ?_)
  refine Run.go rfl rfl rfl (sem_move ((Value.pointer p1)) rfl ?_)
  refine Run.go rfl rfl rfl (sem_move ((Value.int .i64 (i2))) rfl ?_)
  refine Run.go rfl rfl rfl (sem_callL [(Value.pointer p1), (Value.int .i64 (i2))] (TF.goes_18) rfl rfl (Spec.mono hS fun v h4 hv => ?_))
  obtain ⟨i5, rfl, hS⟩ := hv
  refine Run.go rfl rfl rfl (sem_callL [(Value.pointer p1), (Value.int .i64 (i5))] (TF.goes_21) rfl rfl (Spec.mono hS fun v h6 hv => ?_))
  obtain ⟨s7, rfl, hS⟩ := hv
  refine Run.go rfl rfl rfl (sem_assign ((Value.string s7)) rfl ?_)
  refine Run.region_end ?_
  refine Run.ret ⟨.inr rfl, ?_⟩
  exact hS.imp fun h' hq => ⟨s7, rfl, hq⟩
set_option maxHeartbeats 4000000 in
theorem C_stylus_Reader_Bad.of {B : RO} {p1 : Option Addr} {h : Heap} {Q : Bool → Heap → Prop} (hS : S_stylus_Reader_Bad B p1 h Q) : C_stylus_Reader_Bad B p1 h Q := by
  unfold S_stylus_Reader_Bad at hS
  unfold C_stylus_Reader_Bad
  refine Spec.of_run Try.func23 (N := 11) (rs := [ResultVar.tmp 2]) rfl rfl rfl (Nat.le_of_ble_eq_true rfl) ?_
  refine Run.seq ?_
  refine Run.ops0 (idx := [0]) rfl ?_
  refine Run.go rfl rfl rfl (sem_assign ((Value.bool false)) rfl ?_)
  refine Run.region_end ?_
  refine Run.seq ?_
  refine Run.ops0 (idx := [0, 1, 2, 3, 4, 5, 6, 7, 8]) rfl ?_
  refine Run.go rfl rfl rfl (sem_move ((Value.pointer p1)) rfl ?_)
  obtain ⟨hT, hF⟩ := hS
  by_cases hb3 : p1 = none
  · have hS := hT hb3; clear hT hF
    refine Run.go rfl rfl rfl (sem_ptrNilT p1 (.inl rfl) true rfl rfl TF.ptr_24 hb3 rfl ?_)
    refine Run.go rfl rfl rfl (sem_move ((Value.bool true)) rfl ?_)
    refine Run.no rfl rfl rfl ?_
    refine Run.no rfl rfl rfl ?_
    refine Run.no rfl rfl rfl ?_
    refine Run.no rfl rfl rfl ?_
    refine Run.go rfl rfl rfl (sem_pick true ((Value.bool true)) rfl rfl ?_)
    refine Run.go rfl rfl rfl (sem_assign ((Value.bool true)) rfl ?_)
    refine Run.region_end ?_
    refine Run.ret ⟨.inr rfl, ?_⟩
    exact hS.imp fun h' hq => ⟨(true), rfl, hq⟩
  · have hS := hF hb3; clear hT hF
    refine Run.go rfl rfl rfl (sem_ptrNilF p1 (.inl rfl) false rfl rfl TF.ptr_24 hb3 rfl ?_)
    refine Run.go rfl rfl rfl (sem_move ((Value.bool false)) rfl ?_)
    refine Run.go rfl rfl rfl (sem_move ((Value.pointer p1)) rfl ?_)
    obtain ⟨A4, e5, hS⟩ := hS
    refine Run.go rfl rfl rfl (sem_nilCheck A4 (congrArg Value.pointer e5) ?_)
    refine Run.go rfl rfl rfl (sem_fieldAddr A4 1 rfl TF.fld_137_1 ?_)
    obtain ⟨b6, hl, hS⟩ := hS
    refine Run.go rfl rfl rfl (sem_load1 (Addr.add A4 1) ((Value.bool b6)) rfl TF.agg_4 hl ?_)
    refine Run.go rfl rfl rfl (sem_pick false ((Value.bool b6)) rfl rfl ?_)
    refine Run.go rfl rfl rfl (sem_assign ((Value.bool b6)) rfl ?_)
    refine Run.region_end ?_
    refine Run.ret ⟨.inr rfl, ?_⟩
    exact hS.imp fun h' hq => ⟨(b6), rfl, hq⟩
set_option maxHeartbeats 4000000 in
theorem C_stylus_Reader_Left.of {B : RO} {p1 : Option Addr} {h : Heap} {Q : Int → Heap → Prop} (hS : S_stylus_Reader_Left B p1 h Q) : C_stylus_Reader_Left B p1 h Q := by
  unfold S_stylus_Reader_Left at hS
  unfold C_stylus_Reader_Left
  refine Spec.of_run Try.func24 (N := 10) (rs := [ResultVar.tmp 2]) rfl rfl rfl (Nat.le_of_ble_eq_true rfl) ?_
  refine Run.seq ?_
  refine Run.ops0 (idx := [0]) rfl ?_
  refine Run.go rfl rfl rfl (sem_assign ((Value.int .i64 (0))) rfl ?_)
  refine Run.region_end ?_
  refine Run.seq ?_
  refine Run.seq ?_
  refine Run.ops0 (idx := [0, 1]) rfl ?_
  refine Run.go rfl rfl rfl (sem_move ((Value.pointer p1)) rfl ?_)
  obtain ⟨hT, hF⟩ := hS
  by_cases hb3 : p1 = none
  · have hS := hT hb3; clear hT hF
    refine Run.go rfl rfl rfl (sem_ptrNilT p1 (.inl rfl) true rfl rfl TF.ptr_24 hb3 rfl ?_)
    refine Run.region_end ?_
    refine Run.condT rfl ?_
    refine Run.seq ?_
    refine Run.ops0 (idx := [0]) rfl ?_
    refine Run.go rfl rfl rfl (sem_assign ((Value.int .i64 (0))) rfl ?_)
    refine Run.region_end ?_
    refine Run.ret ⟨.inr rfl, ?_⟩
    exact hS.imp fun h' hq => ⟨(0), rfl, hq⟩
  · have hS := hF hb3; clear hT hF
    refine Run.go rfl rfl rfl (sem_ptrNilF p1 (.inl rfl) false rfl rfl TF.ptr_24 hb3 rfl ?_)
    refine Run.region_end ?_
    refine Run.condF rfl ?_
    refine Run.skip ?_
    refine Run.seq ?_
    refine Run.ops0 (idx := [0, 1, 2, 3, 4, 5]) rfl ?_
    refine Run.go rfl rfl rfl (sem_move ((Value.pointer p1)) rfl ?_)
    obtain ⟨A4, e5, hS⟩ := hS
    refine Run.go rfl rfl rfl (sem_nilCheck A4 (congrArg Value.pointer e5) ?_)
    refine Run.go rfl rfl rfl (sem_fieldAddr A4 0 rfl TF.fld_137_0 ?_)
    obtain ⟨s6, hl, hS⟩ := hS
    refine Run.go rfl rfl rfl (sem_load1 A4 ((Value.string s6)) rfl TF.agg_9 hl ?_)
    refine Run.go rfl rfl rfl (sem_lenStr s6 rfl TF.isStr_9 ?_)
    refine Run.go rfl rfl rfl (sem_assign ((Value.int .i64 ((ByteArray.size s6 : Nat)))) rfl ?_)
    refine Run.region_end ?_
    refine Run.ret ⟨.inr rfl, ?_⟩
    exact hS.imp fun h' hq => ⟨((ByteArray.size s6 : Nat)), rfl, hq⟩
set_option maxHeartbeats 4000000 in
theorem C_stylus_Reader_Spoil.of {B : RO} {p1 : Option Addr} {h : Heap} {Q : Heap → Prop} (hS : S_stylus_Reader_Spoil B p1 h Q) : C_stylus_Reader_Spoil B p1 h Q := by
  unfold S_stylus_Reader_Spoil at hS
  unfold C_stylus_Reader_Spoil
  refine Spec.of_run Try.func26 (N := 10) (rs := []) rfl rfl rfl (Nat.le_of_ble_eq_true rfl) ?_
  refine Run.seq ?_
  refine Run.ops0 (idx := [0, 1]) rfl ?_
  refine Run.go rfl rfl rfl (sem_move ((Value.pointer p1)) rfl ?_)
  obtain ⟨hT, hF⟩ := hS
  by_cases hb2 : p1 = none
  · have hS := hT hb2; clear hT hF
    refine Run.go rfl rfl rfl (sem_ptrNilT p1 (.inr rfl) false rfl rfl TF.ptr_24 hb2 rfl ?_)
    refine Run.region_end ?_
    refine Run.condF rfl ?_
    refine Run.skip ?_
    refine Run.fall ⟨.inl rfl, ?_⟩
    exact hS.imp fun h' hq => ⟨rfl, hq⟩
  · have hS := hF hb2; clear hT hF
    refine Run.go rfl rfl rfl (sem_ptrNilF p1 (.inr rfl) true rfl rfl TF.ptr_24 hb2 rfl ?_)
    refine Run.region_end ?_
    refine Run.condT rfl ?_
    refine Run.ops0 (idx := [0, 1, 2, 3, 4, 5, 6, 7]) rfl ?_
    refine Run.go rfl rfl rfl (sem_move ((Value.pointer p1)) rfl ?_)
    refine Run.go rfl rfl rfl (sem_move ((Value.pointer p1)) rfl ?_)
    obtain ⟨A3, e4, hS⟩ := hS
    refine Run.go rfl rfl rfl (sem_nilCheck A3 (congrArg Value.pointer e4) ?_)
    refine Run.go rfl rfl rfl (sem_fieldAddr A3 0 rfl TF.fld_137_0 ?_)
    obtain ⟨h5, hst, hS⟩ := hS
    refine Run.go rfl rfl rfl (sem_store1 A3 ((Value.string (ByteArray.mk #[]))) h5 rfl rfl rfl TF.sz_9 hst ?_)
    obtain ⟨A6, e7, hS⟩ := hS
    refine Run.go rfl rfl rfl (sem_nilCheck A6 (congrArg Value.pointer e7) ?_)
    refine Run.go rfl rfl rfl (sem_fieldAddr A6 1 rfl TF.fld_137_1 ?_)
    obtain ⟨h8, hst, hS⟩ := hS
    refine Run.go rfl rfl rfl (sem_store1 (Addr.add A6 1) ((Value.bool true)) h8 rfl rfl rfl TF.sz_4 hst ?_)
    refine Run.region_end ?_
    refine Run.fall ⟨.inl rfl, ?_⟩
    exact hS.imp fun h' hq => ⟨rfl, hq⟩
set_option maxHeartbeats 4000000 in
theorem C_stylus_Stylus_Text.of {B : RO} {p1 : Option Addr} {a2 : Option Addr} {n3 : Nat} {c4 : Nat} {h : Heap} {Q : Heap → Prop} (hS : S_stylus_Stylus_Text B p1 a2 n3 c4 h Q) : C_stylus_Stylus_Text B p1 a2 n3 c4 h Q := by
  unfold S_stylus_Stylus_Text at hS
  unfold C_stylus_Stylus_Text
  refine Spec.of_run Try.func27 (N := 21) (rs := []) rfl rfl rfl (Nat.le_of_ble_eq_true rfl) ?_
  refine Run.seq ?_
  refine Run.ops0 (idx := [0, 1, 2]) rfl ?_
  refine Run.go rfl rfl rfl (sem_move ((Value.slice a2 n3 c4)) rfl ?_)
  refine Run.go rfl rfl rfl (sem_lenSl a2 n3 c4 rfl TF.sl_36 ?_)
  refine Run.go rfl rfl rfl (sem_move ((Value.int .i64 (0))) rfl ?_)
  refine Run.region_end ?_
  refine Run.block ?_
  obtain ⟨J10, m8, h0, hS⟩ := hS
  refine Run.of_fin (h0.imp fun h' h0 => ?_)
  refine Run.loop (σ := Int × Nat) (fun x e h => J10 x.1 x.2 h ∧ Agree [(0, (Value.pointer p1)), (6, (Value.slice a2 n3 c4)), (7, (Value.int .i64 ((n3 : Nat)))), (8, (Value.int .i64 (x.1)))] e) (fun x => x.2) ((0), m8) ⟨h0, ⟨rfl, rfl, rfl, rfl, trivial⟩⟩ ?_; clear h0
  rintro ⟨i5, m7⟩ e h6 ⟨hJ, hag⟩ ih9
  have hS := hS i5 m7 h6 hJ; clear hJ
  refine Run.env hag ?_; clear hag
  refine Run.seq ?_
  refine Run.ops0 (idx := [0]) rfl ?_
  obtain ⟨hT, hF⟩ := hS
  by_cases hb11 : (i5 : Int) < ((n3 : Nat))
  · have hS := hT hb11; clear hT hF
    refine Run.go rfl rfl rfl (sem_binI .i64 (i5) ((n3 : Nat)) (.bool true) rfl rfl (binI_lss_t hb11) ?_)
    refine Run.region_end ?_
    refine Run.seq ?_
    refine Run.condT rfl ?_
    refine Run.skip ?_
    refine Run.seq ?_
    refine Run.block ?_
    refine Run.seq ?_
    refine Run.ops0 (idx := [0, 1, 2]) rfl ?_
    obtain ⟨A12, e13, hi0, hi1, hS⟩ := hS
    refine Run.go rfl rfl rfl (sem_indexAddrS A12 n3 c4 .i64 (i5) (congrArg (fun a => Value.slice a n3 c4) e13) rfl TF.slc_36 hi0 hi1 ?_)
    obtain ⟨s14, hl, hS⟩ := hS
    refine Run.go rfl rfl rfl (sem_load1 (Addr.add A12 (Int.toNat (i5) * 1)) ((Value.string s14)) rfl TF.agg_9 hl ?_)
    refine Run.go rfl rfl rfl (sem_assign ((Value.string s14)) rfl ?_)
    refine Run.region_end ?_
    refine Run.seq ?_
    refine Run.ops0 (idx := [0, 1, 2, 3, 4]) rfl ?_
    refine Run.go rfl rfl rfl (sem_move ((Value.pointer p1)) rfl ?_)
    refine Run.go rfl rfl rfl (sem_move ((Value.string s14)) rfl ?_)
    refine Run.go rfl rfl rfl (sem_lenStr s14 rfl TF.isStr_9 ?_)
    refine Run.go rfl rfl rfl (sem_buildSliceL [(0, (Value.int .i64 ((ByteArray.size s14 : Nat))))] [(Value.int .i64 ((ByteArray.size s14 : Nat)))] TF.slc_84 TF.zero_3 rfl (by decide) (by decide) rfl rfl (fun k15 hb1 hb2 h16 hb3 => ?_))
    have hS := hS k15 hb1 hb2 h16 hb3
    refine Run.go rfl rfl rfl (sem_callL [(Value.pointer p1), (Value.slice (some ⟨k15, 0, none⟩) 1 1)] (TF.goes_70) rfl rfl (Spec.mono hS fun v h17 hv => ?_))
    obtain ⟨rfl, hS⟩ := hv
    refine Run.region_end ?_
    refine Run.ops0 (idx := [0, 1, 2]) rfl ?_
    refine Run.go rfl rfl rfl (sem_move ((Value.pointer p1)) rfl ?_)
    refine Run.go rfl rfl rfl (sem_move ((Value.string s14)) rfl ?_)
    refine Run.go rfl rfl rfl (sem_callL [(Value.pointer p1), (Value.string s14)] (TF.goes_74) rfl rfl (Spec.mono hS fun v h18 hv => ?_))
    obtain ⟨rfl, hS⟩ := hv
    refine Run.region_end ?_
    refine Run.inBlock ?_
    refine Run.ops0 (idx := [0, 1]) rfl ?_
    refine Run.go rfl rfl rfl (sem_binI .i64 (i5) (1) ((Value.int .i64 (IntKind.wrap .i64 ((i5) + (1))))) rfl rfl rfl ?_)
    refine Run.go rfl rfl rfl (sem_move ((Value.int .i64 (IntKind.wrap .i64 ((i5) + (1))))) rfl ?_)
    refine Run.region_end ?_
    exact Run.of_fin (hS.imp fun h' ⟨m', hm, hS⟩ => ih9 ((IntKind.wrap .i64 ((i5) + (1))), m') _ _ ⟨hS, ⟨rfl, rfl, rfl, rfl, trivial⟩⟩ hm)
  · have hS := hF hb11; clear hT hF
    refine Run.go rfl rfl rfl (sem_binI .i64 (i5) ((n3 : Nat)) (.bool false) rfl rfl (binI_lss_f hb11) ?_)
    refine Run.region_end ?_
    refine Run.seq ?_
    refine Run.condF rfl ?_
    refine Run.exit rfl ?_
    refine Run.fall ⟨.inl rfl, ?_⟩
    exact hS.imp fun h' hq => ⟨rfl, hq⟩
set_option maxHeartbeats 4000000 in
theorem C_stylus_Stylus_Bytes.of {B : RO} {p1 : Option Addr} {h : Heap} {Q : ByteArray → Heap → Prop} (hS : S_stylus_Stylus_Bytes B p1 h Q) : C_stylus_Stylus_Bytes B p1 h Q := by
  unfold S_stylus_Stylus_Bytes at hS
  unfold C_stylus_Stylus_Bytes
  refine Spec.of_run Try.func28 (N := 8) (rs := [ResultVar.tmp 2]) rfl rfl rfl (Nat.le_of_ble_eq_true rfl) ?_
  refine Run.seq ?_
  refine Run.ops0 (idx := [0]) rfl ?_
  refine Run.go rfl rfl rfl (sem_assign ((Value.string (ByteArray.mk #[]))) rfl ?_)
  refine Run.region_end ?_
  refine Run.seq ?_
  refine Run.ops0 (idx := [0, 1, 2, 3, 4, 5]) rfl ?_
  refine Run.go rfl rfl rfl (sem_move ((Value.pointer p1)) rfl ?_)
  obtain ⟨A3, e4, hS⟩ := hS
  refine Run.go rfl rfl rfl (sem_nilCheck A3 (congrArg Value.pointer e4) ?_)
  refine Run.go rfl rfl rfl (sem_fieldAddr A3 0 rfl TF.fld_40_0 ?_)
  refine Run.ldSl hS fun a5 n6 c7 h8 hl hS => ?_
  refine Run.go rfl rfl rfl (sem_load1 A3 ((Value.slice a5 n6 c7)) rfl TF.agg_38 hl ?_)
  refine Run.go rfl rfl rfl (sem_convW ((Value.slice a5 n6 c7)) rfl (semH_mono (fun v h10 hv => ?_) hS))
  obtain ⟨s9, rfl, hS⟩ := hv
  refine Run.go rfl rfl rfl (sem_assign ((Value.string s9)) rfl ?_)
  refine Run.region_end ?_
  refine Run.ret ⟨.inr rfl, ?_⟩
  exact hS.imp fun h' hq => ⟨s9, rfl, hq⟩
set_option maxHeartbeats 4000000 in
theorem C_countermandlaw10_alive.of {B : RO} {h : Heap} {Q : Bool → Heap → Prop} (hS : S_countermandlaw10_alive B h Q) : C_countermandlaw10_alive B h Q := by
  unfold S_countermandlaw10_alive at hS
  unfold C_countermandlaw10_alive
  refine Spec.of_run Try.func31 (N := 11) (rs := [ResultVar.tmp 0]) rfl rfl rfl (Nat.le_of_ble_eq_true rfl) ?_
  refine Run.seq ?_
  refine Run.ops0 (idx := [0]) rfl ?_
  refine Run.go rfl rfl rfl (sem_assign ((Value.bool false)) rfl ?_)
  refine Run.region_end ?_
  refine Run.seq ?_
  refine Run.ops0 (idx := [0, 1]) rfl ?_
  refine Run.go rfl rfl rfl (sem_callL [] (TF.goes_33) rfl rfl (Spec.mono hS fun v h2 hv => ?_))
  obtain ⟨p3, rfl, hS⟩ := hv
  refine Run.go rfl rfl rfl (sem_assign ((Value.pointer p3)) rfl ?_)
  refine Run.region_end ?_
  refine Run.seq ?_
  refine Run.ops0 (idx := [0, 1, 2, 3, 4, 5, 6, 7, 8]) rfl ?_
  refine Run.go rfl rfl rfl (sem_move ((Value.pointer p3)) rfl ?_)
  refine Run.go rfl rfl rfl (sem_buildSL [(0, (Value.bool true)), (1, (Value.string (ByteArray.mk #[97, 98])))] [(Value.bool true), (Value.string (ByteArray.mk #[97, 98]))] TF.zero_54 TF.places_54 rfl rfl ?_)
  refine Run.go rfl rfl rfl (sem_callL [(Value.pointer p3), (Value.int .i64 (2)), (Value.agg #[(Value.bool true), (Value.string (ByteArray.mk #[97, 98]))]), (Value.int .i64 (1))] (TF.goes_34) rfl rfl (Spec.mono hS fun v h4 hv => ?_))
  obtain ⟨b5, rfl, hS⟩ := hv
  obtain ⟨hT, hF⟩ := hS
  cases b5
  · have hS := hF rfl; clear hT hF
    refine Run.go rfl rfl rfl (sem_move ((Value.bool false)) rfl ?_)
    refine Run.no rfl rfl rfl ?_
    refine Run.no rfl rfl rfl ?_
    refine Run.no rfl rfl rfl ?_
    refine Run.go rfl rfl rfl (sem_pick false ((Value.bool false)) rfl rfl ?_)
    refine Run.go rfl rfl rfl (sem_assign ((Value.bool false)) rfl ?_)
    refine Run.region_end ?_
    refine Run.ret ⟨.inr rfl, ?_⟩
    exact hS.imp fun h' hq => ⟨(false), rfl, hq⟩
  · have hS := hT rfl; clear hT hF
    refine Run.go rfl rfl rfl (sem_move ((Value.bool true)) rfl ?_)
    refine Run.go rfl rfl rfl (sem_move ((Value.pointer p3)) rfl ?_)
    refine Run.go rfl rfl rfl (sem_callL [(Value.pointer p3)] (TF.goes_36) rfl rfl (Spec.mono hS fun v h6 hv => ?_))
    obtain ⟨s7, rfl, hS⟩ := hv
    refine Run.go rfl rfl rfl (sem_strEq s7 (ByteArray.mk #[2, 2, 97, 98]) rfl rfl ?_)
    refine Run.go rfl rfl rfl (sem_pick true ((Value.bool (decide (s7 = (ByteArray.mk #[2, 2, 97, 98]))))) rfl rfl ?_)
    refine Run.go rfl rfl rfl (sem_assign ((Value.bool (decide (s7 = (ByteArray.mk #[2, 2, 97, 98]))))) rfl ?_)
    refine Run.region_end ?_
    refine Run.ret ⟨.inr rfl, ?_⟩
    exact hS.imp fun h' hq => ⟨((decide (s7 = (ByteArray.mk #[2, 2, 97, 98])))), rfl, hq⟩
set_option maxHeartbeats 4000000 in
theorem C_countermandlaw10_great.of {B : RO} {a1 : Option Addr} {n2 : Nat} {c3 : Nat} {h : Heap} {Q : Bool → Heap → Prop} (hS : S_countermandlaw10_great B a1 n2 c3 h Q) : C_countermandlaw10_great B a1 n2 c3 h Q := by
  unfold S_countermandlaw10_great at hS
  unfold C_countermandlaw10_great
  refine Spec.of_run Try.func32 (N := 20) (rs := [ResultVar.tmp 2]) rfl rfl rfl (Nat.le_of_ble_eq_true rfl) ?_
  refine Run.seq ?_
  refine Run.ops0 (idx := [0]) rfl ?_
  refine Run.go rfl rfl rfl (sem_assign ((Value.bool false)) rfl ?_)
  refine Run.region_end ?_
  refine Run.seq ?_
  refine Run.seq ?_
  refine Run.ops0 (idx := [0, 1, 2]) rfl ?_
  refine Run.go rfl rfl rfl (sem_move ((Value.slice a1 n2 c3)) rfl ?_)
  refine Run.go rfl rfl rfl (sem_lenSl a1 n2 c3 rfl TF.sl_51 ?_)
  obtain ⟨hT, hF⟩ := hS
  by_cases hb5 : ((n2 : Nat) : Int) > (40)
  · have hS := hT hb5; clear hT hF
    refine Run.go rfl rfl rfl (sem_binI .i64 ((n2 : Nat)) (40) (.bool true) rfl rfl (binI_gtr_t hb5) ?_)
    refine Run.region_end ?_
    refine Run.condT rfl ?_
    refine Run.seq ?_
    refine Run.ops0 (idx := [0]) rfl ?_
    refine Run.go rfl rfl rfl (sem_assign ((Value.bool true)) rfl ?_)
    refine Run.region_end ?_
    refine Run.ret ⟨.inr rfl, ?_⟩
    exact hS.imp fun h' hq => ⟨(true), rfl, hq⟩
  · have hS := hF hb5; clear hT hF
    refine Run.go rfl rfl rfl (sem_binI .i64 ((n2 : Nat)) (40) (.bool false) rfl rfl (binI_gtr_f hb5) ?_)
    refine Run.region_end ?_
    refine Run.condF rfl ?_
    refine Run.skip ?_
    refine Run.seq ?_
    refine Run.seq ?_
    refine Run.ops0 (idx := [0, 1, 2]) rfl ?_
    refine Run.go rfl rfl rfl (sem_move ((Value.slice a1 n2 c3)) rfl ?_)
    refine Run.go rfl rfl rfl (sem_lenSl a1 n2 c3 rfl TF.sl_51 ?_)
    refine Run.go rfl rfl rfl (sem_move ((Value.int .i64 (0))) rfl ?_)
    refine Run.region_end ?_
    refine Run.block ?_
    obtain ⟨J11, m9, h0, hS⟩ := hS
    refine Run.of_fin (h0.imp fun h' h0 => ?_)
    refine Run.loop (σ := Int × Nat) (fun x e h => J11 x.1 x.2 h ∧ Agree [(8, (Value.slice a1 n2 c3)), (9, (Value.int .i64 ((n2 : Nat)))), (10, (Value.int .i64 (x.1)))] e) (fun x => x.2) ((0), m9) ⟨h0, ⟨rfl, rfl, rfl, trivial⟩⟩ ?_; clear h0
    rintro ⟨i6, m8⟩ e h7 ⟨hJ, hag⟩ ih10
    have hS := hS i6 m8 h7 hJ; clear hJ
    refine Run.env hag ?_; clear hag
    refine Run.seq ?_
    refine Run.ops0 (idx := [0]) rfl ?_
    obtain ⟨hT, hF⟩ := hS
    by_cases hb12 : (i6 : Int) < ((n2 : Nat))
    · have hS := hT hb12; clear hT hF
      refine Run.go rfl rfl rfl (sem_binI .i64 (i6) ((n2 : Nat)) (.bool true) rfl rfl (binI_lss_t hb12) ?_)
      refine Run.region_end ?_
      refine Run.seq ?_
      refine Run.condT rfl ?_
      refine Run.skip ?_
      refine Run.seq ?_
      refine Run.block ?_
      refine Run.seq ?_
      refine Run.ops0 (idx := [0, 1, 2, 3]) rfl ?_
      obtain ⟨A13, e14, hi0, hi1, hS⟩ := hS
      refine Run.go rfl rfl rfl (sem_indexAddrS A13 n2 c3 .i64 (i6) (congrArg (fun a => Value.slice a n2 c3) e14) rfl TF.slc_51 hi0 hi1 ?_)
      obtain ⟨i15, b16, s17, i18, hl, hS⟩ := hS
      refine Run.go rfl rfl rfl (sem_loadN (Addr.add A13 (Int.toNat (i6) * 4)) [(Value.int .i64 (i15)), (Value.bool b16), (Value.string s17), (Value.int .i64 (i18))] rfl TF.agg_56 TF.sz_56 hl ?_)
      refine Run.go rfl rfl rfl (sem_allocN [(Value.int .i64 (0)), (Value.bool false), (Value.string ByteArray.empty), (Value.int .i64 (0))] TF.zero_56 (fun k19 hb1 hb2 h20 hb3 => ?_))
      have hS := hS k19 hb1 hb2 h20 hb3
      obtain ⟨h21, hst, hS⟩ := hS
      refine Run.go rfl rfl rfl (sem_storeN ⟨k19, 0, none⟩ [(Value.int .i64 (i15)), (Value.bool b16), (Value.string s17), (Value.int .i64 (i18))] h21 rfl rfl TF.sz_56 hst ?_)
      refine Run.region_end ?_
      refine Run.seq ?_
      refine Run.ops0 (idx := [0, 1, 2, 3, 4]) rfl ?_
      refine Run.go rfl rfl rfl (sem_fieldAddr ⟨k19, 0, none⟩ 1 rfl TF.fld_56_1 ?_)
      refine Run.go rfl rfl rfl (sem_fieldAddr ⟨k19, 1, none⟩ 1 rfl TF.fld_54_1 ?_)
      obtain ⟨s22, hl, hS⟩ := hS
      refine Run.go rfl rfl rfl (sem_load1 ⟨k19, 2, none⟩ ((Value.string s22)) rfl TF.agg_9 hl ?_)
      refine Run.go rfl rfl rfl (sem_lenStr s22 rfl TF.isStr_9 ?_)
      obtain ⟨hT, hF⟩ := hS
      by_cases hb23 : ((ByteArray.size s22 : Nat) : Int) > (100)
      · have hS := hT hb23; clear hT hF
        refine Run.go rfl rfl rfl (sem_binI .i64 ((ByteArray.size s22 : Nat)) (100) (.bool true) rfl rfl (binI_gtr_t hb23) ?_)
        refine Run.region_end ?_
        refine Run.condT rfl ?_
        refine Run.seq ?_
        refine Run.ops0 (idx := [0]) rfl ?_
        refine Run.go rfl rfl rfl (sem_assign ((Value.bool true)) rfl ?_)
        refine Run.region_end ?_
        refine Run.ret ⟨.inr rfl, ?_⟩
        exact hS.imp fun h' hq => ⟨(true), rfl, hq⟩
      · have hS := hF hb23; clear hT hF
        refine Run.go rfl rfl rfl (sem_binI .i64 ((ByteArray.size s22 : Nat)) (100) (.bool false) rfl rfl (binI_gtr_f hb23) ?_)
        refine Run.region_end ?_
        refine Run.condF rfl ?_
        refine Run.skip ?_
        refine Run.inBlock ?_
        refine Run.ops0 (idx := [0, 1]) rfl ?_
        refine Run.go rfl rfl rfl (sem_binI .i64 (i6) (1) ((Value.int .i64 (IntKind.wrap .i64 ((i6) + (1))))) rfl rfl rfl ?_)
        refine Run.go rfl rfl rfl (sem_move ((Value.int .i64 (IntKind.wrap .i64 ((i6) + (1))))) rfl ?_)
        refine Run.region_end ?_
        exact Run.of_fin (hS.imp fun h' ⟨m', hm, hS⟩ => ih10 ((IntKind.wrap .i64 ((i6) + (1))), m') _ _ ⟨hS, ⟨rfl, rfl, rfl, trivial⟩⟩ hm)
    · have hS := hF hb12; clear hT hF
      refine Run.go rfl rfl rfl (sem_binI .i64 (i6) ((n2 : Nat)) (.bool false) rfl rfl (binI_lss_f hb12) ?_)
      refine Run.region_end ?_
      refine Run.seq ?_
      refine Run.condF rfl ?_
      refine Run.exit rfl ?_
      refine Run.seq ?_
      refine Run.ops0 (idx := [0]) rfl ?_
      refine Run.go rfl rfl rfl (sem_assign ((Value.bool false)) rfl ?_)
      refine Run.region_end ?_
      refine Run.ret ⟨.inr rfl, ?_⟩
      exact hS.imp fun h' hq => ⟨(false), rfl, hq⟩
set_option maxHeartbeats 4000000 in
theorem C_tome_New.of {B : RO} {h : Heap} {Q : Option Addr → Heap → Prop} (hS : S_tome_New B h Q) : C_tome_New B h Q := by
  unfold S_tome_New at hS
  unfold C_tome_New
  refine Spec.of_run Try.func33 (N := 5) (rs := [ResultVar.tmp 0]) rfl rfl rfl (Nat.le_of_ble_eq_true rfl) ?_
  refine Run.seq ?_
  refine Run.ops0 (idx := [0]) rfl ?_
  refine Run.go rfl rfl rfl (sem_assign ((Value.pointer none)) rfl ?_)
  refine Run.region_end ?_
  refine Run.seq ?_
  refine Run.ops0 (idx := [0, 1, 2, 3, 4]) rfl ?_
  refine Run.go rfl rfl rfl (sem_buildSL [] [(Value.bool false), (Value.string ByteArray.empty)] TF.zero_54 TF.places_54 rfl rfl ?_)
  refine Run.go rfl rfl rfl (sem_callL [(Value.int .i64 (6)), (Value.agg #[(Value.bool false), (Value.string ByteArray.empty)])] (TF.goes_78) rfl rfl (Spec.mono hS fun v h2 hv => ?_))
  obtain ⟨p3, rfl, hS⟩ := hv
  refine Run.go rfl rfl rfl (sem_buildSL [(0, (Value.pointer p3))] [(Value.pointer p3)] TF.zero_145 TF.places_145 rfl rfl ?_)
  refine Run.go rfl rfl rfl (sem_boxNN [(Value.pointer p3)] rfl (fun k4 hb1 hb2 h5 hb3 => ?_))
  have hS := hS k4 hb1 hb2 h5 hb3
  refine Run.go rfl rfl rfl (sem_assign ((Value.pointer (some ⟨k4, 0, none⟩))) rfl ?_)
  refine Run.region_end ?_
  refine Run.ret ⟨.inr rfl, ?_⟩
  exact hS.imp fun h' hq => ⟨(some ⟨k4, 0, none⟩), rfl, hq⟩
set_option maxHeartbeats 4000000 in
theorem C_tome_Tome_Set.of {B : RO} {p1 : Option Addr} {i2 : Int} {b3 : Bool} {s4 : ByteArray} {i5 : Int} {h : Heap} {Q : Bool → Heap → Prop} (hS : S_tome_Tome_Set B p1 i2 b3 s4 i5 h Q) : C_tome_Tome_Set B p1 i2 b3 s4 i5 h Q := by
  unfold S_tome_Tome_Set at hS
  unfold C_tome_Tome_Set
  refine Spec.of_run Try.func34 (N := 25) (rs := [ResultVar.tmp 8]) rfl rfl rfl (Nat.le_of_ble_eq_true rfl) ?_
  refine Run.seq ?_
  refine Run.ops0 (idx := [0, 1]) rfl ?_
  refine Run.go rfl rfl rfl (sem_boxNN [(Value.bool b3), (Value.string s4)] rfl (fun k7 hb1 hb2 h8 hb3 => ?_))
  have hS := hS k7 hb1 hb2 h8 hb3
  refine Run.go rfl rfl rfl (sem_assign ((Value.bool false)) rfl ?_)
  refine Run.region_end ?_
  refine Run.seq ?_
  skip
  obtain ⟨hT, hF⟩ := hS
  by_cases hb10 : p1 = none
  · have hS := hT hb10; clear hT hF
    skip
    skip
    refine Run.drawT (fun h' => True) [] (.q 0 (.q 1 (.q 2 (.q 3 (.x 4 (.q 5 (.q 6 (.q 7 (.q 8 (.q 9 (.q 11 (.q 13 (.x 10 (.x 12 (.x 14 (.q 15 (.q 16 .nil)) .no) .no) (.x 12 (.x 10 (.x 14 (.q 15 (.q 16 .nil)) .no) .no) .no))))))))) .no))))) TF.mixed (by kernel_rfl) trivial ?_
    refine RunT.quiet rfl rfl rfl (fun h' hC => sem_move ((Value.pointer p1)) rfl ⟨rfl, rfl⟩) ?_
    refine RunT.quiet rfl rfl rfl (fun h' hC => sem_ptrNilT p1 (.inr rfl) false rfl rfl TF.ptr_57 hb10 rfl ⟨rfl, rfl⟩) ?_
    refine RunT.quiet rfl rfl rfl (fun h' hC => sem_move ((Value.bool false)) rfl ⟨rfl, rfl⟩) ?_
    refine RunT.skip rfl rfl rfl ?_
    refine ⟨?_, trivial⟩
    refine OpH.no rfl rfl rfl ⟨fun _ => trivial, ?_⟩
    refine RunT.quiet rfl rfl rfl (fun h' hC => sem_pick false ((Value.bool false)) rfl rfl ⟨rfl, rfl⟩) ?_
    refine RunT.quiet rfl rfl rfl (fun h' hC => sem_move ((Value.bool false)) rfl ⟨rfl, rfl⟩) ?_
    refine RunT.skip rfl rfl rfl ?_
    refine RunT.skip rfl rfl rfl ?_
    refine RunT.skip rfl rfl rfl ?_
    refine RunT.skip rfl rfl rfl ?_
    refine RunT.skip rfl rfl rfl ?_
    refine ⟨?_, ?_, trivial⟩
    · have hS := hS.1
      refine OpH.no rfl rfl rfl ⟨fun _ => trivial, ?_⟩
      refine ⟨?_, trivial⟩
      refine OpH.no rfl rfl rfl ⟨fun _ => trivial, ?_⟩
      refine ⟨?_, trivial⟩
      refine OpH.no rfl rfl rfl ⟨fun _ => trivial, ?_⟩
      refine RunT.quiet rfl rfl rfl (fun h' hC => sem_pick false ((Value.bool false)) rfl rfl ⟨rfl, rfl⟩) ?_
      refine RunT.quiet rfl rfl rfl (fun h' hC => sem_assign ((Value.bool false)) rfl ⟨rfl, rfl⟩) ?_
      refine Run.ret ⟨.inr rfl, ?_⟩
      exact hS.imp fun h' hq => ⟨(false), rfl, hq⟩
    · have hS := hS.2
      refine OpH.no rfl rfl rfl ⟨fun _ => trivial, ?_⟩
      refine ⟨?_, trivial⟩
      refine OpH.no rfl rfl rfl ⟨fun _ => trivial, ?_⟩
      refine ⟨?_, trivial⟩
      refine OpH.no rfl rfl rfl ⟨fun _ => trivial, ?_⟩
      refine RunT.quiet rfl rfl rfl (fun h' hC => sem_pick false ((Value.bool false)) rfl rfl ⟨rfl, rfl⟩) ?_
      refine RunT.quiet rfl rfl rfl (fun h' hC => sem_assign ((Value.bool false)) rfl ⟨rfl, rfl⟩) ?_
      refine Run.ret ⟨.inr rfl, ?_⟩
      exact hS.imp fun h' hq => ⟨(false), rfl, hq⟩
  · have hS := hF hb10; clear hT hF
    skip
    skip
    obtain ⟨b15, s16, hl, hS⟩ := hS
    have f17 := hl
    refine Run.drawT (fun h' => CellsAt B h' ⟨k7, 0, none⟩ 0 [(Value.bool b15), (Value.string s16)] ∧ True) [] (.q 0 (.q 1 (.q 2 (.q 3 (.x 4 (.q 5 (.q 6 (.q 7 (.q 8 (.q 9 (.q 11 (.q 13 (.x 10 (.x 12 (.x 14 (.q 15 (.q 16 .nil)) .no) .no) (.x 12 (.x 10 (.x 14 (.q 15 (.q 16 .nil)) .no) .no) .no))))))))) .no))))) TF.mixed (by kernel_rfl) ⟨f17, trivial⟩ ?_
    refine RunT.quiet rfl rfl rfl (fun h' hC => sem_move ((Value.pointer p1)) rfl ⟨rfl, rfl⟩) ?_
    refine RunT.quiet rfl rfl rfl (fun h' hC => sem_ptrNilF p1 (.inr rfl) true rfl rfl TF.ptr_57 hb10 rfl ⟨rfl, rfl⟩) ?_
    refine RunT.quiet rfl rfl rfl (fun h' hC => sem_move ((Value.bool true)) rfl ⟨rfl, rfl⟩) ?_
    refine RunT.quiet rfl rfl rfl (fun h' hC => sem_loadN ⟨k7, 0, none⟩ [(Value.bool b15), (Value.string s16)] rfl TF.agg_54 TF.sz_54 hC.1 ⟨rfl, rfl⟩) ?_
    refine ⟨?_, trivial⟩
    refine OpH.go rfl rfl rfl (sem_callL [(Value.agg #[(Value.bool b15), (Value.string s16)])] (TF.goes_79) rfl rfl (Spec.mono hS fun v h18 hv => ?_))
    obtain ⟨b19, rfl, hS⟩ := hv
    obtain ⟨hT, hF⟩ := hS
    cases b19
    · have hS := hF rfl; clear hT hF
      obtain ⟨g20, hS⟩ := hS
      refine ⟨fun _ => ⟨g20, trivial⟩, ?_⟩
      refine RunT.quiet rfl rfl rfl (fun h' hC => sem_pick true ((Value.bool false)) rfl rfl ⟨rfl, rfl⟩) ?_
      refine RunT.quiet rfl rfl rfl (fun h' hC => sem_move ((Value.bool false)) rfl ⟨rfl, rfl⟩) ?_
      refine RunT.skip rfl rfl rfl ?_
      refine RunT.skip rfl rfl rfl ?_
      refine RunT.skip rfl rfl rfl ?_
      refine RunT.skip rfl rfl rfl ?_
      refine RunT.skip rfl rfl rfl ?_
      refine ⟨?_, ?_, trivial⟩
      · have hS := hS.1
        refine OpH.no rfl rfl rfl ⟨fun _ => ⟨g20, trivial⟩, ?_⟩
        refine ⟨?_, trivial⟩
        refine OpH.no rfl rfl rfl ⟨fun _ => ⟨g20, trivial⟩, ?_⟩
        refine ⟨?_, trivial⟩
        refine OpH.no rfl rfl rfl ⟨fun _ => ⟨g20, trivial⟩, ?_⟩
        refine RunT.quiet rfl rfl rfl (fun h' hC => sem_pick false ((Value.bool false)) rfl rfl ⟨rfl, rfl⟩) ?_
        refine RunT.quiet rfl rfl rfl (fun h' hC => sem_assign ((Value.bool false)) rfl ⟨rfl, rfl⟩) ?_
        refine Run.ret ⟨.inr rfl, ?_⟩
        exact hS.imp fun h' hq => ⟨(false), rfl, hq⟩
      · have hS := hS.2
        refine OpH.no rfl rfl rfl ⟨fun _ => ⟨g20, trivial⟩, ?_⟩
        refine ⟨?_, trivial⟩
        refine OpH.no rfl rfl rfl ⟨fun _ => ⟨g20, trivial⟩, ?_⟩
        refine ⟨?_, trivial⟩
        refine OpH.no rfl rfl rfl ⟨fun _ => ⟨g20, trivial⟩, ?_⟩
        refine RunT.quiet rfl rfl rfl (fun h' hC => sem_pick false ((Value.bool false)) rfl rfl ⟨rfl, rfl⟩) ?_
        refine RunT.quiet rfl rfl rfl (fun h' hC => sem_assign ((Value.bool false)) rfl ⟨rfl, rfl⟩) ?_
        refine Run.ret ⟨.inr rfl, ?_⟩
        exact hS.imp fun h' hq => ⟨(false), rfl, hq⟩
    · have hS := hT rfl; clear hT hF
      obtain ⟨g21, hS⟩ := hS
      refine ⟨fun _ => ⟨g21, trivial⟩, ?_⟩
      refine RunT.quiet rfl rfl rfl (fun h' hC => sem_pick true ((Value.bool true)) rfl rfl ⟨rfl, rfl⟩) ?_
      refine RunT.quiet rfl rfl rfl (fun h' hC => sem_move ((Value.bool true)) rfl ⟨rfl, rfl⟩) ?_
      refine RunT.quiet rfl rfl rfl (fun h' hC => sem_move ((Value.pointer p1)) rfl ⟨rfl, rfl⟩) ?_
      obtain ⟨A22, e23, hS⟩ := hS
      refine RunT.quiet rfl rfl rfl (fun h' hC => sem_nilCheck A22 (congrArg Value.pointer e23) ⟨rfl, rfl⟩) ?_
      refine RunT.quiet rfl rfl rfl (fun h' hC => sem_fieldAddr A22 0 rfl TF.fld_145_0 ⟨rfl, rfl⟩) ?_
      refine RunT.quiet rfl rfl rfl (fun h' hC => sem_move ((Value.int .i64 (i2))) rfl ⟨rfl, rfl⟩) ?_
      refine RunT.quiet rfl rfl rfl (fun h' hC => sem_move ((Value.int .i64 (i5))) rfl ⟨rfl, rfl⟩) ?_
      refine ⟨?_, ?_, trivial⟩
      · have hS := hS.1
        obtain ⟨p24, hl, hS⟩ := hS
        refine OpH.go rfl rfl rfl (sem_load1 A22 ((Value.pointer p24)) rfl TF.agg_142 hl ?_)
        refine ⟨fun _ => ⟨g21, trivial⟩, ?_⟩
        refine ⟨?_, trivial⟩
        obtain ⟨b25, s26, hl, hS⟩ := hS
        refine OpH.go rfl rfl rfl (sem_loadN ⟨k7, 0, none⟩ [(Value.bool b25), (Value.string s26)] rfl TF.agg_54 TF.sz_54 hl ?_)
        refine ⟨fun _ => ⟨g21, trivial⟩, ?_⟩
        refine ⟨?_, trivial⟩
        refine OpH.go rfl rfl rfl (sem_callL [(Value.pointer p24), (Value.int .i64 (i2)), (Value.agg #[(Value.bool b25), (Value.string s26)]), (Value.int .i64 (i5))] (TF.goes_80) rfl rfl (Spec.mono hS fun v h27 hv => ?_))
        obtain ⟨b28, rfl, hS⟩ := hv
        obtain ⟨g29, hS⟩ := hS
        refine ⟨fun _ => ⟨g29, trivial⟩, ?_⟩
        refine RunT.quiet rfl rfl rfl (fun h' hC => sem_pick true ((Value.bool b28)) rfl rfl ⟨rfl, rfl⟩) ?_
        refine RunT.quiet rfl rfl rfl (fun h' hC => sem_assign ((Value.bool b28)) rfl ⟨rfl, rfl⟩) ?_
        refine Run.ret ⟨.inr rfl, ?_⟩
        exact hS.imp fun h' hq => ⟨(b28), rfl, hq⟩
      · have hS := hS.2
        obtain ⟨b30, s31, hl, hS⟩ := hS
        refine OpH.go rfl rfl rfl (sem_loadN ⟨k7, 0, none⟩ [(Value.bool b30), (Value.string s31)] rfl TF.agg_54 TF.sz_54 hl ?_)
        refine ⟨fun _ => ⟨g21, trivial⟩, ?_⟩
        refine ⟨?_, trivial⟩
        obtain ⟨p32, hl, hS⟩ := hS
        refine OpH.go rfl rfl rfl (sem_load1 A22 ((Value.pointer p32)) rfl TF.agg_142 hl ?_)
        refine ⟨fun _ => ⟨g21, trivial⟩, ?_⟩
        refine ⟨?_, trivial⟩
        refine OpH.go rfl rfl rfl (sem_callL [(Value.pointer p32), (Value.int .i64 (i2)), (Value.agg #[(Value.bool b30), (Value.string s31)]), (Value.int .i64 (i5))] (TF.goes_80) rfl rfl (Spec.mono hS fun v h33 hv => ?_))
        obtain ⟨b34, rfl, hS⟩ := hv
        obtain ⟨g35, hS⟩ := hS
        refine ⟨fun _ => ⟨g35, trivial⟩, ?_⟩
        refine RunT.quiet rfl rfl rfl (fun h' hC => sem_pick true ((Value.bool b34)) rfl rfl ⟨rfl, rfl⟩) ?_
        refine RunT.quiet rfl rfl rfl (fun h' hC => sem_assign ((Value.bool b34)) rfl ⟨rfl, rfl⟩) ?_
        refine Run.ret ⟨.inr rfl, ?_⟩
        exact hS.imp fun h' hq => ⟨(b34), rfl, hq⟩
set_option maxHeartbeats 4000000 in
theorem C_tome_Same.of {B : RO} {p1 : Option Addr} {p2 : Option Addr} {h : Heap} {Q : Bool → Heap → Prop} (hS : S_tome_Same B p1 p2 h Q) : C_tome_Same B p1 p2 h Q := by
  unfold S_tome_Same at hS
  unfold C_tome_Same
  refine Spec.of_run Try.func35 (N := 10) (rs := [ResultVar.tmp 4]) rfl rfl rfl (Nat.le_of_ble_eq_true rfl) ?_
  refine Run.seq ?_
  refine Run.ops0 (idx := [0]) rfl ?_
  refine Run.go rfl rfl rfl (sem_assign ((Value.bool false)) rfl ?_)
  refine Run.region_end ?_
  refine Run.seq ?_
  refine Run.ops0 (idx := [0, 1, 2, 3, 4, 5]) rfl ?_
  refine Run.go rfl rfl rfl (sem_move ((Value.pointer p1)) rfl ?_)
  refine Run.go rfl rfl rfl (sem_callL [(Value.pointer p1)] (TF.goes_36) rfl rfl (Spec.mono hS fun v h4 hv => ?_))
  obtain ⟨s5, rfl, hS⟩ := hv
  refine Run.go rfl rfl rfl (sem_move ((Value.pointer p2)) rfl ?_)
  refine Run.go rfl rfl rfl (sem_callL [(Value.pointer p2)] (TF.goes_36) rfl rfl (Spec.mono hS fun v h6 hv => ?_))
  obtain ⟨s7, rfl, hS⟩ := hv
  refine Run.go rfl rfl rfl (sem_strEq s5 s7 rfl rfl ?_)
  refine Run.go rfl rfl rfl (sem_assign ((Value.bool (decide (s5 = s7)))) rfl ?_)
  refine Run.region_end ?_
  refine Run.ret ⟨.inr rfl, ?_⟩
  exact hS.imp fun h' hq => ⟨((decide (s5 = s7))), rfl, hq⟩
set_option maxHeartbeats 4000000 in
theorem C_tome_Tome_Bytes.of {B : RO} {p1 : Option Addr} {h : Heap} {Q : ByteArray → Heap → Prop} (hS : S_tome_Tome_Bytes B p1 h Q) : C_tome_Tome_Bytes B p1 h Q := by
  unfold S_tome_Tome_Bytes at hS
  unfold C_tome_Tome_Bytes
  refine Spec.of_run Try.func36 (N := 23) (rs := [ResultVar.tmp 2]) rfl rfl rfl (Nat.le_of_ble_eq_true rfl) ?_
  refine Run.seq ?_
  refine Run.ops0 (idx := [0]) rfl ?_
  refine Run.go rfl rfl rfl (sem_assign ((Value.string (ByteArray.mk #[]))) rfl ?_)
  refine Run.region_end ?_
  refine Run.seq ?_
  refine Run.ops0 (idx := [0, 1, 2, 3]) rfl ?_
  refine Run.go rfl rfl rfl (sem_buildSL [] [(Value.slice none 0 0)] TF.zero_40 TF.places_40 rfl rfl ?_)
  refine Run.go rfl rfl rfl (sem_boxNN [(Value.slice none 0 0)] rfl (fun k3 hb1 hb2 h4 hb3 => ?_))
  have hS := hS k3 hb1 hb2 h4 hb3
  refine Run.go rfl rfl rfl (sem_allocN [(Value.pointer none)] TF.zero_37 (fun k5 hb1 hb2 h6 hb3 => ?_))
  have hS := hS k5 hb1 hb2 h6 hb3
  obtain ⟨h7, hst, hS⟩ := hS
  refine Run.go rfl rfl rfl (sem_store1 ⟨k5, 0, none⟩ ((Value.pointer (some ⟨k3, 0, none⟩))) h7 rfl rfl rfl TF.sz_37 hst ?_)
  refine Run.region_end ?_
  refine Run.seq ?_
  refine Run.seq ?_
  refine Run.ops0 (idx := [0, 1]) rfl ?_
  refine Run.go rfl rfl rfl (sem_move ((Value.pointer p1)) rfl ?_)
  refine Run.go rfl rfl rfl (sem_callL [(Value.pointer p1)] (TF.goes_39) rfl rfl (Spec.mono hS fun v9 h8 hv => ?_))
  obtain ⟨_, rfl, hS⟩ := hv
  refine Run.region_end ?_
  refine Run.block ?_
  obtain ⟨xs17, G13, J16, hit, hins, hG, h0, hS, hR⟩ := hS
  refine Run.of_fin (h0.imp fun h' h0 => ?_)
  refine Run.range (v9) (xs17.map (fun x : Int × Bool × ByteArray => [(Value.int .i64 (x.1)), (Value.agg #[(Value.bool x.2.1), (Value.string x.2.2)])])) G13 J16 rfl hit hins hG h0 rfl (fun a ha => by obtain ⟨x, _, rfl⟩ := List.mem_map.1 ha; rfl) ?_ ?_
  · rintro q15 args h14 ha hJ
    obtain ⟨⟨i10, b11, s12⟩, hx, rfl⟩ := Option.map_eq_some_iff.1 ((List.getElem?_map ..).symm.trans ha)
    have hS := hS q15 h14 i10 b11 s12 hx hJ; clear hJ hx ha
    refine Run.seq ?_
    refine Run.ops0 (idx := [0]) rfl ?_
    refine Run.go rfl rfl rfl (sem_assign ((Value.int .i64 (i10))) rfl ?_)
    refine Run.region_end ?_
    refine Run.ops0 (idx := [0, 1]) rfl ?_
    refine Run.go rfl rfl rfl (sem_allocN [(Value.bool false), (Value.string ByteArray.empty)] TF.zero_54 (fun k18 hb1 hb2 h19 hb3 => ?_))
    have hS := hS k18 hb1 hb2 h19 hb3
    obtain ⟨h20, hst, hS⟩ := hS
    refine Run.go rfl rfl rfl (sem_storeN ⟨k18, 0, none⟩ [(Value.bool b11), (Value.string s12)] h20 rfl rfl TF.sz_54 hst ?_)
    refine Run.region_end ?_
    refine Run.begin ⟨rfl, ?_⟩
    refine Run.block ?_
    refine Run.seq ?_
    refine Run.ops0 (idx := [0, 1, 2, 3]) rfl ?_
    obtain ⟨p21, hl, hS⟩ := hS
    refine Run.go rfl rfl rfl (sem_load1 ⟨k5, 0, none⟩ ((Value.pointer p21)) rfl TF.agg_37 hl ?_)
    refine Run.go rfl rfl rfl (sem_move ((Value.int .i64 (i10))) rfl ?_)
    refine Run.go rfl rfl rfl (sem_buildSliceL [(0, (Value.int .i64 (i10)))] [(Value.int .i64 (i10))] TF.slc_84 TF.zero_3 rfl (by decide) (by decide) rfl rfl (fun k22 hb1 hb2 h23 hb3 => ?_))
    have hS := hS k22 hb1 hb2 h23 hb3
    refine Run.go rfl rfl rfl (sem_callL [(Value.pointer p21), (Value.slice (some ⟨k22, 0, none⟩) 1 1)] (TF.goes_70) rfl rfl (Spec.mono hS fun v h24 hv => ?_))
    obtain ⟨rfl, hS⟩ := hv
    refine Run.region_end ?_
    refine Run.ops0 (idx := [0, 1, 2, 3, 4]) rfl ?_
    obtain ⟨p25, hl, hS⟩ := hS
    refine Run.go rfl rfl rfl (sem_load1 ⟨k5, 0, none⟩ ((Value.pointer p25)) rfl TF.agg_37 hl ?_)
    refine Run.go rfl rfl rfl (sem_fieldAddr ⟨k18, 0, none⟩ 1 rfl TF.fld_54_1 ?_)
    obtain ⟨s26, hl, hS⟩ := hS
    refine Run.go rfl rfl rfl (sem_load1 ⟨k18, 1, none⟩ ((Value.string s26)) rfl TF.agg_9 hl ?_)
    refine Run.go rfl rfl rfl (sem_buildSliceL [(0, (Value.string s26))] [(Value.string s26)] TF.slc_36 TF.zero_9 rfl (by decide) (by decide) rfl rfl (fun k27 hb1 hb2 h28 hb3 => ?_))
    have hS := hS k27 hb1 hb2 h28 hb3
    refine Run.go rfl rfl rfl (sem_callL [(Value.pointer p25), (Value.slice (some ⟨k27, 0, none⟩) 1 1)] (TF.goes_27) rfl rfl (Spec.mono hS fun v h29 hv => ?_))
    obtain ⟨rfl, hS⟩ := hv
    refine Run.region_end ?_
    refine Run.inBlock ?_
    refine Run.of_fin (hS.imp fun h' hS => ?_)
    exact Run.fall (.inl ⟨rfl, hS⟩)
  · intro h14 hJ
    have hS := hR h14 (by simpa using hJ); clear hJ hR
    refine Run.inBlock ?_
    refine Run.seq ?_
    refine Run.ops0 (idx := [0, 1, 2]) rfl ?_
    obtain ⟨p30, hl, hS⟩ := hS
    refine Run.go rfl rfl rfl (sem_load1 ⟨k5, 0, none⟩ ((Value.pointer p30)) rfl TF.agg_37 hl ?_)
    refine Run.go rfl rfl rfl (sem_callL [(Value.pointer p30)] (TF.goes_28) rfl rfl (Spec.mono hS fun v h31 hv => ?_))
    obtain ⟨s32, rfl, hS⟩ := hv
    refine Run.go rfl rfl rfl (sem_assign ((Value.string s32)) rfl ?_)
    refine Run.region_end ?_
    refine Run.ret ⟨.inr rfl, ?_⟩
    exact hS.imp fun h' hq => ⟨s32, rfl, hq⟩
set_option maxHeartbeats 4000000 in
theorem C_countermandref10_Tome_Set.of {B : RO} {p1 : Option Addr} {i2 : Int} {b3 : Bool} {s4 : ByteArray} {i5 : Int} {h : Heap} {Q : Bool → Heap → Prop} (hS : S_countermandref10_Tome_Set B p1 i2 b3 s4 i5 h Q) : C_countermandref10_Tome_Set B p1 i2 b3 s4 i5 h Q := by
  unfold S_countermandref10_Tome_Set at hS
  unfold C_countermandref10_Tome_Set
  refine Spec.of_run Try.func37 (N := 43) (rs := [ResultVar.tmp 8]) rfl rfl rfl (Nat.le_of_ble_eq_true rfl) ?_
  refine Run.seq ?_
  refine Run.ops0 (idx := [0, 1]) rfl ?_
  refine Run.go rfl rfl rfl (sem_boxNN [(Value.bool b3), (Value.string s4)] rfl (fun k7 hb1 hb2 h8 hb3 => ?_))
  have hS := hS k7 hb1 hb2 h8 hb3
  refine Run.go rfl rfl rfl (sem_assign ((Value.bool false)) rfl ?_)
  refine Run.region_end ?_
  refine Run.seqJ (fun e h10 => Agree [(0, (Value.pointer p1)), (1, (Value.int .i64 (i2))), (3, (Value.int .i64 (i5))), (6, (Value.pointer (some ⟨k7, 0, none⟩)))] e ∧ S_countermandref10_Tome_Set_J1 B p1 i2 i5 k7 h10 Q) ?_ fun j9 => ?_
  · rintro e h10 ⟨hag, hS⟩
    refine Run.env hag ?_; clear hag
    refine Run.seq ?_
    refine Run.draw (fun h' => h' = h10) [6] [.q 0, .q 1, .q 2, .q 3, .q 4, .q 5, .x 6] TF.mixed (by kernel_rfl) rfl ?_
    refine RunO.quiet rfl rfl rfl (quiet_eq (sem_move ((Value.pointer p1)) rfl ⟨rfl, rfl⟩)) ?_
    refine RunO.quiet rfl rfl rfl (quiet_eq (sem_move ((Value.int .i64 (i2))) rfl ⟨rfl, rfl⟩)) ?_
    obtain ⟨b11, s12, hl, hS⟩ := hS
    refine RunO.quiet rfl rfl rfl (quiet_eq (sem_loadN ⟨k7, 0, none⟩ [(Value.bool b11), (Value.string s12)] rfl TF.agg_63 TF.sz_63 hl ⟨rfl, rfl⟩)) ?_
    obtain ⟨A13, e14, hS⟩ := hS
    refine RunO.quiet rfl rfl rfl (quiet_eq (sem_nilCheck A13 (congrArg Value.pointer e14) ⟨rfl, rfl⟩)) ?_
    refine RunO.quiet rfl rfl rfl (quiet_eq (sem_fieldAddr A13 0 rfl TF.fld_67_0 ⟨rfl, rfl⟩)) ?_
    obtain ⟨hi0, hi1, hS⟩ := hS
    refine RunO.quiet rfl rfl rfl (quiet_eq (sem_indexAddrA A13 .i64 (i2) rfl rfl TF.arr_64 hi0 hi1 ⟨rfl, rfl⟩)) ?_
    obtain ⟨h15, hst, hS⟩ := hS
    refine OpH.go rfl rfl rfl (sem_storeN (Addr.add A13 (Int.toNat (i2) * 2)) [(Value.bool b11), (Value.string s12)] h15 rfl rfl TF.sz_63 hst ?_)
    refine ⟨fun hz => Bool.noConfusion hz, ?_⟩
    refine Run.seq ?_
    refine Run.ops0 (idx := [0, 1, 2, 3, 4, 5, 6]) rfl ?_
    refine Run.go rfl rfl rfl (sem_move ((Value.pointer p1)) rfl ?_)
    refine Run.go rfl rfl rfl (sem_move ((Value.int .i64 (i2))) rfl ?_)
    refine Run.go rfl rfl rfl (sem_move ((Value.int .i64 (i5))) rfl ?_)
    obtain ⟨A16, e17, hS⟩ := hS
    refine Run.go rfl rfl rfl (sem_nilCheck A16 (congrArg Value.pointer e17) ?_)
    refine Run.go rfl rfl rfl (sem_fieldAddr A16 12 rfl TF.fld_67_1 ?_)
    obtain ⟨hi0, hi1, hS⟩ := hS
    refine Run.go rfl rfl rfl (sem_indexAddrA (Addr.add A16 12) .i64 (i2) rfl rfl TF.arr_65 hi0 hi1 ?_)
    obtain ⟨h18, hst, hS⟩ := hS
    refine Run.go rfl rfl rfl (sem_store1 (Addr.add (Addr.add A16 12) (Int.toNat (i2) * 1)) ((Value.int .i64 (i5))) h18 rfl rfl rfl TF.sz_3 hst ?_)
    refine Run.region_end ?_
    refine Run.seq ?_
    refine Run.ops0 (idx := [0]) rfl ?_
    refine Run.go rfl rfl rfl (sem_assign ((Value.bool true)) rfl ?_)
    refine Run.region_end ?_
    refine Run.ret ⟨.inr rfl, ?_⟩
    exact hS.imp fun h' hq => ⟨(true), rfl, hq⟩
  refine Run.seq ?_
  refine Run.ops0 (idx := [0, 1, 2, 3, 4, 5, 6, 7, 8, 9, 10, 11, 12, 13, 14, 15, 16, 17, 18, 19, 20, 21]) rfl ?_
  refine Run.go rfl rfl rfl (sem_move ((Value.int .i64 (i2))) rfl ?_)
  obtain ⟨hT, hF⟩ := hS
  by_cases hb19 : (i2 : Int) < (0)
  · have hS := hT hb19; clear hT hF
    refine Run.go rfl rfl rfl (sem_binI .i64 (i2) (0) (.bool true) rfl rfl (binI_lss_t hb19) ?_)
    refine Run.go rfl rfl rfl (sem_move ((Value.bool true)) rfl ?_)
    refine Run.no rfl rfl rfl ?_
    refine Run.no rfl rfl rfl ?_
    refine Run.go rfl rfl rfl (sem_pick true ((Value.bool true)) rfl rfl ?_)
    refine Run.go rfl rfl rfl (sem_move ((Value.bool true)) rfl ?_)
    refine Run.no rfl rfl rfl ?_
    refine Run.no rfl rfl rfl ?_
    refine Run.no rfl rfl rfl ?_
    refine Run.no rfl rfl rfl ?_
    refine Run.go rfl rfl rfl (sem_pick true ((Value.bool true)) rfl rfl ?_)
    refine Run.go rfl rfl rfl (sem_move ((Value.bool true)) rfl ?_)
    refine Run.no rfl rfl rfl ?_
    refine Run.no rfl rfl rfl ?_
    refine Run.no rfl rfl rfl ?_
    refine Run.no rfl rfl rfl ?_
    refine Run.no rfl rfl rfl ?_
    refine Run.no rfl rfl rfl ?_
    refine Run.no rfl rfl rfl ?_
    refine Run.no rfl rfl rfl ?_
    refine Run.go rfl rfl rfl (sem_pick true ((Value.bool true)) rfl rfl ?_)
    refine Run.region_end ?_
    refine Run.condT rfl ?_
    refine Run.seq ?_
    refine Run.ops0 (idx := [0]) rfl ?_
    refine Run.go rfl rfl rfl (sem_assign ((Value.bool false)) rfl ?_)
    refine Run.region_end ?_
    refine Run.ret ⟨.inr rfl, ?_⟩
    exact hS.imp fun h' hq => ⟨(false), rfl, hq⟩
  · have hS := hF hb19; clear hT hF
    refine Run.go rfl rfl rfl (sem_binI .i64 (i2) (0) (.bool false) rfl rfl (binI_lss_f hb19) ?_)
    refine Run.go rfl rfl rfl (sem_move ((Value.bool false)) rfl ?_)
    refine Run.go rfl rfl rfl (sem_move ((Value.int .i64 (i2))) rfl ?_)
    obtain ⟨hT, hF⟩ := hS
    by_cases hb20 : (i2 : Int) > (5)
    · have hS := hT hb20; clear hT hF
      refine Run.go rfl rfl rfl (sem_binI .i64 (i2) (5) (.bool true) rfl rfl (binI_gtr_t hb20) ?_)
      refine Run.go rfl rfl rfl (sem_pick false ((Value.bool true)) rfl rfl ?_)
      refine Run.go rfl rfl rfl (sem_move ((Value.bool true)) rfl ?_)
      refine Run.no rfl rfl rfl ?_
      refine Run.no rfl rfl rfl ?_
      refine Run.no rfl rfl rfl ?_
      refine Run.no rfl rfl rfl ?_
      refine Run.go rfl rfl rfl (sem_pick true ((Value.bool true)) rfl rfl ?_)
      refine Run.go rfl rfl rfl (sem_move ((Value.bool true)) rfl ?_)
      refine Run.no rfl rfl rfl ?_
      refine Run.no rfl rfl rfl ?_
      refine Run.no rfl rfl rfl ?_
      refine Run.no rfl rfl rfl ?_
      refine Run.no rfl rfl rfl ?_
      refine Run.no rfl rfl rfl ?_
      refine Run.no rfl rfl rfl ?_
      refine Run.no rfl rfl rfl ?_
      refine Run.go rfl rfl rfl (sem_pick true ((Value.bool true)) rfl rfl ?_)
      refine Run.region_end ?_
      refine Run.condT rfl ?_
      refine Run.seq ?_
      refine Run.ops0 (idx := [0]) rfl ?_
      refine Run.go rfl rfl rfl (sem_assign ((Value.bool false)) rfl ?_)
      refine Run.region_end ?_
      refine Run.ret ⟨.inr rfl, ?_⟩
      exact hS.imp fun h' hq => ⟨(false), rfl, hq⟩
    · have hS := hF hb20; clear hT hF
      refine Run.go rfl rfl rfl (sem_binI .i64 (i2) (5) (.bool false) rfl rfl (binI_gtr_f hb20) ?_)
      refine Run.go rfl rfl rfl (sem_pick false ((Value.bool false)) rfl rfl ?_)
      refine Run.go rfl rfl rfl (sem_move ((Value.bool false)) rfl ?_)
      refine Run.go rfl rfl rfl (sem_fieldAddr ⟨k7, 0, none⟩ 1 rfl TF.fld_63_1 ?_)
      obtain ⟨s21, hl, hS⟩ := hS
      refine Run.go rfl rfl rfl (sem_load1 ⟨k7, 1, none⟩ ((Value.string s21)) rfl TF.agg_9 hl ?_)
      refine Run.go rfl rfl rfl (sem_lenStr s21 rfl TF.isStr_9 ?_)
      obtain ⟨hT, hF⟩ := hS
      by_cases hb22 : ((ByteArray.size s21 : Nat) : Int) > (32)
      · have hS := hT hb22; clear hT hF
        refine Run.go rfl rfl rfl (sem_binI .i64 ((ByteArray.size s21 : Nat)) (32) (.bool true) rfl rfl (binI_gtr_t hb22) ?_)
        refine Run.go rfl rfl rfl (sem_pick false ((Value.bool true)) rfl rfl ?_)
        refine Run.go rfl rfl rfl (sem_move ((Value.bool true)) rfl ?_)
        refine Run.no rfl rfl rfl ?_
        refine Run.no rfl rfl rfl ?_
        refine Run.no rfl rfl rfl ?_
        refine Run.no rfl rfl rfl ?_
        refine Run.no rfl rfl rfl ?_
        refine Run.no rfl rfl rfl ?_
        refine Run.no rfl rfl rfl ?_
        refine Run.no rfl rfl rfl ?_
        refine Run.go rfl rfl rfl (sem_pick true ((Value.bool true)) rfl rfl ?_)
        refine Run.region_end ?_
        refine Run.condT rfl ?_
        refine Run.seq ?_
        refine Run.ops0 (idx := [0]) rfl ?_
        refine Run.go rfl rfl rfl (sem_assign ((Value.bool false)) rfl ?_)
        refine Run.region_end ?_
        refine Run.ret ⟨.inr rfl, ?_⟩
        exact hS.imp fun h' hq => ⟨(false), rfl, hq⟩
      · have hS := hF hb22; clear hT hF
        refine Run.go rfl rfl rfl (sem_binI .i64 ((ByteArray.size s21 : Nat)) (32) (.bool false) rfl rfl (binI_gtr_f hb22) ?_)
        refine Run.go rfl rfl rfl (sem_pick false ((Value.bool false)) rfl rfl ?_)
        refine Run.go rfl rfl rfl (sem_move ((Value.bool false)) rfl ?_)
        refine Run.go rfl rfl rfl (sem_fieldAddr ⟨k7, 0, none⟩ 0 rfl TF.fld_63_0 ?_)
        obtain ⟨b23, hl, hS⟩ := hS
        obtain ⟨hT, hF⟩ := hS
        cases b23
        · have hS := hF rfl; clear hT hF
          refine Run.go rfl rfl rfl (sem_load1 ⟨k7, 0, none⟩ (.bool false) rfl TF.agg_4 hl ?_)
          refine Run.go rfl rfl rfl (sem_not false rfl ?_)
          refine Run.go rfl rfl rfl (sem_move ((Value.bool true)) rfl ?_)
          refine Run.go rfl rfl rfl (sem_fieldAddr ⟨k7, 0, none⟩ 1 rfl TF.fld_63_1 ?_)
          obtain ⟨s24, hl, hS⟩ := hS
          refine Run.go rfl rfl rfl (sem_load1 ⟨k7, 1, none⟩ ((Value.string s24)) rfl TF.agg_9 hl ?_)
          obtain ⟨hT, hF⟩ := hS
          by_cases hb25 : s24 = (ByteArray.mk #[])
          · have hS := hT hb25; clear hT hF
            refine Run.go rfl rfl rfl (sem_strNeT s24 (ByteArray.mk #[]) rfl rfl hb25 ?_)
            refine Run.go rfl rfl rfl (sem_pick true ((Value.bool false)) rfl rfl ?_)
            refine Run.go rfl rfl rfl (sem_pick false ((Value.bool false)) rfl rfl ?_)
            refine Run.region_end ?_
            refine Run.condF rfl ?_
            refine Run.skip ?_
            exact Run.of_fin (hS.imp fun h' hS => j9 _ _ ⟨⟨rfl, rfl, rfl, rfl, trivial⟩, hS⟩)
          · have hS := hF hb25; clear hT hF
            refine Run.go rfl rfl rfl (sem_strNeF s24 (ByteArray.mk #[]) rfl rfl hb25 ?_)
            refine Run.go rfl rfl rfl (sem_pick true ((Value.bool true)) rfl rfl ?_)
            refine Run.go rfl rfl rfl (sem_pick false ((Value.bool true)) rfl rfl ?_)
            refine Run.region_end ?_
            refine Run.condT rfl ?_
            refine Run.seq ?_
            refine Run.ops0 (idx := [0]) rfl ?_
            refine Run.go rfl rfl rfl (sem_assign ((Value.bool false)) rfl ?_)
            refine Run.region_end ?_
            refine Run.ret ⟨.inr rfl, ?_⟩
            exact hS.imp fun h' hq => ⟨(false), rfl, hq⟩
        · have hS := hT rfl; clear hT hF
          refine Run.go rfl rfl rfl (sem_load1 ⟨k7, 0, none⟩ (.bool true) rfl TF.agg_4 hl ?_)
          refine Run.go rfl rfl rfl (sem_not true rfl ?_)
          refine Run.go rfl rfl rfl (sem_move ((Value.bool false)) rfl ?_)
          refine Run.no rfl rfl rfl ?_
          refine Run.no rfl rfl rfl ?_
          refine Run.no rfl rfl rfl ?_
          refine Run.go rfl rfl rfl (sem_pick false ((Value.bool false)) rfl rfl ?_)
          refine Run.go rfl rfl rfl (sem_pick false ((Value.bool false)) rfl rfl ?_)
          refine Run.region_end ?_
          refine Run.condF rfl ?_
          refine Run.skip ?_
          exact Run.of_fin (hS.imp fun h' hS => j9 _ _ ⟨⟨rfl, rfl, rfl, rfl, trivial⟩, hS⟩)
set_option maxHeartbeats 4000000 in
theorem C_tome_Tome_Get.of {B : RO} {p1 : Option Addr} {i2 : Int} {h : Heap} {Q : Bool → ByteArray → Int → Heap → Prop} (hS : S_tome_Tome_Get B p1 i2 h Q) : C_tome_Tome_Get B p1 i2 h Q := by
  unfold S_tome_Tome_Get at hS
  unfold C_tome_Tome_Get
  refine Spec.of_run Try.func38 (N := 17) (rs := [ResultVar.cell 4 54, ResultVar.tmp 5]) rfl rfl rfl (Nat.le_of_ble_eq_true rfl) ?_
  refine Run.seq ?_
  refine Run.ops0 (idx := [0, 1]) rfl ?_
  refine Run.go rfl rfl rfl (sem_allocN [(Value.bool false), (Value.string ByteArray.empty)] TF.zero_54 (fun k6 hb1 hb2 h7 hb3 => ?_))
  have hS := hS k6 hb1 hb2 h7 hb3
  refine Run.go rfl rfl rfl (sem_assign ((Value.int .i64 (0))) rfl ?_)
  refine Run.region_end ?_
  refine Run.seq ?_
  refine Run.seq ?_
  refine Run.ops0 (idx := [0, 1]) rfl ?_
  refine Run.go rfl rfl rfl (sem_move ((Value.pointer p1)) rfl ?_)
  obtain ⟨hT, hF⟩ := hS
  by_cases hb8 : p1 = none
  · have hS := hT hb8; clear hT hF
    refine Run.go rfl rfl rfl (sem_ptrNilT p1 (.inl rfl) true rfl rfl TF.ptr_57 hb8 rfl ?_)
    refine Run.region_end ?_
    refine Run.condT rfl ?_
    refine Run.seq ?_
    refine Run.ops0 (idx := [0, 1, 2]) rfl ?_
    refine Run.go rfl rfl rfl (sem_buildSL [] [(Value.bool false), (Value.string ByteArray.empty)] TF.zero_54 TF.places_54 rfl rfl ?_)
    obtain ⟨h9, hst, hS⟩ := hS
    refine Run.go rfl rfl rfl (sem_storeN ⟨k6, 0, none⟩ [(Value.bool false), (Value.string ByteArray.empty)] h9 rfl rfl TF.sz_54 hst ?_)
    refine Run.go rfl rfl rfl (sem_assign ((Value.int .i64 (0))) rfl ?_)
    refine Run.region_end ?_
    obtain ⟨b10, s11, hl0, hS⟩ := hS
    refine Run.ret ⟨.inr rfl, ?_⟩
    exact ⟨⟨k6, 0, none⟩, (Value.agg #[(Value.bool b10), (Value.string s11)]), rfl, loadHN TF.agg_54 TF.sz_54 hl0, hS.imp fun h' hq => ⟨(b10), s11, (0), rfl, hq⟩⟩
  · have hS := hF hb8; clear hT hF
    refine Run.go rfl rfl rfl (sem_ptrNilF p1 (.inl rfl) false rfl rfl TF.ptr_57 hb8 rfl ?_)
    refine Run.region_end ?_
    refine Run.condF rfl ?_
    refine Run.skip ?_
    refine Run.seq ?_
    refine Run.ops0 (idx := [0, 1, 2, 3, 4, 5, 6, 7, 8, 9]) rfl ?_
    refine Run.go rfl rfl rfl (sem_move ((Value.pointer p1)) rfl ?_)
    obtain ⟨A12, e13, hS⟩ := hS
    refine Run.go rfl rfl rfl (sem_nilCheck A12 (congrArg Value.pointer e13) ?_)
    refine Run.go rfl rfl rfl (sem_fieldAddr A12 0 rfl TF.fld_145_0 ?_)
    obtain ⟨p14, hl, hS⟩ := hS
    refine Run.go rfl rfl rfl (sem_load1 A12 ((Value.pointer p14)) rfl TF.agg_142 hl ?_)
    refine Run.go rfl rfl rfl (sem_move ((Value.int .i64 (i2))) rfl ?_)
    refine Run.go rfl rfl rfl (sem_callL [(Value.pointer p14), (Value.int .i64 (i2))] (TF.goes_81) rfl rfl (Spec.mono hS fun v h15 hv => ?_))
    obtain ⟨b16, s17, i18, rfl, hS⟩ := hv
    refine Run.go rfl rfl rfl (sem_extract #[(Value.agg #[(Value.bool b16), (Value.string s17)]), (Value.int .i64 (i18))] ((Value.agg #[(Value.bool b16), (Value.string s17)])) rfl rfl ?_)
    refine Run.go rfl rfl rfl (sem_extract #[(Value.agg #[(Value.bool b16), (Value.string s17)]), (Value.int .i64 (i18))] ((Value.int .i64 (i18))) rfl rfl ?_)
    obtain ⟨h19, hst, hS⟩ := hS
    refine Run.go rfl rfl rfl (sem_storeN ⟨k6, 0, none⟩ [(Value.bool b16), (Value.string s17)] h19 rfl rfl TF.sz_54 hst ?_)
    refine Run.go rfl rfl rfl (sem_assign ((Value.int .i64 (i18))) rfl ?_)
    refine Run.region_end ?_
    obtain ⟨b20, s21, hl0, hS⟩ := hS
    refine Run.ret ⟨.inr rfl, ?_⟩
    exact ⟨⟨k6, 0, none⟩, (Value.agg #[(Value.bool b20), (Value.string s21)]), rfl, loadHN TF.agg_54 TF.sz_54 hl0, hS.imp fun h' hq => ⟨(b20), s21, (i18), rfl, hq⟩⟩
set_option maxHeartbeats 4000000 in
theorem C_tome_Tome_All.of {B : RO} {p1 : Option Addr} {h : Heap} {Q : Value → Heap → Prop} (hS : S_tome_Tome_All B p1 h Q) : C_tome_Tome_All B p1 h Q := by
  unfold S_tome_Tome_All at hS
  unfold C_tome_Tome_All
  refine Spec.of_run Try.func39 (N := 4) (rs := [ResultVar.tmp 2]) rfl rfl rfl (Nat.le_of_ble_eq_true rfl) ?_
  refine Run.seq ?_
  refine Run.ops0 (idx := [0, 1]) rfl ?_
  refine Run.go rfl rfl rfl (sem_box1N ((Value.pointer p1)) rfl rfl (fun k3 hb1 hb2 h4 hb3 => ?_))
  have hS := hS k3 hb1 hb2 h4 hb3
  refine Run.go rfl rfl rfl (sem_assign (Value.nilFunc) rfl ?_)
  refine Run.region_end ?_
  refine Run.seq ?_
  refine Run.ops0 (idx := [0, 1]) rfl ?_
  refine Run.go rfl rfl rfl (sem_makeFuncL [] [(Value.pointer (some ⟨k3, 0, none⟩))] rfl rfl ?_)
  refine Run.go rfl rfl rfl (sem_assign ((Value.func (.func 82) #[] #[(Value.pointer (some ⟨k3, 0, none⟩))])) rfl ?_)
  refine Run.region_end ?_
  refine Run.ret ⟨.inr rfl, ?_⟩
  exact hS.imp fun h' hq => ⟨(Value.func (.func 82) #[] #[(Value.pointer (some ⟨k3, 0, none⟩))]), rfl, hq⟩
set_option maxHeartbeats 4000000 in
theorem C_countermandref10_Bytes.of {B : RO} {l1 : List Value} {h : Heap} {Q : ByteArray → Heap → Prop} (hS : S_countermandref10_Bytes B l1 h Q) : C_countermandref10_Bytes B l1 h Q := by
  unfold S_countermandref10_Bytes at hS
  unfold C_countermandref10_Bytes
  refine Spec.of_run Try.func40 (N := 23) (rs := [ResultVar.tmp 2]) rfl rfl rfl (Nat.le_of_ble_eq_true rfl) ?_
  refine Run.seq ?_
  refine Run.ops0 (idx := [0, 1]) rfl ?_
  refine Run.go rfl rfl rfl (sem_boxNN l1 rfl (fun k3 hb1 hb2 h4 hb3 => ?_))
  have hS := hS k3 hb1 hb2 h4 hb3
  refine Run.go rfl rfl rfl (sem_assign ((Value.string (ByteArray.mk #[]))) rfl ?_)
  refine Run.region_end ?_
  refine Run.seq ?_
  refine Run.ops0 (idx := [0]) rfl ?_
  refine Run.go rfl rfl rfl (sem_assign ((Value.string (ByteArray.mk #[]))) rfl ?_)
  refine Run.region_end ?_
  refine Run.seq ?_
  refine Run.seq ?_
  refine Run.ops0 (idx := [0, 1]) rfl ?_
  obtain ⟨l5, hln, hl, hS⟩ := hS
  refine Run.go rfl rfl rfl (sem_loadN ⟨k3, 0, none⟩ l5 rfl TF.agg_64 (TF.sz_64.trans (congrArg some hln.symm)) hl ?_)
  refine Run.go rfl rfl rfl (sem_move ((Value.int .i64 (0))) rfl ?_)
  refine Run.region_end ?_
  refine Run.block ?_
  obtain ⟨J12, m10, h0, hS⟩ := hS
  refine Run.of_fin (h0.imp fun h' h0 => ?_)
  refine Run.loop (σ := ByteArray × Int × Nat) (fun x e h => J12 x.1 x.2.1 x.2.2 h ∧ Agree [(3, (Value.string x.1)), (6, (Value.agg (List.toArray l5))), (7, (Value.int .i64 (x.2.1)))] e) (fun x => x.2.2) ((ByteArray.mk #[]), (0), m10) ⟨h0, ⟨rfl, rfl, rfl, trivial⟩⟩ ?_; clear h0
  rintro ⟨s6, i7, m9⟩ e h8 ⟨hJ, hag⟩ ih11
  have hS := hS s6 i7 m9 h8 hJ; clear hJ
  refine Run.env hag ?_; clear hag
  refine Run.seq ?_
  refine Run.ops0 (idx := [0]) rfl ?_
  obtain ⟨hT, hF⟩ := hS
  by_cases hb13 : (i7 : Int) < (6)
  · have hS := hT hb13; clear hT hF
    refine Run.go rfl rfl rfl (sem_binI .i64 (i7) (6) (.bool true) rfl rfl (binI_lss_t hb13) ?_)
    refine Run.region_end ?_
    refine Run.seq ?_
    refine Run.condT rfl ?_
    refine Run.skip ?_
    refine Run.seq ?_
    refine Run.block ?_
    refine Run.seq ?_
    refine Run.ops0 (idx := [0, 1, 2, 3, 4]) rfl ?_
    refine Run.go rfl rfl rfl (sem_move ((Value.int .i64 (i7))) rfl ?_)
    obtain ⟨hi0, hi1, b14, s15, hix, hS⟩ := hS
    refine Run.go rfl rfl rfl (sem_indexArr (List.toArray l5) (Value.agg #[(Value.bool b14), (Value.string s15)]) .i64 (i7) rfl rfl TF.arr_64 hi0 hi1 (congrArg (fun a => some (Value.agg a)) hix) ?_)
    refine Run.go rfl rfl rfl (sem_allocN [(Value.bool false), (Value.string ByteArray.empty)] TF.zero_63 (fun k16 hb1 hb2 h17 hb3 => ?_))
    have hS := hS k16 hb1 hb2 h17 hb3
    refine Run.go rfl rfl rfl (sem_assign ((Value.int .i64 (i7))) rfl ?_)
    obtain ⟨h18, hst, hS⟩ := hS
    refine Run.go rfl rfl rfl (sem_storeN ⟨k16, 0, none⟩ [(Value.bool b14), (Value.string s15)] h18 rfl rfl TF.sz_63 hst ?_)
    refine Run.region_end ?_
    refine Run.seq ?_
    refine Run.ops0 (idx := [0, 1]) rfl ?_
    refine Run.go rfl rfl rfl (sem_fieldAddr ⟨k16, 0, none⟩ 0 rfl TF.fld_63_0 ?_)
    obtain ⟨b19, hl, hS⟩ := hS
    obtain ⟨hT, hF⟩ := hS
    cases b19
    · have hS := hF rfl; clear hT hF
      refine Run.go rfl rfl rfl (sem_load1 ⟨k16, 0, none⟩ (.bool false) rfl TF.agg_4 hl ?_)
      refine Run.region_end ?_
      refine Run.condF rfl ?_
      refine Run.skip ?_
      refine Run.inBlock ?_
      refine Run.ops0 (idx := [0, 1]) rfl ?_
      refine Run.go rfl rfl rfl (sem_binI .i64 (i7) (1) ((Value.int .i64 (IntKind.wrap .i64 ((i7) + (1))))) rfl rfl rfl ?_)
      refine Run.go rfl rfl rfl (sem_move ((Value.int .i64 (IntKind.wrap .i64 ((i7) + (1))))) rfl ?_)
      refine Run.region_end ?_
      exact Run.of_fin (hS.imp fun h' ⟨m', hm, hS⟩ => ih11 (s6, (IntKind.wrap .i64 ((i7) + (1))), m') _ _ ⟨hS, ⟨rfl, rfl, rfl, trivial⟩⟩ hm)
    · have hS := hT rfl; clear hT hF
      refine Run.go rfl rfl rfl (sem_load1 ⟨k16, 0, none⟩ (.bool true) rfl TF.agg_4 hl ?_)
      refine Run.region_end ?_
      refine Run.condT rfl ?_
      skip
      skip
      skip
      obtain ⟨s23, hl, hS⟩ := hS
      have f24 := hl
      refine Run.draw (fun h' => cellH B h' ⟨k16, 1, none⟩ = some (Value.string s23) ∧ True) [] [.q 0, .q 1, .q 4, .q 5, .x 2, .q 3, .x 6, .q 7, .q 8] TF.mixed (by kernel_rfl) ⟨f24, trivial⟩ ?_
      refine RunO.quiet rfl rfl rfl (fun h' hC => sem_move ((Value.string s6)) rfl ⟨rfl, rfl⟩) ?_
      refine RunO.quiet rfl rfl rfl (fun h' hC => sem_move ((Value.int .i64 (i7))) rfl ⟨rfl, rfl⟩) ?_
      refine RunO.quiet rfl rfl rfl (fun h' hC => sem_fieldAddr ⟨k16, 0, none⟩ 1 rfl TF.fld_63_1 ⟨rfl, rfl⟩) ?_
      refine RunO.quiet rfl rfl rfl (fun h' hC => sem_load1 ⟨k16, 1, none⟩ ((Value.string s23)) rfl TF.agg_9 hC.1 ⟨rfl, rfl⟩) ?_
      refine OpH.go rfl rfl rfl (sem_callL [(Value.int .i64 (i7))] (TF.goes_75) rfl rfl (Spec.mono hS fun v h25 hv => ?_))
      obtain ⟨s26, rfl, hS⟩ := hv
      obtain ⟨g27, hS⟩ := hS
      refine ⟨fun _ => ⟨g27, trivial⟩, ?_⟩
      obtain ⟨hi0, hS⟩ := hS
      refine RunO.quiet rfl rfl rfl (fun h' hC => sem_strAdd s6 s26 rfl rfl hi0 ⟨rfl, rfl⟩) ?_
      refine OpH.go rfl rfl rfl (sem_callL [(Value.string s23)] (TF.goes_77) rfl rfl (Spec.mono hS fun v h28 hv => ?_))
      obtain ⟨s29, rfl, hS⟩ := hv
      obtain ⟨g30, hS⟩ := hS
      refine ⟨fun _ => ⟨g30, trivial⟩, ?_⟩
      obtain ⟨hi0, hS⟩ := hS
      refine RunO.quiet rfl rfl rfl (fun h' hC => sem_strAdd (s6 ++ s26) s29 rfl rfl hi0 ⟨rfl, rfl⟩) ?_
      refine RunO.quiet rfl rfl rfl (fun h' hC => sem_assign ((Value.string ((s6 ++ s26) ++ s29))) rfl ⟨rfl, rfl⟩) ?_
      refine Run.inBlock ?_
      refine Run.ops0 (idx := [0, 1]) rfl ?_
      refine Run.go rfl rfl rfl (sem_binI .i64 (i7) (1) ((Value.int .i64 (IntKind.wrap .i64 ((i7) + (1))))) rfl rfl rfl ?_)
      refine Run.go rfl rfl rfl (sem_move ((Value.int .i64 (IntKind.wrap .i64 ((i7) + (1))))) rfl ?_)
      refine Run.region_end ?_
      exact Run.of_fin (hS.imp fun h' ⟨m', hm, hS⟩ => ih11 (((s6 ++ s26) ++ s29), (IntKind.wrap .i64 ((i7) + (1))), m') _ _ ⟨hS, ⟨rfl, rfl, rfl, trivial⟩⟩ hm)
  · have hS := hF hb13; clear hT hF
    refine Run.go rfl rfl rfl (sem_binI .i64 (i7) (6) (.bool false) rfl rfl (binI_lss_f hb13) ?_)
    refine Run.region_end ?_
    refine Run.seq ?_
    refine Run.condF rfl ?_
    refine Run.exit rfl ?_
    refine Run.seq ?_
    refine Run.ops0 (idx := [0, 1]) rfl ?_
    refine Run.go rfl rfl rfl (sem_move ((Value.string s6)) rfl ?_)
    refine Run.go rfl rfl rfl (sem_assign ((Value.string s6)) rfl ?_)
    refine Run.region_end ?_
    refine Run.ret ⟨.inr rfl, ?_⟩
    exact hS.imp fun h' hq => ⟨s6, rfl, hq⟩
set_option maxHeartbeats 4000000 in
theorem C_tome_Read.of {B : RO} {s1 : ByteArray} {h : Heap} {Q : Option Addr → Bool → Heap → Prop} (hS : S_tome_Read B s1 h Q) : C_tome_Read B s1 h Q := by
  unfold S_tome_Read at hS
  unfold C_tome_Read
  refine Spec.of_run Try.func41 (N := 33) (rs := [ResultVar.tmp 2, ResultVar.tmp 3]) rfl rfl rfl (Nat.le_of_ble_eq_true rfl) ?_
  refine Run.seq ?_
  refine Run.ops0 (idx := [0, 1]) rfl ?_
  refine Run.go rfl rfl rfl (sem_assign ((Value.pointer none)) rfl ?_)
  refine Run.go rfl rfl rfl (sem_assign ((Value.bool false)) rfl ?_)
  refine Run.region_end ?_
  refine Run.seq ?_
  refine Run.ops0 (idx := [0, 1]) rfl ?_
  refine Run.go rfl rfl rfl (sem_callL [] (TF.goes_33) rfl rfl (Spec.mono hS fun v h4 hv => ?_))
  obtain ⟨p5, rfl, hS⟩ := hv
  refine Run.go rfl rfl rfl (sem_assign ((Value.pointer p5)) rfl ?_)
  refine Run.region_end ?_
  refine Run.seq ?_
  refine Run.ops0 (idx := [0, 1, 2]) rfl ?_
  refine Run.go rfl rfl rfl (sem_move ((Value.string s1)) rfl ?_)
  refine Run.go rfl rfl rfl (sem_callL [(Value.string s1)] (TF.goes_16) rfl rfl (Spec.mono hS fun v h6 hv => ?_))
  obtain ⟨p7, rfl, hS⟩ := hv
  refine Run.go rfl rfl rfl (sem_assign ((Value.pointer p7)) rfl ?_)
  refine Run.region_end ?_
  refine Run.seq ?_
  refine Run.seq ?_
  refine Run.ops0 (idx := [0]) rfl ?_
  refine Run.go rfl rfl rfl (sem_assign ((Value.int .i64 ((-1)))) rfl ?_)
  refine Run.region_end ?_
  refine Run.block ?_
  obtain ⟨J13, m11, h0, hS⟩ := hS
  refine Run.of_fin (h0.imp fun h' h0 => ?_)
  refine Run.loop (σ := Int × Nat) (fun x e h => J13 x.1 x.2 h ∧ Agree [(4, (Value.pointer p5)), (5, (Value.pointer p7)), (6, (Value.int .i64 (x.1)))] e) (fun x => x.2) (((-1)), m11) ⟨h0, ⟨rfl, rfl, rfl, trivial⟩⟩ ?_; clear h0
  rintro ⟨i8, m10⟩ e h9 ⟨hJ, hag⟩ ih12
  have hS := hS i8 m10 h9 hJ; clear hJ
  refine Run.env hag ?_; clear hag
  refine Run.seq ?_
  refine Run.seq ?_
  refine Run.ops0 (idx := [0, 1, 2]) rfl ?_
  refine Run.go rfl rfl rfl (sem_move ((Value.pointer p7)) rfl ?_)
  refine Run.go rfl rfl rfl (sem_callL [(Value.pointer p7)] (TF.goes_24) rfl rfl (Spec.mono hS fun v h14 hv => ?_))
  obtain ⟨i15, rfl, hS⟩ := hv
  obtain ⟨hT, hF⟩ := hS
  by_cases hb16 : (i15 : Int) > (0)
  · have hS := hT hb16; clear hT hF
    refine Run.go rfl rfl rfl (sem_binI .i64 (i15) (0) (.bool true) rfl rfl (binI_gtr_t hb16) ?_)
    refine Run.region_end ?_
    refine Run.condT rfl ?_
    refine Run.skip ?_
    refine Run.block ?_
    refine Run.seq ?_
    refine Run.ops0 (idx := [0, 1, 2]) rfl ?_
    refine Run.go rfl rfl rfl (sem_move ((Value.pointer p7)) rfl ?_)
    refine Run.go rfl rfl rfl (sem_callL [(Value.pointer p7), (Value.int .i64 (5))] (TF.goes_18) rfl rfl (Spec.mono hS fun v h17 hv => ?_))
    obtain ⟨i18, rfl, hS⟩ := hv
    refine Run.go rfl rfl rfl (sem_assign ((Value.int .i64 (i18))) rfl ?_)
    refine Run.region_end ?_
    refine Run.seq ?_
    refine Run.ops0 (idx := [0, 1, 2]) rfl ?_
    refine Run.go rfl rfl rfl (sem_move ((Value.pointer p7)) rfl ?_)
    refine Run.go rfl rfl rfl (sem_callL [(Value.pointer p7), (Value.int .i64 (32))] (TF.goes_22) rfl rfl (Spec.mono hS fun v h19 hv => ?_))
    obtain ⟨s20, rfl, hS⟩ := hv
    refine Run.go rfl rfl rfl (sem_assign ((Value.string s20)) rfl ?_)
    refine Run.region_end ?_
    refine Run.seqJ (fun e h22 => Agree [(4, (Value.pointer p5)), (5, (Value.pointer p7)), (7, (Value.int .i64 (i18))), (8, (Value.string s20))] e ∧ S_tome_Read_J1 B p5 p7 m10 J13 i18 s20 h22 Q) ?_ fun j21 => ?_
    · rintro e h22 ⟨hag, hS⟩
      refine Run.env hag ?_; clear hag
      refine Run.seq ?_
      refine Run.ops0 (idx := [0, 1, 2, 3, 4]) rfl ?_
      refine Run.go rfl rfl rfl (sem_move ((Value.pointer p5)) rfl ?_)
      refine Run.go rfl rfl rfl (sem_move ((Value.int .i64 (i18))) rfl ?_)
      refine Run.go rfl rfl rfl (sem_move ((Value.string s20)) rfl ?_)
      refine Run.go rfl rfl rfl (sem_buildSL [(0, (Value.bool true)), (1, (Value.string s20))] [(Value.bool true), (Value.string s20)] TF.zero_54 TF.places_54 rfl rfl ?_)
      refine Run.go rfl rfl rfl (sem_callL [(Value.pointer p5), (Value.int .i64 (i18)), (Value.agg #[(Value.bool true), (Value.string s20)]), (Value.int .i64 (0))] (TF.goes_34) rfl rfl (Spec.mono hS fun v h23 hv => ?_))
      obtain ⟨b24, rfl, hS⟩ := hv
      refine Run.region_end ?_
      refine Run.ops0 (idx := [0, 1]) rfl ?_
      refine Run.go rfl rfl rfl (sem_move ((Value.int .i64 (i18))) rfl ?_)
      refine Run.go rfl rfl rfl (sem_assign ((Value.int .i64 (i18))) rfl ?_)
      refine Run.region_end ?_
      refine Run.inBlock ?_
      exact Run.of_fin (hS.imp fun h' ⟨m', hm, hS⟩ => ih12 ((i18), m') _ _ ⟨hS, ⟨rfl, rfl, rfl, trivial⟩⟩ hm)
    refine Run.seq ?_
    refine Run.ops0 (idx := [0, 1, 2, 3, 4, 5, 6]) rfl ?_
    refine Run.go rfl rfl rfl (sem_move ((Value.pointer p7)) rfl ?_)
    refine Run.go rfl rfl rfl (sem_callL [(Value.pointer p7)] (TF.goes_23) rfl rfl (Spec.mono hS fun v h25 hv => ?_))
    obtain ⟨b26, rfl, hS⟩ := hv
    obtain ⟨hT, hF⟩ := hS
    cases b26
    · have hS := hF rfl; clear hT hF
      refine Run.go rfl rfl rfl (sem_move ((Value.bool false)) rfl ?_)
      refine Run.go rfl rfl rfl (sem_move ((Value.int .i64 (i18))) rfl ?_)
      refine Run.go rfl rfl rfl (sem_move ((Value.int .i64 (i8))) rfl ?_)
      obtain ⟨hT, hF⟩ := hS
      by_cases hb27 : (i18 : Int) ≤ (i8)
      · have hS := hT hb27; clear hT hF
        refine Run.go rfl rfl rfl (sem_binI .i64 (i18) (i8) (.bool true) rfl rfl (binI_leq_t hb27) ?_)
        refine Run.go rfl rfl rfl (sem_pick false ((Value.bool true)) rfl rfl ?_)
        refine Run.region_end ?_
        refine Run.condT rfl ?_
        refine Run.seq ?_
        refine Run.ops0 (idx := [0, 1]) rfl ?_
        refine Run.go rfl rfl rfl (sem_assign ((Value.pointer none)) rfl ?_)
        refine Run.go rfl rfl rfl (sem_assign ((Value.bool false)) rfl ?_)
        refine Run.region_end ?_
        refine Run.ret ⟨.inr rfl, ?_⟩
        exact hS.imp fun h' hq => ⟨none, (false), rfl, hq⟩
      · have hS := hF hb27; clear hT hF
        refine Run.go rfl rfl rfl (sem_binI .i64 (i18) (i8) (.bool false) rfl rfl (binI_leq_f hb27) ?_)
        refine Run.go rfl rfl rfl (sem_pick false ((Value.bool false)) rfl rfl ?_)
        refine Run.region_end ?_
        refine Run.condF rfl ?_
        refine Run.skip ?_
        exact Run.of_fin (hS.imp fun h' hS => j21 _ _ ⟨⟨rfl, rfl, rfl, rfl, trivial⟩, hS⟩)
    · have hS := hT rfl; clear hT hF
      refine Run.go rfl rfl rfl (sem_move ((Value.bool true)) rfl ?_)
      refine Run.no rfl rfl rfl ?_
      refine Run.no rfl rfl rfl ?_
      refine Run.no rfl rfl rfl ?_
      refine Run.go rfl rfl rfl (sem_pick true ((Value.bool true)) rfl rfl ?_)
      refine Run.region_end ?_
      refine Run.condT rfl ?_
      refine Run.seq ?_
      refine Run.ops0 (idx := [0, 1]) rfl ?_
      refine Run.go rfl rfl rfl (sem_assign ((Value.pointer none)) rfl ?_)
      refine Run.go rfl rfl rfl (sem_assign ((Value.bool false)) rfl ?_)
      refine Run.region_end ?_
      refine Run.ret ⟨.inr rfl, ?_⟩
      exact hS.imp fun h' hq => ⟨none, (false), rfl, hq⟩
  · have hS := hF hb16; clear hT hF
    refine Run.go rfl rfl rfl (sem_binI .i64 (i15) (0) (.bool false) rfl rfl (binI_gtr_f hb16) ?_)
    refine Run.region_end ?_
    refine Run.condF rfl ?_
    refine Run.exit rfl ?_
    refine Run.seq ?_
    refine Run.ops0 (idx := [0, 1, 2]) rfl ?_
    refine Run.go rfl rfl rfl (sem_move ((Value.pointer p5)) rfl ?_)
    refine Run.go rfl rfl rfl (sem_assign ((Value.pointer p5)) rfl ?_)
    refine Run.go rfl rfl rfl (sem_assign ((Value.bool true)) rfl ?_)
    refine Run.region_end ?_
    refine Run.ret ⟨.inr rfl, ?_⟩
    exact hS.imp fun h' hq => ⟨p5, (true), rfl, hq⟩
set_option maxHeartbeats 4000000 in
theorem C_countermandref10_Read.of {B : RO} {s1 : ByteArray} {h : Heap} {Q : List Value → Bool → Heap → Prop} (hS : S_countermandref10_Read B s1 h Q) : C_countermandref10_Read B s1 h Q := by
  unfold S_countermandref10_Read at hS
  unfold C_countermandref10_Read
  refine Spec.of_run Try.func42 (N := 78) (rs := [ResultVar.cell 2 64, ResultVar.tmp 3]) rfl rfl rfl (Nat.le_of_ble_eq_true rfl) ?_
  refine Run.seq ?_
  refine Run.ops0 (idx := [0, 1]) rfl ?_
  refine Run.go rfl rfl rfl (sem_allocN [(Value.bool false), (Value.string ByteArray.empty), (Value.bool false), (Value.string ByteArray.empty), (Value.bool false), (Value.string ByteArray.empty), (Value.bool false), (Value.string ByteArray.empty), (Value.bool false), (Value.string ByteArray.empty), (Value.bool false), (Value.string ByteArray.empty)] TF.zero_64 (fun k4 hb1 hb2 h5 hb3 => ?_))
  have hS := hS k4 hb1 hb2 h5 hb3
  refine Run.go rfl rfl rfl (sem_assign ((Value.bool false)) rfl ?_)
  refine Run.region_end ?_
  refine Run.seq ?_
  refine Run.ops0 (idx := [0]) rfl ?_
  refine Run.go rfl rfl rfl (sem_allocN [(Value.bool false), (Value.string ByteArray.empty), (Value.bool false), (Value.string ByteArray.empty), (Value.bool false), (Value.string ByteArray.empty), (Value.bool false), (Value.string ByteArray.empty), (Value.bool false), (Value.string ByteArray.empty), (Value.bool false), (Value.string ByteArray.empty)] TF.zero_64 (fun k6 hb1 hb2 h7 hb3 => ?_))
  have hS := hS k6 hb1 hb2 h7 hb3
  refine Run.region_end ?_
  refine Run.seq ?_
  refine Run.block ?_
  obtain ⟨J13, m11, h0, hS⟩ := hS
  refine Run.of_fin (h0.imp fun h' h0 => ?_)
  refine Run.loop (σ := ByteArray × Nat) (fun x e h => J13 x.1 x.2 h ∧ Agree [(0, (Value.string x.1)), (2, (Value.pointer (some ⟨k4, 0, none⟩))), (4, (Value.pointer (some ⟨k6, 0, none⟩)))] e) (fun x => x.2) (s1, m11) ⟨h0, ⟨rfl, rfl, rfl, trivial⟩⟩ ?_; clear h0
  rintro ⟨s8, m10⟩ e h9 ⟨hJ, hag⟩ ih12
  have hS := hS s8 m10 h9 hJ; clear hJ
  refine Run.env hag ?_; clear hag
  refine Run.seq ?_
  refine Run.seq ?_
  refine Run.ops0 (idx := [0, 1, 2]) rfl ?_
  refine Run.go rfl rfl rfl (sem_move ((Value.string s8)) rfl ?_)
  refine Run.go rfl rfl rfl (sem_lenStr s8 rfl TF.isStr_9 ?_)
  obtain ⟨hT, hF⟩ := hS
  by_cases hb14 : ((ByteArray.size s8 : Nat) : Int) > (0)
  · have hS := hT hb14; clear hT hF
    refine Run.go rfl rfl rfl (sem_binI .i64 ((ByteArray.size s8 : Nat)) (0) (.bool true) rfl rfl (binI_gtr_t hb14) ?_)
    refine Run.region_end ?_
    refine Run.condT rfl ?_
    refine Run.skip ?_
    refine Run.block ?_
    refine Run.seq ?_
    refine Run.ops0 (idx := [0, 1, 2, 3, 4, 5, 6]) rfl ?_
    refine Run.go rfl rfl rfl (sem_move ((Value.string s8)) rfl ?_)
    refine Run.go rfl rfl rfl (sem_callL [(Value.string s8)] (TF.goes_17) rfl rfl (Spec.mono hS fun v h15 hv => ?_))
    obtain ⟨i16, i17, rfl, hS⟩ := hv
    refine Run.go rfl rfl rfl (sem_move ((Value.tuple #[(Value.int .u64 (i16)), (Value.int .i64 (i17))])) rfl ?_)
    refine Run.go rfl rfl rfl (sem_extract #[(Value.int .u64 (i16)), (Value.int .i64 (i17))] ((Value.int .u64 (i16))) rfl rfl ?_)
    refine Run.go rfl rfl rfl (sem_extract #[(Value.int .u64 (i16)), (Value.int .i64 (i17))] ((Value.int .i64 (i17))) rfl rfl ?_)
    refine Run.go rfl rfl rfl (sem_assign ((Value.int .u64 (i16))) rfl ?_)
    refine Run.go rfl rfl rfl (sem_assign ((Value.int .i64 (i17))) rfl ?_)
    refine Run.region_end ?_
    refine Run.seqJ (fun e h19 => Agree [(0, (Value.string s8)), (2, (Value.pointer (some ⟨k4, 0, none⟩))), (4, (Value.pointer (some ⟨k6, 0, none⟩))), (5, (Value.int .u64 (i16))), (6, (Value.int .i64 (i17)))] e ∧ S_countermandref10_Read_J1 B k4 k6 s8 m10 J13 i16 i17 h19 Q) ?_ fun j18 => ?_
    · rintro e h19 ⟨hag, hS⟩
      refine Run.env hag ?_; clear hag
      refine Run.seq ?_
      refine Run.ops0 (idx := [0, 1, 2, 3]) rfl ?_
      refine Run.go rfl rfl rfl (sem_move ((Value.string s8)) rfl ?_)
      refine Run.go rfl rfl rfl (sem_move ((Value.int .i64 (i17))) rfl ?_)
      obtain ⟨hi0, hi1, hi2, hS⟩ := hS
      refine Run.go rfl rfl rfl (sem_sliceStrI s8 (i17) ((ByteArray.size s8 : Nat)) rfl TF.isStr_9 ⟨_, rfl⟩ rfl hi0 hi1 hi2 ?_)
      refine Run.go rfl rfl rfl (sem_assign ((Value.string (ByteArray.extract s8 (Int.toNat (i17)) (Int.toNat ((ByteArray.size s8 : Nat)))))) rfl ?_)
      refine Run.region_end ?_
      refine Run.seq ?_
      refine Run.ops0 (idx := [0, 1, 2, 3, 4, 5, 6]) rfl ?_
      refine Run.go rfl rfl rfl (sem_move ((Value.string (ByteArray.extract s8 (Int.toNat (i17)) (Int.toNat ((ByteArray.size s8 : Nat)))))) rfl ?_)
      refine Run.go rfl rfl rfl (sem_callL [(Value.string (ByteArray.extract s8 (Int.toNat (i17)) (Int.toNat ((ByteArray.size s8 : Nat)))))] (TF.goes_17) rfl rfl (Spec.mono hS fun v h20 hv => ?_))
      obtain ⟨i21, i22, rfl, hS⟩ := hv
      refine Run.go rfl rfl rfl (sem_move ((Value.tuple #[(Value.int .u64 (i21)), (Value.int .i64 (i22))])) rfl ?_)
      refine Run.go rfl rfl rfl (sem_extract #[(Value.int .u64 (i21)), (Value.int .i64 (i22))] ((Value.int .u64 (i21))) rfl rfl ?_)
      refine Run.go rfl rfl rfl (sem_extract #[(Value.int .u64 (i21)), (Value.int .i64 (i22))] ((Value.int .i64 (i22))) rfl rfl ?_)
      refine Run.go rfl rfl rfl (sem_assign ((Value.int .u64 (i21))) rfl ?_)
      refine Run.go rfl rfl rfl (sem_assign ((Value.int .i64 (i22))) rfl ?_)
      refine Run.region_end ?_
      refine Run.seqJ (fun e h24 => Agree [(0, (Value.string (ByteArray.extract s8 (Int.toNat (i17)) (Int.toNat ((ByteArray.size s8 : Nat)))))), (2, (Value.pointer (some ⟨k4, 0, none⟩))), (4, (Value.pointer (some ⟨k6, 0, none⟩))), (5, (Value.int .u64 (i16))), (7, (Value.int .u64 (i21))), (8, (Value.int .i64 (i22)))] e ∧ S_countermandref10_Read_J2 B k4 k6 s8 m10 J13 i16 i17 i21 i22 h24 Q) ?_ fun j23 => ?_
      · rintro e h24 ⟨hag, hS⟩
        refine Run.env hag ?_; clear hag
        refine Run.seqJ (fun e h26 => Agree [(0, (Value.string (ByteArray.extract s8 (Int.toNat (i17)) (Int.toNat ((ByteArray.size s8 : Nat)))))), (2, (Value.pointer (some ⟨k4, 0, none⟩))), (4, (Value.pointer (some ⟨k6, 0, none⟩))), (5, (Value.int .u64 (i16))), (7, (Value.int .u64 (i21))), (8, (Value.int .i64 (i22)))] e ∧ S_countermandref10_Read_J3 B k4 k6 s8 m10 J13 i16 i17 i21 i22 h26 Q) ?_ fun j25 => ?_
        · rintro e h26 ⟨hag, hS⟩
          refine Run.env hag ?_; clear hag
          refine Run.seq ?_
          refine Run.ops0 (idx := [0, 1, 2, 3, 4, 5, 6, 7, 8, 9, 10]) rfl ?_
          refine Run.go rfl rfl rfl (sem_move ((Value.int .u64 (i16))) rfl ?_)
          refine Run.go rfl rfl rfl (sem_move ((Value.string (ByteArray.extract s8 (Int.toNat (i17)) (Int.toNat ((ByteArray.size s8 : Nat)))))) rfl ?_)
          refine Run.go rfl rfl rfl (sem_move ((Value.int .i64 (i22))) rfl ?_)
          refine Run.go rfl rfl rfl (sem_move ((Value.int .i64 (i22))) rfl ?_)
          refine Run.go rfl rfl rfl (sem_move ((Value.int .u64 (i21))) rfl ?_)
          refine Run.go rfl rfl rfl (sem_convI .u64 .i64 (i21) rfl TF.int_28 TF.int_3 ?_)
          refine Run.go rfl rfl rfl (sem_binI .i64 (i22) (IntKind.wrap .i64 (i21)) ((Value.int .i64 (IntKind.wrap .i64 ((i22) + (IntKind.wrap .i64 (i21)))))) rfl rfl rfl ?_)
          obtain ⟨hi0, hi1, hi2, hS⟩ := hS
          refine Run.go rfl rfl rfl (sem_sliceStrI (ByteArray.extract s8 (Int.toNat (i17)) (Int.toNat ((ByteArray.size s8 : Nat)))) (i22) (IntKind.wrap .i64 ((i22) + (IntKind.wrap .i64 (i21)))) rfl TF.isStr_9 ⟨_, rfl⟩ ⟨_, rfl⟩ hi0 hi1 hi2 ?_)
          refine Run.go rfl rfl rfl (sem_buildSL [(0, (Value.bool true)), (1, (Value.string (ByteArray.extract (ByteArray.extract s8 (Int.toNat (i17)) (Int.toNat ((ByteArray.size s8 : Nat)))) (Int.toNat (i22)) (Int.toNat (IntKind.wrap .i64 ((i22) + (IntKind.wrap .i64 (i21))))))))] [(Value.bool true), (Value.string (ByteArray.extract (ByteArray.extract s8 (Int.toNat (i17)) (Int.toNat ((ByteArray.size s8 : Nat)))) (Int.toNat (i22)) (Int.toNat (IntKind.wrap .i64 ((i22) + (IntKind.wrap .i64 (i21)))))))] TF.zero_63 TF.places_63 rfl rfl ?_)
          obtain ⟨hi0, hi1, hS⟩ := hS
          refine Run.go rfl rfl rfl (sem_indexAddrA ⟨k6, 0, none⟩ .u64 (i16) rfl rfl TF.arr_64 hi0 hi1 ?_)
          obtain ⟨h27, hst, hS⟩ := hS
          refine Run.go rfl rfl rfl (sem_storeN (Addr.add ⟨k6, 0, none⟩ (Int.toNat (i16) * 2)) [(Value.bool true), (Value.string (ByteArray.extract (ByteArray.extract s8 (Int.toNat (i17)) (Int.toNat ((ByteArray.size s8 : Nat)))) (Int.toNat (i22)) (Int.toNat (IntKind.wrap .i64 ((i22) + (IntKind.wrap .i64 (i21)))))))] h27 rfl rfl TF.sz_63 hst ?_)
          refine Run.region_end ?_
          refine Run.ops0 (idx := [0, 1, 2, 3, 4, 5, 6]) rfl ?_
          refine Run.go rfl rfl rfl (sem_move ((Value.string (ByteArray.extract s8 (Int.toNat (i17)) (Int.toNat ((ByteArray.size s8 : Nat)))))) rfl ?_)
          refine Run.go rfl rfl rfl (sem_move ((Value.int .i64 (i22))) rfl ?_)
          refine Run.go rfl rfl rfl (sem_move ((Value.int .u64 (i21))) rfl ?_)
          refine Run.go rfl rfl rfl (sem_convI .u64 .i64 (i21) rfl TF.int_28 TF.int_3 ?_)
          refine Run.go rfl rfl rfl (sem_binI .i64 (i22) (IntKind.wrap .i64 (i21)) ((Value.int .i64 (IntKind.wrap .i64 ((i22) + (IntKind.wrap .i64 (i21)))))) rfl rfl rfl ?_)
          obtain ⟨hi0, hi1, hi2, hS⟩ := hS
          refine Run.go rfl rfl rfl (sem_sliceStrI (ByteArray.extract s8 (Int.toNat (i17)) (Int.toNat ((ByteArray.size s8 : Nat)))) (IntKind.wrap .i64 ((i22) + (IntKind.wrap .i64 (i21)))) ((ByteArray.size (ByteArray.extract s8 (Int.toNat (i17)) (Int.toNat ((ByteArray.size s8 : Nat)))) : Nat)) rfl TF.isStr_9 ⟨_, rfl⟩ rfl hi0 hi1 hi2 ?_)
          refine Run.go rfl rfl rfl (sem_assign ((Value.string (ByteArray.extract (ByteArray.extract s8 (Int.toNat (i17)) (Int.toNat ((ByteArray.size s8 : Nat)))) (Int.toNat (IntKind.wrap .i64 ((i22) + (IntKind.wrap .i64 (i21))))) (Int.toNat ((ByteArray.size (ByteArray.extract s8 (Int.toNat (i17)) (Int.toNat ((ByteArray.size s8 : Nat)))) : Nat)))))) rfl ?_)
          refine Run.region_end ?_
          refine Run.inBlock ?_
          exact Run.of_fin (hS.imp fun h' ⟨m', hm, hS⟩ => ih12 ((ByteArray.extract (ByteArray.extract s8 (Int.toNat (i17)) (Int.toNat ((ByteArray.size s8 : Nat)))) (Int.toNat (IntKind.wrap .i64 ((i22) + (IntKind.wrap .i64 (i21))))) (Int.toNat ((ByteArray.size (ByteArray.extract s8 (Int.toNat (i17)) (Int.toNat ((ByteArray.size s8 : Nat)))) : Nat)))), m') _ _ ⟨hS, ⟨rfl, rfl, rfl, trivial⟩⟩ hm)
        refine Run.seq ?_
        refine Run.ops0 (idx := [0, 1, 2, 3]) rfl ?_
        refine Run.go rfl rfl rfl (sem_move ((Value.int .u64 (i16))) rfl ?_)
        obtain ⟨hi0, hi1, hi2, hS⟩ := hS
        refine Run.go rfl rfl rfl (sem_sliceArrI ⟨k6, 0, none⟩ (i16) ((6 : Nat)) rfl TF.arr_64 ⟨_, rfl⟩ rfl hi0 hi1 hi2 ?_)
        refine Run.go rfl rfl rfl (sem_lenSl (some (if 6 = Int.toNat (i16) then ⟨k6, 0, none⟩ else Addr.add ⟨k6, 0, none⟩ (Int.toNat (i16) * 2))) (Int.toNat ((6 : Nat)) - Int.toNat (i16)) (6 - Int.toNat (i16)) rfl TF.sl_148 ?_)
        refine Run.go rfl rfl rfl (sem_move ((Value.int .i64 (0))) rfl ?_)
        refine Run.region_end ?_
        refine Run.block ?_
        obtain ⟨J33, m31, h0, hS⟩ := hS
        refine Run.of_fin (h0.imp fun h' h0 => ?_)
        refine Run.loop (σ := Int × Nat) (fun x e h => J33 x.1 x.2 h ∧ Agree [(0, (Value.string (ByteArray.extract s8 (Int.toNat (i17)) (Int.toNat ((ByteArray.size s8 : Nat)))))), (2, (Value.pointer (some ⟨k4, 0, none⟩))), (4, (Value.pointer (some ⟨k6, 0, none⟩))), (5, (Value.int .u64 (i16))), (7, (Value.int .u64 (i21))), (8, (Value.int .i64 (i22))), (51, (Value.slice (some (if 6 = Int.toNat (i16) then ⟨k6, 0, none⟩ else Addr.add ⟨k6, 0, none⟩ (Int.toNat (i16) * 2))) (Int.toNat ((6 : Nat)) - Int.toNat (i16)) (6 - Int.toNat (i16)))), (52, (Value.int .i64 (((Int.toNat ((6 : Nat)) - Int.toNat (i16)) : Nat)))), (53, (Value.int .i64 (x.1)))] e) (fun x => x.2) ((0), m31) ⟨h0, ⟨rfl, rfl, rfl, rfl, rfl, rfl, rfl, rfl, rfl, trivial⟩⟩ ?_; clear h0
        rintro ⟨i28, m30⟩ e h29 ⟨hJ, hag⟩ ih32
        have hS := hS i28 m30 h29 hJ; clear hJ
        refine Run.env hag ?_; clear hag
        refine Run.seq ?_
        refine Run.ops0 (idx := [0]) rfl ?_
        obtain ⟨hT, hF⟩ := hS
        by_cases hb34 : (i28 : Int) < (((Int.toNat ((6 : Nat)) - Int.toNat (i16)) : Nat))
        · have hS := hT hb34; clear hT hF
          refine Run.go rfl rfl rfl (sem_binI .i64 (i28) (((Int.toNat ((6 : Nat)) - Int.toNat (i16)) : Nat)) (.bool true) rfl rfl (binI_lss_t hb34) ?_)
          refine Run.region_end ?_
          refine Run.seq ?_
          refine Run.condT rfl ?_
          refine Run.skip ?_
          refine Run.seq ?_
          refine Run.block ?_
          refine Run.seq ?_
          refine Run.ops0 (idx := [0, 1, 2, 3]) rfl ?_
          obtain ⟨A35, e36, hi0, hi1, hS⟩ := hS
          refine Run.go rfl rfl rfl (sem_indexAddrS A35 (Int.toNat ((6 : Nat)) - Int.toNat (i16)) (6 - Int.toNat (i16)) .i64 (i28) (congrArg (fun a => Value.slice a (Int.toNat ((6 : Nat)) - Int.toNat (i16)) (6 - Int.toNat (i16))) e36) rfl TF.slc_148 hi0 hi1 ?_)
          obtain ⟨b37, s38, hl, hS⟩ := hS
          refine Run.go rfl rfl rfl (sem_loadN (Addr.add A35 (Int.toNat (i28) * 2)) [(Value.bool b37), (Value.string s38)] rfl TF.agg_63 TF.sz_63 hl ?_)
          refine Run.go rfl rfl rfl (sem_allocN [(Value.bool false), (Value.string ByteArray.empty)] TF.zero_63 (fun k39 hb1 hb2 h40 hb3 => ?_))
          have hS := hS k39 hb1 hb2 h40 hb3
          obtain ⟨h41, hst, hS⟩ := hS
          refine Run.go rfl rfl rfl (sem_storeN ⟨k39, 0, none⟩ [(Value.bool b37), (Value.string s38)] h41 rfl rfl TF.sz_63 hst ?_)
          refine Run.region_end ?_
          refine Run.seq ?_
          refine Run.ops0 (idx := [0, 1]) rfl ?_
          refine Run.go rfl rfl rfl (sem_fieldAddr ⟨k39, 0, none⟩ 0 rfl TF.fld_63_0 ?_)
          obtain ⟨b42, hl, hS⟩ := hS
          obtain ⟨hT, hF⟩ := hS
          cases b42
          · have hS := hF rfl; clear hT hF
            refine Run.go rfl rfl rfl (sem_load1 ⟨k39, 0, none⟩ (.bool false) rfl TF.agg_4 hl ?_)
            refine Run.region_end ?_
            refine Run.condF rfl ?_
            refine Run.skip ?_
            refine Run.inBlock ?_
            refine Run.ops0 (idx := [0, 1]) rfl ?_
            refine Run.go rfl rfl rfl (sem_binI .i64 (i28) (1) ((Value.int .i64 (IntKind.wrap .i64 ((i28) + (1))))) rfl rfl rfl ?_)
            refine Run.go rfl rfl rfl (sem_move ((Value.int .i64 (IntKind.wrap .i64 ((i28) + (1))))) rfl ?_)
            refine Run.region_end ?_
            exact Run.of_fin (hS.imp fun h' ⟨m', hm, hS⟩ => ih32 ((IntKind.wrap .i64 ((i28) + (1))), m') _ _ ⟨hS, ⟨rfl, rfl, rfl, rfl, rfl, rfl, rfl, rfl, rfl, trivial⟩⟩ hm)
          · have hS := hT rfl; clear hT hF
            refine Run.go rfl rfl rfl (sem_load1 ⟨k39, 0, none⟩ (.bool true) rfl TF.agg_4 hl ?_)
            refine Run.region_end ?_
            refine Run.condT rfl ?_
            refine Run.seq ?_
            refine Run.ops0 (idx := [0, 1, 2]) rfl ?_
            refine Run.go rfl rfl rfl (sem_buildAL [] [(Value.bool false), (Value.string ByteArray.empty), (Value.bool false), (Value.string ByteArray.empty), (Value.bool false), (Value.string ByteArray.empty), (Value.bool false), (Value.string ByteArray.empty), (Value.bool false), (Value.string ByteArray.empty), (Value.bool false), (Value.string ByteArray.empty)] TF.zero_64 TF.arr_64 rfl rfl ?_)
            obtain ⟨h43, hst, hS⟩ := hS
            refine Run.go rfl rfl rfl (sem_storeN ⟨k4, 0, none⟩ [(Value.bool false), (Value.string ByteArray.empty), (Value.bool false), (Value.string ByteArray.empty), (Value.bool false), (Value.string ByteArray.empty), (Value.bool false), (Value.string ByteArray.empty), (Value.bool false), (Value.string ByteArray.empty), (Value.bool false), (Value.string ByteArray.empty)] h43 rfl rfl TF.sz_64 hst ?_)
            refine Run.go rfl rfl rfl (sem_assign ((Value.bool false)) rfl ?_)
            refine Run.region_end ?_
            obtain ⟨l44, hln0, hl0, hS⟩ := hS
            refine Run.ret ⟨.inr rfl, ?_⟩
            exact ⟨⟨k4, 0, none⟩, (Value.agg (List.toArray l44)), rfl, loadHN TF.agg_64 (TF.sz_64.trans (congrArg some hln0.symm)) hl0, hS.imp fun h' hq => ⟨l44, (false), rfl, hq⟩⟩
        · have hS := hF hb34; clear hT hF
          refine Run.go rfl rfl rfl (sem_binI .i64 (i28) (((Int.toNat ((6 : Nat)) - Int.toNat (i16)) : Nat)) (.bool false) rfl rfl (binI_lss_f hb34) ?_)
          refine Run.region_end ?_
          refine Run.seq ?_
          refine Run.condF rfl ?_
          refine Run.exit rfl ?_
          exact Run.of_fin (hS.imp fun h' hS => j25 _ _ ⟨⟨rfl, rfl, rfl, rfl, rfl, rfl, trivial⟩, hS⟩)
      refine Run.seq ?_
      refine Run.ops0 (idx := [0, 1, 2, 3, 4, 5, 6, 7, 8, 9, 10, 11, 12, 13, 14]) rfl ?_
      refine Run.go rfl rfl rfl (sem_move ((Value.int .i64 (i22))) rfl ?_)
      obtain ⟨hT, hF⟩ := hS
      by_cases hb45 : (i22 : Int) = 0
      · have hS := hT hb45; clear hT hF
        refine Run.go rfl rfl rfl (sem_binI .i64 (i22) (0) (.bool true) rfl rfl (binI_eql_t hb45) ?_)
        refine Run.go rfl rfl rfl (sem_move ((Value.bool true)) rfl ?_)
        refine Run.no rfl rfl rfl ?_
        refine Run.no rfl rfl rfl ?_
        refine Run.go rfl rfl rfl (sem_pick true ((Value.bool true)) rfl rfl ?_)
        refine Run.go rfl rfl rfl (sem_move ((Value.bool true)) rfl ?_)
        refine Run.no rfl rfl rfl ?_
        refine Run.no rfl rfl rfl ?_
        refine Run.no rfl rfl rfl ?_
        refine Run.no rfl rfl rfl ?_
        refine Run.no rfl rfl rfl ?_
        refine Run.no rfl rfl rfl ?_
        refine Run.no rfl rfl rfl ?_
        refine Run.go rfl rfl rfl (sem_pick true ((Value.bool true)) rfl rfl ?_)
        refine Run.region_end ?_
        refine Run.condT rfl ?_
        refine Run.seq ?_
        refine Run.ops0 (idx := [0, 1, 2]) rfl ?_
        refine Run.go rfl rfl rfl (sem_buildAL [] [(Value.bool false), (Value.string ByteArray.empty), (Value.bool false), (Value.string ByteArray.empty), (Value.bool false), (Value.string ByteArray.empty), (Value.bool false), (Value.string ByteArray.empty), (Value.bool false), (Value.string ByteArray.empty), (Value.bool false), (Value.string ByteArray.empty)] TF.zero_64 TF.arr_64 rfl rfl ?_)
        obtain ⟨h46, hst, hS⟩ := hS
        refine Run.go rfl rfl rfl (sem_storeN ⟨k4, 0, none⟩ [(Value.bool false), (Value.string ByteArray.empty), (Value.bool false), (Value.string ByteArray.empty), (Value.bool false), (Value.string ByteArray.empty), (Value.bool false), (Value.string ByteArray.empty), (Value.bool false), (Value.string ByteArray.empty), (Value.bool false), (Value.string ByteArray.empty)] h46 rfl rfl TF.sz_64 hst ?_)
        refine Run.go rfl rfl rfl (sem_assign ((Value.bool false)) rfl ?_)
        refine Run.region_end ?_
        obtain ⟨l47, hln0, hl0, hS⟩ := hS
        refine Run.ret ⟨.inr rfl, ?_⟩
        exact ⟨⟨k4, 0, none⟩, (Value.agg (List.toArray l47)), rfl, loadHN TF.agg_64 (TF.sz_64.trans (congrArg some hln0.symm)) hl0, hS.imp fun h' hq => ⟨l47, (false), rfl, hq⟩⟩
      · have hS := hF hb45; clear hT hF
        refine Run.go rfl rfl rfl (sem_binI .i64 (i22) (0) (.bool false) rfl rfl (binI_eql_f hb45) ?_)
        refine Run.go rfl rfl rfl (sem_move ((Value.bool false)) rfl ?_)
        refine Run.go rfl rfl rfl (sem_move ((Value.int .u64 (i21))) rfl ?_)
        obtain ⟨hT, hF⟩ := hS
        by_cases hb48 : (i21 : Int) > (32)
        · have hS := hT hb48; clear hT hF
          refine Run.go rfl rfl rfl (sem_binI .u64 (i21) (32) (.bool true) rfl rfl (binI_gtr_t hb48) ?_)
          refine Run.go rfl rfl rfl (sem_pick false ((Value.bool true)) rfl rfl ?_)
          refine Run.go rfl rfl rfl (sem_move ((Value.bool true)) rfl ?_)
          refine Run.no rfl rfl rfl ?_
          refine Run.no rfl rfl rfl ?_
          refine Run.no rfl rfl rfl ?_
          refine Run.no rfl rfl rfl ?_
          refine Run.no rfl rfl rfl ?_
          refine Run.no rfl rfl rfl ?_
          refine Run.no rfl rfl rfl ?_
          refine Run.go rfl rfl rfl (sem_pick true ((Value.bool true)) rfl rfl ?_)
          refine Run.region_end ?_
          refine Run.condT rfl ?_
          refine Run.seq ?_
          refine Run.ops0 (idx := [0, 1, 2]) rfl ?_
          refine Run.go rfl rfl rfl (sem_buildAL [] [(Value.bool false), (Value.string ByteArray.empty), (Value.bool false), (Value.string ByteArray.empty), (Value.bool false), (Value.string ByteArray.empty), (Value.bool false), (Value.string ByteArray.empty), (Value.bool false), (Value.string ByteArray.empty), (Value.bool false), (Value.string ByteArray.empty)] TF.zero_64 TF.arr_64 rfl rfl ?_)
          obtain ⟨h49, hst, hS⟩ := hS
          refine Run.go rfl rfl rfl (sem_storeN ⟨k4, 0, none⟩ [(Value.bool false), (Value.string ByteArray.empty), (Value.bool false), (Value.string ByteArray.empty), (Value.bool false), (Value.string ByteArray.empty), (Value.bool false), (Value.string ByteArray.empty), (Value.bool false), (Value.string ByteArray.empty), (Value.bool false), (Value.string ByteArray.empty)] h49 rfl rfl TF.sz_64 hst ?_)
          refine Run.go rfl rfl rfl (sem_assign ((Value.bool false)) rfl ?_)
          refine Run.region_end ?_
          obtain ⟨l50, hln0, hl0, hS⟩ := hS
          refine Run.ret ⟨.inr rfl, ?_⟩
          exact ⟨⟨k4, 0, none⟩, (Value.agg (List.toArray l50)), rfl, loadHN TF.agg_64 (TF.sz_64.trans (congrArg some hln0.symm)) hl0, hS.imp fun h' hq => ⟨l50, (false), rfl, hq⟩⟩
        · have hS := hF hb48; clear hT hF
          refine Run.go rfl rfl rfl (sem_binI .u64 (i21) (32) (.bool false) rfl rfl (binI_gtr_f hb48) ?_)
          refine Run.go rfl rfl rfl (sem_pick false ((Value.bool false)) rfl rfl ?_)
          refine Run.go rfl rfl rfl (sem_move ((Value.bool false)) rfl ?_)
          refine Run.go rfl rfl rfl (sem_move ((Value.string (ByteArray.extract s8 (Int.toNat (i17)) (Int.toNat ((ByteArray.size s8 : Nat)))))) rfl ?_)
          refine Run.go rfl rfl rfl (sem_lenStr (ByteArray.extract s8 (Int.toNat (i17)) (Int.toNat ((ByteArray.size s8 : Nat)))) rfl TF.isStr_9 ?_)
          refine Run.go rfl rfl rfl (sem_move ((Value.int .i64 (i22))) rfl ?_)
          refine Run.go rfl rfl rfl (sem_binI .i64 ((ByteArray.size (ByteArray.extract s8 (Int.toNat (i17)) (Int.toNat ((ByteArray.size s8 : Nat)))) : Nat)) (i22) ((Value.int .i64 (IntKind.wrap .i64 (((ByteArray.size (ByteArray.extract s8 (Int.toNat (i17)) (Int.toNat ((ByteArray.size s8 : Nat)))) : Nat)) - (i22))))) rfl rfl rfl ?_)
          refine Run.go rfl rfl rfl (sem_convI .i64 .u64 (IntKind.wrap .i64 (((ByteArray.size (ByteArray.extract s8 (Int.toNat (i17)) (Int.toNat ((ByteArray.size s8 : Nat)))) : Nat)) - (i22))) rfl TF.int_3 TF.int_28 ?_)
          refine Run.go rfl rfl rfl (sem_move ((Value.int .u64 (i21))) rfl ?_)
          obtain ⟨hT, hF⟩ := hS
          by_cases hb51 : (IntKind.wrap .u64 (IntKind.wrap .i64 (((ByteArray.size (ByteArray.extract s8 (Int.toNat (i17)) (Int.toNat ((ByteArray.size s8 : Nat)))) : Nat)) - (i22))) : Int) < (i21)
          · have hS := hT hb51; clear hT hF
            refine Run.go rfl rfl rfl (sem_binI .u64 (IntKind.wrap .u64 (IntKind.wrap .i64 (((ByteArray.size (ByteArray.extract s8 (Int.toNat (i17)) (Int.toNat ((ByteArray.size s8 : Nat)))) : Nat)) - (i22)))) (i21) (.bool true) rfl rfl (binI_lss_t hb51) ?_)
            refine Run.go rfl rfl rfl (sem_pick false ((Value.bool true)) rfl rfl ?_)
            refine Run.region_end ?_
            refine Run.condT rfl ?_
            refine Run.seq ?_
            refine Run.ops0 (idx := [0, 1, 2]) rfl ?_
            refine Run.go rfl rfl rfl (sem_buildAL [] [(Value.bool false), (Value.string ByteArray.empty), (Value.bool false), (Value.string ByteArray.empty), (Value.bool false), (Value.string ByteArray.empty), (Value.bool false), (Value.string ByteArray.empty), (Value.bool false), (Value.string ByteArray.empty), (Value.bool false), (Value.string ByteArray.empty)] TF.zero_64 TF.arr_64 rfl rfl ?_)
            obtain ⟨h52, hst, hS⟩ := hS
            refine Run.go rfl rfl rfl (sem_storeN ⟨k4, 0, none⟩ [(Value.bool false), (Value.string ByteArray.empty), (Value.bool false), (Value.string ByteArray.empty), (Value.bool false), (Value.string ByteArray.empty), (Value.bool false), (Value.string ByteArray.empty), (Value.bool false), (Value.string ByteArray.empty), (Value.bool false), (Value.string ByteArray.empty)] h52 rfl rfl TF.sz_64 hst ?_)
            refine Run.go rfl rfl rfl (sem_assign ((Value.bool false)) rfl ?_)
            refine Run.region_end ?_
            obtain ⟨l53, hln0, hl0, hS⟩ := hS
            refine Run.ret ⟨.inr rfl, ?_⟩
            exact ⟨⟨k4, 0, none⟩, (Value.agg (List.toArray l53)), rfl, loadHN TF.agg_64 (TF.sz_64.trans (congrArg some hln0.symm)) hl0, hS.imp fun h' hq => ⟨l53, (false), rfl, hq⟩⟩
          · have hS := hF hb51; clear hT hF
            refine Run.go rfl rfl rfl (sem_binI .u64 (IntKind.wrap .u64 (IntKind.wrap .i64 (((ByteArray.size (ByteArray.extract s8 (Int.toNat (i17)) (Int.toNat ((ByteArray.size s8 : Nat)))) : Nat)) - (i22)))) (i21) (.bool false) rfl rfl (binI_lss_f hb51) ?_)
            refine Run.go rfl rfl rfl (sem_pick false ((Value.bool false)) rfl rfl ?_)
            refine Run.region_end ?_
            refine Run.condF rfl ?_
            refine Run.skip ?_
            exact Run.of_fin (hS.imp fun h' hS => j23 _ _ ⟨⟨rfl, rfl, rfl, rfl, rfl, rfl, trivial⟩, hS⟩)
    refine Run.seq ?_
    refine Run.ops0 (idx := [0, 1, 2, 3, 4, 5]) rfl ?_
    refine Run.go rfl rfl rfl (sem_move ((Value.int .i64 (i17))) rfl ?_)
    obtain ⟨hT, hF⟩ := hS
    by_cases hb54 : (i17 : Int) = 0
    · have hS := hT hb54; clear hT hF
      refine Run.go rfl rfl rfl (sem_binI .i64 (i17) (0) (.bool true) rfl rfl (binI_eql_t hb54) ?_)
      refine Run.go rfl rfl rfl (sem_move ((Value.bool true)) rfl ?_)
      refine Run.no rfl rfl rfl ?_
      refine Run.no rfl rfl rfl ?_
      refine Run.go rfl rfl rfl (sem_pick true ((Value.bool true)) rfl rfl ?_)
      refine Run.region_end ?_
      refine Run.condT rfl ?_
      refine Run.seq ?_
      refine Run.ops0 (idx := [0, 1, 2]) rfl ?_
      refine Run.go rfl rfl rfl (sem_buildAL [] [(Value.bool false), (Value.string ByteArray.empty), (Value.bool false), (Value.string ByteArray.empty), (Value.bool false), (Value.string ByteArray.empty), (Value.bool false), (Value.string ByteArray.empty), (Value.bool false), (Value.string ByteArray.empty), (Value.bool false), (Value.string ByteArray.empty)] TF.zero_64 TF.arr_64 rfl rfl ?_)
      obtain ⟨h55, hst, hS⟩ := hS
      refine Run.go rfl rfl rfl (sem_storeN ⟨k4, 0, none⟩ [(Value.bool false), (Value.string ByteArray.empty), (Value.bool false), (Value.string ByteArray.empty), (Value.bool false), (Value.string ByteArray.empty), (Value.bool false), (Value.string ByteArray.empty), (Value.bool false), (Value.string ByteArray.empty), (Value.bool false), (Value.string ByteArray.empty)] h55 rfl rfl TF.sz_64 hst ?_)
      refine Run.go rfl rfl rfl (sem_assign ((Value.bool false)) rfl ?_)
      refine Run.region_end ?_
      obtain ⟨l56, hln0, hl0, hS⟩ := hS
      refine Run.ret ⟨.inr rfl, ?_⟩
      exact ⟨⟨k4, 0, none⟩, (Value.agg (List.toArray l56)), rfl, loadHN TF.agg_64 (TF.sz_64.trans (congrArg some hln0.symm)) hl0, hS.imp fun h' hq => ⟨l56, (false), rfl, hq⟩⟩
    · have hS := hF hb54; clear hT hF
      refine Run.go rfl rfl rfl (sem_binI .i64 (i17) (0) (.bool false) rfl rfl (binI_eql_f hb54) ?_)
      refine Run.go rfl rfl rfl (sem_move ((Value.bool false)) rfl ?_)
      refine Run.go rfl rfl rfl (sem_move ((Value.int .u64 (i16))) rfl ?_)
      obtain ⟨hT, hF⟩ := hS
      by_cases hb57 : (i16 : Int) > (5)
      · have hS := hT hb57; clear hT hF
        refine Run.go rfl rfl rfl (sem_binI .u64 (i16) (5) (.bool true) rfl rfl (binI_gtr_t hb57) ?_)
        refine Run.go rfl rfl rfl (sem_pick false ((Value.bool true)) rfl rfl ?_)
        refine Run.region_end ?_
        refine Run.condT rfl ?_
        refine Run.seq ?_
        refine Run.ops0 (idx := [0, 1, 2]) rfl ?_
        refine Run.go rfl rfl rfl (sem_buildAL [] [(Value.bool false), (Value.string ByteArray.empty), (Value.bool false), (Value.string ByteArray.empty), (Value.bool false), (Value.string ByteArray.empty), (Value.bool false), (Value.string ByteArray.empty), (Value.bool false), (Value.string ByteArray.empty), (Value.bool false), (Value.string ByteArray.empty)] TF.zero_64 TF.arr_64 rfl rfl ?_)
        obtain ⟨h58, hst, hS⟩ := hS
        refine Run.go rfl rfl rfl (sem_storeN ⟨k4, 0, none⟩ [(Value.bool false), (Value.string ByteArray.empty), (Value.bool false), (Value.string ByteArray.empty), (Value.bool false), (Value.string ByteArray.empty), (Value.bool false), (Value.string ByteArray.empty), (Value.bool false), (Value.string ByteArray.empty), (Value.bool false), (Value.string ByteArray.empty)] h58 rfl rfl TF.sz_64 hst ?_)
        refine Run.go rfl rfl rfl (sem_assign ((Value.bool false)) rfl ?_)
        refine Run.region_end ?_
        obtain ⟨l59, hln0, hl0, hS⟩ := hS
        refine Run.ret ⟨.inr rfl, ?_⟩
        exact ⟨⟨k4, 0, none⟩, (Value.agg (List.toArray l59)), rfl, loadHN TF.agg_64 (TF.sz_64.trans (congrArg some hln0.symm)) hl0, hS.imp fun h' hq => ⟨l59, (false), rfl, hq⟩⟩
      · have hS := hF hb57; clear hT hF
        refine Run.go rfl rfl rfl (sem_binI .u64 (i16) (5) (.bool false) rfl rfl (binI_gtr_f hb57) ?_)
        refine Run.go rfl rfl rfl (sem_pick false ((Value.bool false)) rfl rfl ?_)
        refine Run.region_end ?_
        refine Run.condF rfl ?_
        refine Run.skip ?_
        exact Run.of_fin (hS.imp fun h' hS => j18 _ _ ⟨⟨rfl, rfl, rfl, rfl, rfl, trivial⟩, hS⟩)
  · have hS := hF hb14; clear hT hF
    refine Run.go rfl rfl rfl (sem_binI .i64 ((ByteArray.size s8 : Nat)) (0) (.bool false) rfl rfl (binI_gtr_f hb14) ?_)
    refine Run.region_end ?_
    refine Run.condF rfl ?_
    refine Run.exit rfl ?_
    refine Run.seq ?_
    refine Run.ops0 (idx := [0, 1, 2]) rfl ?_
    obtain ⟨l60, hln, hl, hS⟩ := hS
    refine Run.go rfl rfl rfl (sem_loadN ⟨k6, 0, none⟩ l60 rfl TF.agg_64 (TF.sz_64.trans (congrArg some hln.symm)) hl ?_)
    obtain ⟨hln, h61, hst, hS⟩ := hS
    refine Run.go rfl rfl rfl (sem_storeN ⟨k4, 0, none⟩ l60 h61 rfl rfl (TF.sz_64.trans (congrArg some hln.symm)) hst ?_)
    refine Run.go rfl rfl rfl (sem_assign ((Value.bool true)) rfl ?_)
    refine Run.region_end ?_
    obtain ⟨l62, hln0, hl0, hS⟩ := hS
    refine Run.ret ⟨.inr rfl, ?_⟩
    exact ⟨⟨k4, 0, none⟩, (Value.agg (List.toArray l62)), rfl, loadHN TF.agg_64 (TF.sz_64.trans (congrArg some hln0.symm)) hl0, hS.imp fun h' hq => ⟨l62, (true), rfl, hq⟩⟩
set_option maxHeartbeats 4000000 in
theorem C_stylus_Stylus_Nat.of {B : RO} {p1 : Option Addr} {a2 : Option Addr} {n3 : Nat} {c4 : Nat} {h : Heap} {Q : Heap → Prop} (hS : S_stylus_Stylus_Nat B p1 a2 n3 c4 h Q) : C_stylus_Stylus_Nat B p1 a2 n3 c4 h Q := by
  unfold S_stylus_Stylus_Nat at hS
  unfold C_stylus_Stylus_Nat
  refine Spec.of_run Try.func70 (N := 42) (rs := []) rfl rfl rfl (Nat.le_of_ble_eq_true rfl) ?_
  refine Run.seq ?_
  refine Run.ops0 (idx := [0, 1, 2]) rfl ?_
  refine Run.go rfl rfl rfl (sem_move ((Value.slice a2 n3 c4)) rfl ?_)
  refine Run.go rfl rfl rfl (sem_lenSl a2 n3 c4 rfl TF.sl_84 ?_)
  refine Run.go rfl rfl rfl (sem_move ((Value.int .i64 (0))) rfl ?_)
  refine Run.region_end ?_
  refine Run.block ?_
  obtain ⟨J10, m8, h0, hS⟩ := hS
  refine Run.of_fin (h0.imp fun h' h0 => ?_)
  refine Run.loop (σ := Int × Nat) (fun x e h => J10 x.1 x.2 h ∧ Agree [(0, (Value.pointer p1)), (6, (Value.slice a2 n3 c4)), (7, (Value.int .i64 ((n3 : Nat)))), (8, (Value.int .i64 (x.1)))] e) (fun x => x.2) ((0), m8) ⟨h0, ⟨rfl, rfl, rfl, rfl, trivial⟩⟩ ?_; clear h0
  rintro ⟨i5, m7⟩ e h6 ⟨hJ, hag⟩ ih9
  have hS := hS i5 m7 h6 hJ; clear hJ
  refine Run.env hag ?_; clear hag
  refine Run.seq ?_
  refine Run.ops0 (idx := [0]) rfl ?_
  obtain ⟨hT, hF⟩ := hS
  by_cases hb11 : (i5 : Int) < ((n3 : Nat))
  · have hS := hT hb11; clear hT hF
    refine Run.go rfl rfl rfl (sem_binI .i64 (i5) ((n3 : Nat)) (.bool true) rfl rfl (binI_lss_t hb11) ?_)
    refine Run.region_end ?_
    refine Run.seq ?_
    refine Run.condT rfl ?_
    refine Run.skip ?_
    refine Run.seq ?_
    refine Run.block ?_
    refine Run.seq ?_
    refine Run.ops0 (idx := [0, 1, 2]) rfl ?_
    obtain ⟨A12, e13, hi0, hi1, hS⟩ := hS
    refine Run.go rfl rfl rfl (sem_indexAddrS A12 n3 c4 .i64 (i5) (congrArg (fun a => Value.slice a n3 c4) e13) rfl TF.slc_84 hi0 hi1 ?_)
    obtain ⟨i14, hl, hS⟩ := hS
    refine Run.go rfl rfl rfl (sem_load1 (Addr.add A12 (Int.toNat (i5) * 1)) ((Value.int .i64 (i14))) rfl TF.agg_3 hl ?_)
    refine Run.go rfl rfl rfl (sem_assign ((Value.int .i64 (i14))) rfl ?_)
    refine Run.region_end ?_
    refine Run.seq ?_
    refine Run.seq ?_
    refine Run.ops0 (idx := [0, 1]) rfl ?_
    refine Run.go rfl rfl rfl (sem_move ((Value.int .i64 (i14))) rfl ?_)
    obtain ⟨hT, hF⟩ := hS
    by_cases hb15 : (i14 : Int) < (0)
    · have hS := hT hb15; clear hT hF
      refine Run.go rfl rfl rfl (sem_binI .i64 (i14) (0) (.bool true) rfl rfl (binI_lss_t hb15) ?_)
      refine Run.region_end ?_
      refine Run.condT rfl ?_
      refine Run.exit rfl ?_
      refine Run.ops0 (idx := [0, 1]) rfl ?_
      refine Run.go rfl rfl rfl (sem_binI .i64 (i5) (1) ((Value.int .i64 (IntKind.wrap .i64 ((i5) + (1))))) rfl rfl rfl ?_)
      refine Run.go rfl rfl rfl (sem_move ((Value.int .i64 (IntKind.wrap .i64 ((i5) + (1))))) rfl ?_)
      refine Run.region_end ?_
      exact Run.of_fin (hS.imp fun h' ⟨m', hm, hS⟩ => ih9 ((IntKind.wrap .i64 ((i5) + (1))), m') _ _ ⟨hS, ⟨rfl, rfl, rfl, rfl, trivial⟩⟩ hm)
    · have hS := hF hb15; clear hT hF
      refine Run.go rfl rfl rfl (sem_binI .i64 (i14) (0) (.bool false) rfl rfl (binI_lss_f hb15) ?_)
      refine Run.region_end ?_
      refine Run.condF rfl ?_
      refine Run.skip ?_
      refine Run.seqJ (fun e h18 => ∃ i17 : Int, Agree [(0, (Value.pointer p1)), (5, (Value.int .i64 (i17))), (6, (Value.slice a2 n3 c4)), (7, (Value.int .i64 ((n3 : Nat)))), (8, (Value.int .i64 (i5)))] e ∧ S_stylus_Stylus_Nat_J1 B p1 a2 n3 c4 i5 m7 J10 i17 h18 Q) ?_ fun j16 => ?_
      · rintro e h18 ⟨i17, hag, hS⟩
        refine Run.env hag ?_; clear hag
        refine Run.ops0 (idx := [0, 1, 2, 3, 4, 5, 6, 7, 8, 9, 10, 11]) rfl ?_
        refine Run.go rfl rfl rfl (sem_move ((Value.pointer p1)) rfl ?_)
        refine Run.go rfl rfl rfl (sem_move ((Value.pointer p1)) rfl ?_)
        obtain ⟨A19, e20, hS⟩ := hS
        refine Run.go rfl rfl rfl (sem_nilCheck A19 (congrArg Value.pointer e20) ?_)
        refine Run.go rfl rfl rfl (sem_fieldAddr A19 0 rfl TF.fld_40_0 ?_)
        refine Run.ldSl hS fun a21 n22 c23 h24 hl hS => ?_
        refine Run.go rfl rfl rfl (sem_load1 A19 ((Value.slice a21 n22 c23)) rfl TF.agg_38 hl ?_)
        refine Run.go rfl rfl rfl (sem_move ((Value.int .i64 (i17))) rfl ?_)
        refine Run.go rfl rfl rfl (sem_convI .i64 .u8 (i17) rfl TF.int_3 TF.int_5 ?_)
        refine Run.go rfl rfl rfl (sem_buildSliceL [(0, (Value.int .u8 (IntKind.wrap .u8 (i17))))] [(Value.int .u8 (IntKind.wrap .u8 (i17)))] TF.slc_38 TF.zero_5 rfl (by decide) (by decide) rfl rfl (fun k25 hb1 hb2 h26 hb3 => ?_))
        have hS := hS k25 hb1 hb2 h26 hb3
        refine Run.go rfl rfl rfl (sem_appendL [(Value.slice a21 n22 c23), (Value.slice (some ⟨k25, 0, none⟩) 1 1)] rfl (semH_mono (fun v h27 hv => ?_) hS))
        obtain ⟨a28, n29, c30, rfl, hS⟩ := hv
        obtain ⟨A31, e32, hS⟩ := hS
        refine Run.go rfl rfl rfl (sem_nilCheck A31 (congrArg Value.pointer e32) ?_)
        refine Run.go rfl rfl rfl (sem_fieldAddr A31 0 rfl TF.fld_40_0 ?_)
        obtain ⟨h33, hst, hS⟩ := hS
        refine Run.go rfl rfl rfl (sem_store1 A31 ((Value.slice a28 n29 c30)) h33 rfl rfl rfl TF.sz_38 hst ?_)
        refine Run.region_end ?_
        refine Run.inBlock ?_
        refine Run.ops0 (idx := [0, 1]) rfl ?_
        refine Run.go rfl rfl rfl (sem_binI .i64 (i5) (1) ((Value.int .i64 (IntKind.wrap .i64 ((i5) + (1))))) rfl rfl rfl ?_)
        refine Run.go rfl rfl rfl (sem_move ((Value.int .i64 (IntKind.wrap .i64 ((i5) + (1))))) rfl ?_)
        refine Run.region_end ?_
        exact Run.of_fin (hS.imp fun h' ⟨m', hm, hS⟩ => ih9 ((IntKind.wrap .i64 ((i5) + (1))), m') _ _ ⟨hS, ⟨rfl, rfl, rfl, rfl, trivial⟩⟩ hm)
      refine Run.block ?_
      obtain ⟨J39, m37, h0, hS⟩ := hS
      refine Run.of_fin (h0.imp fun h' h0 => ?_)
      refine Run.loop (σ := Int × Nat) (fun x e h => J39 x.1 x.2 h ∧ Agree [(0, (Value.pointer p1)), (5, (Value.int .i64 (x.1))), (6, (Value.slice a2 n3 c4)), (7, (Value.int .i64 ((n3 : Nat)))), (8, (Value.int .i64 (i5)))] e) (fun x => x.2) ((i14), m37) ⟨h0, ⟨rfl, rfl, rfl, rfl, rfl, trivial⟩⟩ ?_; clear h0
      rintro ⟨i34, m36⟩ e h35 ⟨hJ, hag⟩ ih38
      have hS := hS i34 m36 h35 hJ; clear hJ
      refine Run.env hag ?_; clear hag
      refine Run.seq ?_
      refine Run.seq ?_
      refine Run.ops0 (idx := [0, 1]) rfl ?_
      refine Run.go rfl rfl rfl (sem_move ((Value.int .i64 (i34))) rfl ?_)
      obtain ⟨hT, hF⟩ := hS
      by_cases hb40 : (i34 : Int) ≥ (128)
      · have hS := hT hb40; clear hT hF
        refine Run.go rfl rfl rfl (sem_binI .i64 (i34) (128) (.bool true) rfl rfl (binI_geq_t hb40) ?_)
        refine Run.region_end ?_
        refine Run.condT rfl ?_
        refine Run.skip ?_
        refine Run.block ?_
        refine Run.seq ?_
        refine Run.ops0 (idx := [0, 1, 2, 3, 4, 5, 6, 7, 8, 9, 10, 11, 12]) rfl ?_
        refine Run.go rfl rfl rfl (sem_move ((Value.pointer p1)) rfl ?_)
        refine Run.go rfl rfl rfl (sem_move ((Value.pointer p1)) rfl ?_)
        obtain ⟨A41, e42, hS⟩ := hS
        refine Run.go rfl rfl rfl (sem_nilCheck A41 (congrArg Value.pointer e42) ?_)
        refine Run.go rfl rfl rfl (sem_fieldAddr A41 0 rfl TF.fld_40_0 ?_)
        refine Run.ldSl hS fun a43 n44 c45 h46 hl hS => ?_
        refine Run.go rfl rfl rfl (sem_load1 A41 ((Value.slice a43 n44 c45)) rfl TF.agg_38 hl ?_)
        refine Run.go rfl rfl rfl (sem_move ((Value.int .i64 (i34))) rfl ?_)
        refine Run.go rfl rfl rfl (sem_convI .i64 .u8 (i34) rfl TF.int_3 TF.int_5 ?_)
        refine Run.go rfl rfl rfl (sem_binI .u8 (IntKind.wrap .u8 (i34)) (128) ((Value.int .u8 (IntKind.wrap .u8 ((BitVec.ofInt (IntKind.bits .u8) (IntKind.wrap .u8 (i34)) ||| BitVec.ofInt (IntKind.bits .u8) (128)).toNat : Int)))) rfl rfl rfl ?_)
        refine Run.go rfl rfl rfl (sem_buildSliceL [(0, (Value.int .u8 (IntKind.wrap .u8 ((BitVec.ofInt (IntKind.bits .u8) (IntKind.wrap .u8 (i34)) ||| BitVec.ofInt (IntKind.bits .u8) (128)).toNat : Int))))] [(Value.int .u8 (IntKind.wrap .u8 ((BitVec.ofInt (IntKind.bits .u8) (IntKind.wrap .u8 (i34)) ||| BitVec.ofInt (IntKind.bits .u8) (128)).toNat : Int)))] TF.slc_38 TF.zero_5 rfl (by decide) (by decide) rfl rfl (fun k47 hb1 hb2 h48 hb3 => ?_))
        have hS := hS k47 hb1 hb2 h48 hb3
        refine Run.go rfl rfl rfl (sem_appendL [(Value.slice a43 n44 c45), (Value.slice (some ⟨k47, 0, none⟩) 1 1)] rfl (semH_mono (fun v h49 hv => ?_) hS))
        obtain ⟨a50, n51, c52, rfl, hS⟩ := hv
        obtain ⟨A53, e54, hS⟩ := hS
        refine Run.go rfl rfl rfl (sem_nilCheck A53 (congrArg Value.pointer e54) ?_)
        refine Run.go rfl rfl rfl (sem_fieldAddr A53 0 rfl TF.fld_40_0 ?_)
        obtain ⟨h55, hst, hS⟩ := hS
        refine Run.go rfl rfl rfl (sem_store1 A53 ((Value.slice a50 n51 c52)) h55 rfl rfl rfl TF.sz_38 hst ?_)
        refine Run.region_end ?_
        refine Run.ops0 (idx := [0, 1, 2]) rfl ?_
        refine Run.go rfl rfl rfl (sem_move ((Value.int .i64 (i34))) rfl ?_)
        obtain ⟨hi0, hS⟩ := hS
        refine Run.go rfl rfl rfl (sem_shr .i64 .u64 (i34) (7) rfl rfl hi0 ?_)
        refine Run.go rfl rfl rfl (sem_assign ((Value.int .i64 (Int.fdiv (i34) (2 ^ (min (Int.toNat (7)) (IntKind.bits .i64)))))) rfl ?_)
        refine Run.region_end ?_
        refine Run.inBlock ?_
        exact Run.of_fin (hS.imp fun h' ⟨m', hm, hS⟩ => ih38 ((Int.fdiv (i34) (2 ^ (min (Int.toNat (7)) (IntKind.bits .i64)))), m') _ _ ⟨hS, ⟨rfl, rfl, rfl, rfl, rfl, trivial⟩⟩ hm)
      · have hS := hF hb40; clear hT hF
        refine Run.go rfl rfl rfl (sem_binI .i64 (i34) (128) (.bool false) rfl rfl (binI_geq_f hb40) ?_)
        refine Run.region_end ?_
        refine Run.condF rfl ?_
        refine Run.exit rfl ?_
        exact Run.of_fin (hS.imp fun h' hS => j16 _ _ ⟨(i34), ⟨rfl, rfl, rfl, rfl, rfl, trivial⟩, hS⟩)
  · have hS := hF hb11; clear hT hF
    refine Run.go rfl rfl rfl (sem_binI .i64 (i5) ((n3 : Nat)) (.bool false) rfl rfl (binI_lss_f hb11) ?_)
    refine Run.region_end ?_
    refine Run.seq ?_
    refine Run.condF rfl ?_
    refine Run.exit rfl ?_
    refine Run.fall ⟨.inl rfl, ?_⟩
    exact hS.imp fun h' hq => ⟨rfl, hq⟩
set_option maxHeartbeats 4000000 in
theorem C_countermandref01_Wide.of {B : RO} {i1 : Int} {h : Heap} {Q : ByteArray → Heap → Prop} (hS : S_countermandref01_Wide B i1 h Q) : C_countermandref01_Wide B i1 h Q := by
  unfold S_countermandref01_Wide at hS
  unfold C_countermandref01_Wide
  refine Spec.of_run Try.func72 (N := 22) (rs := [ResultVar.tmp 2]) rfl rfl rfl (Nat.le_of_ble_eq_true rfl) ?_
  refine Run.seq ?_
  refine Run.ops0 (idx := [0]) rfl ?_
  refine Run.go rfl rfl rfl (sem_assign ((Value.string (ByteArray.mk #[]))) rfl ?_)
  refine Run.region_end ?_
  refine Run.seq ?_
  refine Run.ops0 (idx := [0]) rfl ?_
  refine Run.go rfl rfl rfl (sem_assign ((Value.string (ByteArray.mk #[]))) rfl ?_)
  refine Run.region_end ?_
  refine Run.seqJ (fun e h6 => ∃ i4 : Int, ∃ s5 : ByteArray, Agree [(0, (Value.int .u64 (i4))), (3, (Value.string s5))] e ∧ S_countermandref01_Wide_J1 B i4 s5 h6 Q) ?_ fun j3 => ?_
  · rintro e h6 ⟨i4, s5, hag, hS⟩
    refine Run.env hag ?_; clear hag
    refine Run.seq ?_
    refine Run.ops0 (idx := [0, 1, 2, 3, 4, 5, 6]) rfl ?_
    refine Run.go rfl rfl rfl (sem_move ((Value.string s5)) rfl ?_)
    refine Run.go rfl rfl rfl (sem_move ((Value.int .u64 (i4))) rfl ?_)
    refine Run.go rfl rfl rfl (sem_convI .u64 .u8 (i4) rfl TF.int_28 TF.int_5 ?_)
    refine Run.go rfl rfl rfl (sem_buildSliceL [(0, (Value.int .u8 (IntKind.wrap .u8 (i4))))] [(Value.int .u8 (IntKind.wrap .u8 (i4)))] TF.slc_38 TF.zero_5 rfl (by decide) (by decide) rfl rfl (fun k7 hb1 hb2 h8 hb3 => ?_))
    have hS := hS k7 hb1 hb2 h8 hb3
    refine Run.go rfl rfl rfl (sem_convW ((Value.slice (some ⟨k7, 0, none⟩) 1 1)) rfl (semH_mono (fun v h10 hv => ?_) hS))
    obtain ⟨s9, rfl, hS⟩ := hv
    obtain ⟨hi0, hS⟩ := hS
    refine Run.go rfl rfl rfl (sem_strAdd s5 s9 rfl rfl hi0 ?_)
    refine Run.go rfl rfl rfl (sem_assign ((Value.string (s5 ++ s9))) rfl ?_)
    refine Run.region_end ?_
    refine Run.ret ⟨.inr rfl, ?_⟩
    exact hS.imp fun h' hq => ⟨(s5 ++ s9), rfl, hq⟩
  refine Run.block ?_
  obtain ⟨J17, m15, h0, hS⟩ := hS
  refine Run.of_fin (h0.imp fun h' h0 => ?_)
  refine Run.loop (σ := Int × ByteArray × Nat) (fun x e h => J17 x.1 x.2.1 x.2.2 h ∧ Agree [(0, (Value.int .u64 (x.1))), (3, (Value.string x.2.1))] e) (fun x => x.2.2) ((i1), (ByteArray.mk #[]), m15) ⟨h0, ⟨rfl, rfl, trivial⟩⟩ ?_; clear h0
  rintro ⟨i11, s12, m14⟩ e h13 ⟨hJ, hag⟩ ih16
  have hS := hS i11 s12 m14 h13 hJ; clear hJ
  refine Run.env hag ?_; clear hag
  refine Run.seq ?_
  refine Run.seq ?_
  refine Run.ops0 (idx := [0, 1]) rfl ?_
  refine Run.go rfl rfl rfl (sem_move ((Value.int .u64 (i11))) rfl ?_)
  obtain ⟨hT, hF⟩ := hS
  by_cases hb18 : (i11 : Int) > (127)
  · have hS := hT hb18; clear hT hF
    refine Run.go rfl rfl rfl (sem_binI .u64 (i11) (127) (.bool true) rfl rfl (binI_gtr_t hb18) ?_)
    refine Run.region_end ?_
    refine Run.condT rfl ?_
    refine Run.skip ?_
    refine Run.block ?_
    refine Run.seq ?_
    refine Run.ops0 (idx := [0, 1, 2, 3, 4, 5, 6, 7, 8]) rfl ?_
    refine Run.go rfl rfl rfl (sem_move ((Value.string s12)) rfl ?_)
    refine Run.go rfl rfl rfl (sem_move ((Value.int .u64 (i11))) rfl ?_)
    obtain ⟨hi0, hS⟩ := hS
    refine Run.go rfl rfl rfl (sem_binI .u64 (i11) (128) ((Value.int .u64 (Int.tmod (i11) (128)))) rfl rfl (binI_rem hi0) ?_)
    refine Run.go rfl rfl rfl (sem_binI .u64 (128) (Int.tmod (i11) (128)) ((Value.int .u64 (IntKind.wrap .u64 ((128) + (Int.tmod (i11) (128)))))) rfl rfl rfl ?_)
    refine Run.go rfl rfl rfl (sem_convI .u64 .u8 (IntKind.wrap .u64 ((128) + (Int.tmod (i11) (128)))) rfl TF.int_28 TF.int_5 ?_)
    refine Run.go rfl rfl rfl (sem_buildSliceL [(0, (Value.int .u8 (IntKind.wrap .u8 (IntKind.wrap .u64 ((128) + (Int.tmod (i11) (128)))))))] [(Value.int .u8 (IntKind.wrap .u8 (IntKind.wrap .u64 ((128) + (Int.tmod (i11) (128))))))] TF.slc_38 TF.zero_5 rfl (by decide) (by decide) rfl rfl (fun k19 hb1 hb2 h20 hb3 => ?_))
    have hS := hS k19 hb1 hb2 h20 hb3
    refine Run.go rfl rfl rfl (sem_convW ((Value.slice (some ⟨k19, 0, none⟩) 1 1)) rfl (semH_mono (fun v h22 hv => ?_) hS))
    obtain ⟨s21, rfl, hS⟩ := hv
    obtain ⟨hi0, hS⟩ := hS
    refine Run.go rfl rfl rfl (sem_strAdd s12 s21 rfl rfl hi0 ?_)
    refine Run.go rfl rfl rfl (sem_assign ((Value.string (s12 ++ s21))) rfl ?_)
    refine Run.region_end ?_
    refine Run.ops0 (idx := [0, 1, 2]) rfl ?_
    refine Run.go rfl rfl rfl (sem_move ((Value.int .u64 (i11))) rfl ?_)
    obtain ⟨hi0, hS⟩ := hS
    refine Run.go rfl rfl rfl (sem_binI .u64 (i11) (128) ((Value.int .u64 (IntKind.wrap .u64 (Int.tdiv (i11) (128))))) rfl rfl (binI_quo hi0) ?_)
    refine Run.go rfl rfl rfl (sem_assign ((Value.int .u64 (IntKind.wrap .u64 (Int.tdiv (i11) (128))))) rfl ?_)
    refine Run.region_end ?_
    refine Run.inBlock ?_
    exact Run.of_fin (hS.imp fun h' ⟨m', hm, hS⟩ => ih16 ((IntKind.wrap .u64 (Int.tdiv (i11) (128))), (s12 ++ s21), m') _ _ ⟨hS, ⟨rfl, rfl, trivial⟩⟩ hm)
  · have hS := hF hb18; clear hT hF
    refine Run.go rfl rfl rfl (sem_binI .u64 (i11) (127) (.bool false) rfl rfl (binI_gtr_f hb18) ?_)
    refine Run.region_end ?_
    refine Run.condF rfl ?_
    refine Run.exit rfl ?_
    exact Run.of_fin (hS.imp fun h' hS => j3 _ _ ⟨(i11), s12, ⟨rfl, rfl, trivial⟩, hS⟩)
set_option maxHeartbeats 4000000 in
theorem C_stylus_Reader_word.of {B : RO} {p1 : Option Addr} {h : Heap} {Q : Int → Heap → Prop} (hS : S_stylus_Reader_word B p1 h Q) : C_stylus_Reader_word B p1 h Q := by
  unfold S_stylus_Reader_word at hS
  unfold C_stylus_Reader_word
  refine Spec.of_run Try.func73 (N := 46) (rs := [ResultVar.tmp 2]) rfl rfl rfl (Nat.le_of_ble_eq_true rfl) ?_
  refine Run.seq ?_
  refine Run.ops0 (idx := [0]) rfl ?_
  refine Run.go rfl rfl rfl (sem_assign ((Value.int .u64 (0))) rfl ?_)
  refine Run.region_end ?_
  refine Run.seq ?_
  refine Run.ops0 (idx := [0]) rfl ?_
  refine Run.go rfl rfl rfl (sem_assign ((Value.int .u64 (0))) rfl ?_)
  refine Run.region_end ?_
  refine Run.seq ?_
  refine Run.seq ?_
  refine Run.ops0 (idx := [0]) rfl ?_
  refine Run.go rfl rfl rfl (sem_assign ((Value.int .i64 (0))) rfl ?_)
  refine Run.region_end ?_
  refine Run.block ?_
  obtain ⟨J9, m7, h0, hS⟩ := hS
  refine Run.of_fin (h0.imp fun h' h0 => ?_)
  refine Run.loop (σ := Int × Int × Nat) (fun x e h => J9 x.1 x.2.1 x.2.2 h ∧ Agree [(0, (Value.pointer p1)), (3, (Value.int .u64 (x.1))), (4, (Value.int .i64 (x.2.1)))] e) (fun x => x.2.2) ((0), (0), m7) ⟨h0, ⟨rfl, rfl, rfl, trivial⟩⟩ ?_; clear h0
  rintro ⟨i3, i4, m6⟩ e h5 ⟨hJ, hag⟩ ih8
  have hS := hS i3 i4 m6 h5 hJ; clear hJ
  refine Run.env hag ?_; clear hag
  refine Run.seq ?_
  refine Run.seq ?_
  refine Run.ops0 (idx := [0, 1]) rfl ?_
  refine Run.go rfl rfl rfl (sem_move ((Value.int .i64 (i4))) rfl ?_)
  obtain ⟨hT, hF⟩ := hS
  by_cases hb10 : (i4 : Int) < (64)
  · have hS := hT hb10; clear hT hF
    refine Run.go rfl rfl rfl (sem_binI .i64 (i4) (64) (.bool true) rfl rfl (binI_lss_t hb10) ?_)
    refine Run.region_end ?_
    refine Run.condT rfl ?_
    refine Run.skip ?_
    refine Run.seq ?_
    refine Run.block ?_
    refine Run.seq ?_
    refine Run.ops0 (idx := [0, 1, 2]) rfl ?_
    refine Run.go rfl rfl rfl (sem_move ((Value.pointer p1)) rfl ?_)
    refine Run.go rfl rfl rfl (sem_callL [(Value.pointer p1), (Value.int .i64 (1))] (TF.goes_21) rfl rfl (Spec.mono hS fun v h11 hv => ?_))
    obtain ⟨s12, rfl, hS⟩ := hv
    refine Run.go rfl rfl rfl (sem_assign ((Value.string s12)) rfl ?_)
    refine Run.region_end ?_
    refine Run.seqJ (fun e h14 => Agree [(0, (Value.pointer p1)), (3, (Value.int .u64 (i3))), (4, (Value.int .i64 (i4))), (5, (Value.string s12))] e ∧ S_stylus_Reader_word_J1 B p1 i3 i4 m6 J9 s12 h14 Q) ?_ fun j13 => ?_
    · rintro e h14 ⟨hag, hS⟩
      refine Run.env hag ?_; clear hag
      refine Run.seq ?_
      refine Run.ops0 (idx := [0, 1, 2, 3, 4, 5, 6, 7, 8]) rfl ?_
      refine Run.go rfl rfl rfl (sem_move ((Value.int .u64 (i3))) rfl ?_)
      refine Run.go rfl rfl rfl (sem_move ((Value.string s12)) rfl ?_)
      obtain ⟨hi0, hi1, hS⟩ := hS
      refine Run.go rfl rfl rfl (sem_indexStr' s12 .i64 (0) rfl rfl TF.isStr_9 hi0 hi1 ?_)
      refine Run.go rfl rfl rfl (sem_binI .u8 (byteAt s12 (Int.toNat (0))) (127) ((Value.int .u8 (IntKind.wrap .u8 ((BitVec.ofInt (IntKind.bits .u8) (byteAt s12 (Int.toNat (0))) &&& BitVec.ofInt (IntKind.bits .u8) (127)).toNat : Int)))) rfl rfl rfl ?_)
      refine Run.go rfl rfl rfl (sem_convI .u8 .u64 (IntKind.wrap .u8 ((BitVec.ofInt (IntKind.bits .u8) (byteAt s12 (Int.toNat (0))) &&& BitVec.ofInt (IntKind.bits .u8) (127)).toNat : Int)) rfl TF.int_5 TF.int_28 ?_)
      refine Run.go rfl rfl rfl (sem_move ((Value.int .i64 (i4))) rfl ?_)
      obtain ⟨hi0, hS⟩ := hS
      refine Run.go rfl rfl rfl (sem_shl .u64 .i64 (IntKind.wrap .u64 (IntKind.wrap .u8 ((BitVec.ofInt (IntKind.bits .u8) (byteAt s12 (Int.toNat (0))) &&& BitVec.ofInt (IntKind.bits .u8) (127)).toNat : Int))) (i4) rfl rfl hi0 ?_)
      refine Run.go rfl rfl rfl (sem_binI .u64 (i3) (IntKind.wrap .u64 ((IntKind.wrap .u64 (IntKind.wrap .u8 ((BitVec.ofInt (IntKind.bits .u8) (byteAt s12 (Int.toNat (0))) &&& BitVec.ofInt (IntKind.bits .u8) (127)).toNat : Int))) * 2 ^ (min (Int.toNat (i4)) (IntKind.bits .u64)))) ((Value.int .u64 (IntKind.wrap .u64 ((BitVec.ofInt (IntKind.bits .u64) (i3) ||| BitVec.ofInt (IntKind.bits .u64) (IntKind.wrap .u64 ((IntKind.wrap .u64 (IntKind.wrap .u8 ((BitVec.ofInt (IntKind.bits .u8) (byteAt s12 (Int.toNat (0))) &&& BitVec.ofInt (IntKind.bits .u8) (127)).toNat : Int))) * 2 ^ (min (Int.toNat (i4)) (IntKind.bits .u64))))).toNat : Int)))) rfl rfl rfl ?_)
      refine Run.go rfl rfl rfl (sem_assign ((Value.int .u64 (IntKind.wrap .u64 ((BitVec.ofInt (IntKind.bits .u64) (i3) ||| BitVec.ofInt (IntKind.bits .u64) (IntKind.wrap .u64 ((IntKind.wrap .u64 (IntKind.wrap .u8 ((BitVec.ofInt (IntKind.bits .u8) (byteAt s12 (Int.toNat (0))) &&& BitVec.ofInt (IntKind.bits .u8) (127)).toNat : Int))) * 2 ^ (min (Int.toNat (i4)) (IntKind.bits .u64))))).toNat : Int)))) rfl ?_)
      refine Run.region_end ?_
      refine Run.seq ?_
      refine Run.ops0 (idx := [0, 1, 2]) rfl ?_
      refine Run.go rfl rfl rfl (sem_move ((Value.string s12)) rfl ?_)
      obtain ⟨hi0, hi1, hS⟩ := hS
      refine Run.go rfl rfl rfl (sem_indexStr' s12 .i64 (0) rfl rfl TF.isStr_9 hi0 hi1 ?_)
      obtain ⟨hT, hF⟩ := hS
      by_cases hb15 : (byteAt s12 (Int.toNat (0)) : Int) < (128)
      · have hS := hT hb15; clear hT hF
        refine Run.go rfl rfl rfl (sem_binI .u8 (byteAt s12 (Int.toNat (0))) (128) (.bool true) rfl rfl (binI_lss_t hb15) ?_)
        refine Run.region_end ?_
        refine Run.condT rfl ?_
        refine Run.seq ?_
        refine Run.ops0 (idx := [0, 1]) rfl ?_
        refine Run.go rfl rfl rfl (sem_move ((Value.int .u64 (IntKind.wrap .u64 ((BitVec.ofInt (IntKind.bits .u64) (i3) ||| BitVec.ofInt (IntKind.bits .u64) (IntKind.wrap .u64 ((IntKind.wrap .u64 (IntKind.wrap .u8 ((BitVec.ofInt (IntKind.bits .u8) (byteAt s12 (Int.toNat (0))) &&& BitVec.ofInt (IntKind.bits .u8) (127)).toNat : Int))) * 2 ^ (min (Int.toNat (i4)) (IntKind.bits .u64))))).toNat : Int)))) rfl ?_)
        refine Run.go rfl rfl rfl (sem_assign ((Value.int .u64 (IntKind.wrap .u64 ((BitVec.ofInt (IntKind.bits .u64) (i3) ||| BitVec.ofInt (IntKind.bits .u64) (IntKind.wrap .u64 ((IntKind.wrap .u64 (IntKind.wrap .u8 ((BitVec.ofInt (IntKind.bits .u8) (byteAt s12 (Int.toNat (0))) &&& BitVec.ofInt (IntKind.bits .u8) (127)).toNat : Int))) * 2 ^ (min (Int.toNat (i4)) (IntKind.bits .u64))))).toNat : Int)))) rfl ?_)
        refine Run.region_end ?_
        refine Run.ret ⟨.inr rfl, ?_⟩
        exact hS.imp fun h' hq => ⟨(IntKind.wrap .u64 ((BitVec.ofInt (IntKind.bits .u64) (i3) ||| BitVec.ofInt (IntKind.bits .u64) (IntKind.wrap .u64 ((IntKind.wrap .u64 (IntKind.wrap .u8 ((BitVec.ofInt (IntKind.bits .u8) (byteAt s12 (Int.toNat (0))) &&& BitVec.ofInt (IntKind.bits .u8) (127)).toNat : Int))) * 2 ^ (min (Int.toNat (i4)) (IntKind.bits .u64))))).toNat : Int)), rfl, hq⟩
      · have hS := hF hb15; clear hT hF
        refine Run.go rfl rfl rfl (sem_binI .u8 (byteAt s12 (Int.toNat (0))) (128) (.bool false) rfl rfl (binI_lss_f hb15) ?_)
        refine Run.region_end ?_
        refine Run.condF rfl ?_
        refine Run.skip ?_
        refine Run.inBlock ?_
        refine Run.ops0 (idx := [0, 1, 2]) rfl ?_
        refine Run.go rfl rfl rfl (sem_move ((Value.int .i64 (i4))) rfl ?_)
        refine Run.go rfl rfl rfl (sem_binI .i64 (i4) (7) ((Value.int .i64 (IntKind.wrap .i64 ((i4) + (7))))) rfl rfl rfl ?_)
        refine Run.go rfl rfl rfl (sem_assign ((Value.int .i64 (IntKind.wrap .i64 ((i4) + (7))))) rfl ?_)
        refine Run.region_end ?_
        exact Run.of_fin (hS.imp fun h' ⟨m', hm, hS⟩ => ih8 ((IntKind.wrap .u64 ((BitVec.ofInt (IntKind.bits .u64) (i3) ||| BitVec.ofInt (IntKind.bits .u64) (IntKind.wrap .u64 ((IntKind.wrap .u64 (IntKind.wrap .u8 ((BitVec.ofInt (IntKind.bits .u8) (byteAt s12 (Int.toNat (0))) &&& BitVec.ofInt (IntKind.bits .u8) (127)).toNat : Int))) * 2 ^ (min (Int.toNat (i4)) (IntKind.bits .u64))))).toNat : Int)), (IntKind.wrap .i64 ((i4) + (7))), m') _ _ ⟨hS, ⟨rfl, rfl, rfl, trivial⟩⟩ hm)
    refine Run.seq ?_
    refine Run.ops0 (idx := [0, 1, 2, 3, 4, 5, 6, 7, 8, 9, 10, 11, 12, 13, 14, 15, 16, 17, 18, 19]) rfl ?_
    refine Run.go rfl rfl rfl (sem_move ((Value.string s12)) rfl ?_)
    obtain ⟨hT, hF⟩ := hS
    by_cases hb16 : s12 = (ByteArray.mk #[])
    · have hS := hT hb16; clear hT hF
      refine Run.go rfl rfl rfl (sem_strEqT s12 (ByteArray.mk #[]) rfl rfl hb16 ?_)
      refine Run.go rfl rfl rfl (sem_move ((Value.bool true)) rfl ?_)
      refine Run.no rfl rfl rfl ?_
      refine Run.no rfl rfl rfl ?_
      refine Run.no rfl rfl rfl ?_
      refine Run.no rfl rfl rfl ?_
      refine Run.no rfl rfl rfl ?_
      refine Run.no rfl rfl rfl ?_
      refine Run.no rfl rfl rfl ?_
      refine Run.go rfl rfl rfl (sem_pick true ((Value.bool true)) rfl rfl ?_)
      refine Run.go rfl rfl rfl (sem_move ((Value.bool true)) rfl ?_)
      refine Run.no rfl rfl rfl ?_
      refine Run.no rfl rfl rfl ?_
      refine Run.no rfl rfl rfl ?_
      refine Run.no rfl rfl rfl ?_
      refine Run.no rfl rfl rfl ?_
      refine Run.no rfl rfl rfl ?_
      refine Run.no rfl rfl rfl ?_
      refine Run.go rfl rfl rfl (sem_pick true ((Value.bool true)) rfl rfl ?_)
      refine Run.region_end ?_
      refine Run.condT rfl ?_
      refine Run.exit rfl ?_
      refine Run.seq ?_
      refine Run.ops0 (idx := [0, 1]) rfl ?_
      refine Run.go rfl rfl rfl (sem_move ((Value.pointer p1)) rfl ?_)
      refine Run.go rfl rfl rfl (sem_callL [(Value.pointer p1)] (TF.goes_26) rfl rfl (Spec.mono hS fun v h17 hv => ?_))
      obtain ⟨rfl, hS⟩ := hv
      refine Run.region_end ?_
      refine Run.seq ?_
      refine Run.ops0 (idx := [0]) rfl ?_
      refine Run.go rfl rfl rfl (sem_assign ((Value.int .u64 (0))) rfl ?_)
      refine Run.region_end ?_
      refine Run.ret ⟨.inr rfl, ?_⟩
      exact hS.imp fun h' hq => ⟨(0), rfl, hq⟩
    · have hS := hF hb16; clear hT hF
      refine Run.go rfl rfl rfl (sem_strEqF s12 (ByteArray.mk #[]) rfl rfl hb16 ?_)
      refine Run.go rfl rfl rfl (sem_move ((Value.bool false)) rfl ?_)
      refine Run.go rfl rfl rfl (sem_move ((Value.int .i64 (i4))) rfl ?_)
      obtain ⟨hT, hF⟩ := hS
      by_cases hb18 : (i4 : Int) = 63
      · have hS := hT hb18; clear hT hF
        refine Run.go rfl rfl rfl (sem_binI .i64 (i4) (63) (.bool true) rfl rfl (binI_eql_t hb18) ?_)
        refine Run.go rfl rfl rfl (sem_move ((Value.bool true)) rfl ?_)
        refine Run.go rfl rfl rfl (sem_move ((Value.string s12)) rfl ?_)
        obtain ⟨hi0, hi1, hS⟩ := hS
        refine Run.go rfl rfl rfl (sem_indexStr' s12 .i64 (0) rfl rfl TF.isStr_9 hi0 hi1 ?_)
        obtain ⟨hT, hF⟩ := hS
        by_cases hb19 : (byteAt s12 (Int.toNat (0)) : Int) > (1)
        · have hS := hT hb19; clear hT hF
          refine Run.go rfl rfl rfl (sem_binI .u8 (byteAt s12 (Int.toNat (0))) (1) (.bool true) rfl rfl (binI_gtr_t hb19) ?_)
          refine Run.go rfl rfl rfl (sem_pick true ((Value.bool true)) rfl rfl ?_)
          refine Run.go rfl rfl rfl (sem_pick false ((Value.bool true)) rfl rfl ?_)
          refine Run.go rfl rfl rfl (sem_move ((Value.bool true)) rfl ?_)
          refine Run.no rfl rfl rfl ?_
          refine Run.no rfl rfl rfl ?_
          refine Run.no rfl rfl rfl ?_
          refine Run.no rfl rfl rfl ?_
          refine Run.no rfl rfl rfl ?_
          refine Run.no rfl rfl rfl ?_
          refine Run.no rfl rfl rfl ?_
          refine Run.go rfl rfl rfl (sem_pick true ((Value.bool true)) rfl rfl ?_)
          refine Run.region_end ?_
          refine Run.condT rfl ?_
          refine Run.exit rfl ?_
          refine Run.seq ?_
          refine Run.ops0 (idx := [0, 1]) rfl ?_
          refine Run.go rfl rfl rfl (sem_move ((Value.pointer p1)) rfl ?_)
          refine Run.go rfl rfl rfl (sem_callL [(Value.pointer p1)] (TF.goes_26) rfl rfl (Spec.mono hS fun v h20 hv => ?_))
          obtain ⟨rfl, hS⟩ := hv
          refine Run.region_end ?_
          refine Run.seq ?_
          refine Run.ops0 (idx := [0]) rfl ?_
          refine Run.go rfl rfl rfl (sem_assign ((Value.int .u64 (0))) rfl ?_)
          refine Run.region_end ?_
          refine Run.ret ⟨.inr rfl, ?_⟩
          exact hS.imp fun h' hq => ⟨(0), rfl, hq⟩
        · have hS := hF hb19; clear hT hF
          refine Run.go rfl rfl rfl (sem_binI .u8 (byteAt s12 (Int.toNat (0))) (1) (.bool false) rfl rfl (binI_gtr_f hb19) ?_)
          refine Run.go rfl rfl rfl (sem_pick true ((Value.bool false)) rfl rfl ?_)
          refine Run.go rfl rfl rfl (sem_pick false ((Value.bool false)) rfl rfl ?_)
          refine Run.go rfl rfl rfl (sem_move ((Value.bool false)) rfl ?_)
          refine Run.go rfl rfl rfl (sem_move ((Value.int .i64 (i4))) rfl ?_)
          obtain ⟨hT, hF⟩ := hS
          by_cases hb21 : (i4 : Int) > (0)
          · have hS := hT hb21; clear hT hF
            refine Run.go rfl rfl rfl (sem_binI .i64 (i4) (0) (.bool true) rfl rfl (binI_gtr_t hb21) ?_)
            refine Run.go rfl rfl rfl (sem_move ((Value.bool true)) rfl ?_)
            refine Run.go rfl rfl rfl (sem_move ((Value.string s12)) rfl ?_)
            obtain ⟨hi0, hi1, hS⟩ := hS
            refine Run.go rfl rfl rfl (sem_indexStr' s12 .i64 (0) rfl rfl TF.isStr_9 hi0 hi1 ?_)
            obtain ⟨hT, hF⟩ := hS
            by_cases hb22 : (byteAt s12 (Int.toNat (0)) : Int) = 0
            · have hS := hT hb22; clear hT hF
              refine Run.go rfl rfl rfl (sem_binI .u8 (byteAt s12 (Int.toNat (0))) (0) (.bool true) rfl rfl (binI_eql_t hb22) ?_)
              refine Run.go rfl rfl rfl (sem_pick true ((Value.bool true)) rfl rfl ?_)
              refine Run.go rfl rfl rfl (sem_pick false ((Value.bool true)) rfl rfl ?_)
              refine Run.region_end ?_
              refine Run.condT rfl ?_
              refine Run.exit rfl ?_
              refine Run.seq ?_
              refine Run.ops0 (idx := [0, 1]) rfl ?_
              refine Run.go rfl rfl rfl (sem_move ((Value.pointer p1)) rfl ?_)
              refine Run.go rfl rfl rfl (sem_callL [(Value.pointer p1)] (TF.goes_26) rfl rfl (Spec.mono hS fun v h23 hv => ?_))
              obtain ⟨rfl, hS⟩ := hv
              refine Run.region_end ?_
              refine Run.seq ?_
              refine Run.ops0 (idx := [0]) rfl ?_
              refine Run.go rfl rfl rfl (sem_assign ((Value.int .u64 (0))) rfl ?_)
              refine Run.region_end ?_
              refine Run.ret ⟨.inr rfl, ?_⟩
              exact hS.imp fun h' hq => ⟨(0), rfl, hq⟩
            · have hS := hF hb22; clear hT hF
              refine Run.go rfl rfl rfl (sem_binI .u8 (byteAt s12 (Int.toNat (0))) (0) (.bool false) rfl rfl (binI_eql_f hb22) ?_)
              refine Run.go rfl rfl rfl (sem_pick true ((Value.bool false)) rfl rfl ?_)
              refine Run.go rfl rfl rfl (sem_pick false ((Value.bool false)) rfl rfl ?_)
              refine Run.region_end ?_
              refine Run.condF rfl ?_
              refine Run.skip ?_
              exact Run.of_fin (hS.imp fun h' hS => j13 _ _ ⟨⟨rfl, rfl, rfl, rfl, trivial⟩, hS⟩)
          · have hS := hF hb21; clear hT hF
            refine Run.go rfl rfl rfl (sem_binI .i64 (i4) (0) (.bool false) rfl rfl (binI_gtr_f hb21) ?_)
            refine Run.go rfl rfl rfl (sem_move ((Value.bool false)) rfl ?_)
            refine Run.no rfl rfl rfl ?_
            refine Run.no rfl rfl rfl ?_
            refine Run.no rfl rfl rfl ?_
            refine Run.go rfl rfl rfl (sem_pick false ((Value.bool false)) rfl rfl ?_)
            refine Run.go rfl rfl rfl (sem_pick false ((Value.bool false)) rfl rfl ?_)
            refine Run.region_end ?_
            refine Run.condF rfl ?_
            refine Run.skip ?_
            exact Run.of_fin (hS.imp fun h' hS => j13 _ _ ⟨⟨rfl, rfl, rfl, rfl, trivial⟩, hS⟩)
      · have hS := hF hb18; clear hT hF
        refine Run.go rfl rfl rfl (sem_binI .i64 (i4) (63) (.bool false) rfl rfl (binI_eql_f hb18) ?_)
        refine Run.go rfl rfl rfl (sem_move ((Value.bool false)) rfl ?_)
        refine Run.no rfl rfl rfl ?_
        refine Run.no rfl rfl rfl ?_
        refine Run.no rfl rfl rfl ?_
        refine Run.go rfl rfl rfl (sem_pick false ((Value.bool false)) rfl rfl ?_)
        refine Run.go rfl rfl rfl (sem_pick false ((Value.bool false)) rfl rfl ?_)
        refine Run.go rfl rfl rfl (sem_move ((Value.bool false)) rfl ?_)
        refine Run.go rfl rfl rfl (sem_move ((Value.int .i64 (i4))) rfl ?_)
        obtain ⟨hT, hF⟩ := hS
        by_cases hb24 : (i4 : Int) > (0)
        · have hS := hT hb24; clear hT hF
          refine Run.go rfl rfl rfl (sem_binI .i64 (i4) (0) (.bool true) rfl rfl (binI_gtr_t hb24) ?_)
          refine Run.go rfl rfl rfl (sem_move ((Value.bool true)) rfl ?_)
          refine Run.go rfl rfl rfl (sem_move ((Value.string s12)) rfl ?_)
          obtain ⟨hi0, hi1, hS⟩ := hS
          refine Run.go rfl rfl rfl (sem_indexStr' s12 .i64 (0) rfl rfl TF.isStr_9 hi0 hi1 ?_)
          obtain ⟨hT, hF⟩ := hS
          by_cases hb25 : (byteAt s12 (Int.toNat (0)) : Int) = 0
          · have hS := hT hb25; clear hT hF
            refine Run.go rfl rfl rfl (sem_binI .u8 (byteAt s12 (Int.toNat (0))) (0) (.bool true) rfl rfl (binI_eql_t hb25) ?_)
            refine Run.go rfl rfl rfl (sem_pick true ((Value.bool true)) rfl rfl ?_)
            refine Run.go rfl rfl rfl (sem_pick false ((Value.bool true)) rfl rfl ?_)
            refine Run.region_end ?_
            refine Run.condT rfl ?_
            refine Run.exit rfl ?_
            refine Run.seq ?_
            refine Run.ops0 (idx := [0, 1]) rfl ?_
            refine Run.go rfl rfl rfl (sem_move ((Value.pointer p1)) rfl ?_)
            refine Run.go rfl rfl rfl (sem_callL [(Value.pointer p1)] (TF.goes_26) rfl rfl (Spec.mono hS fun v h26 hv => ?_))
            obtain ⟨rfl, hS⟩ := hv
            refine Run.region_end ?_
            refine Run.seq ?_
            refine Run.ops0 (idx := [0]) rfl ?_
            refine Run.go rfl rfl rfl (sem_assign ((Value.int .u64 (0))) rfl ?_)
            refine Run.region_end ?_
            refine Run.ret ⟨.inr rfl, ?_⟩
            exact hS.imp fun h' hq => ⟨(0), rfl, hq⟩
          · have hS := hF hb25; clear hT hF
            refine Run.go rfl rfl rfl (sem_binI .u8 (byteAt s12 (Int.toNat (0))) (0) (.bool false) rfl rfl (binI_eql_f hb25) ?_)
            refine Run.go rfl rfl rfl (sem_pick true ((Value.bool false)) rfl rfl ?_)
            refine Run.go rfl rfl rfl (sem_pick false ((Value.bool false)) rfl rfl ?_)
            refine Run.region_end ?_
            refine Run.condF rfl ?_
            refine Run.skip ?_
            exact Run.of_fin (hS.imp fun h' hS => j13 _ _ ⟨⟨rfl, rfl, rfl, rfl, trivial⟩, hS⟩)
        · have hS := hF hb24; clear hT hF
          refine Run.go rfl rfl rfl (sem_binI .i64 (i4) (0) (.bool false) rfl rfl (binI_gtr_f hb24) ?_)
          refine Run.go rfl rfl rfl (sem_move ((Value.bool false)) rfl ?_)
          refine Run.no rfl rfl rfl ?_
          refine Run.no rfl rfl rfl ?_
          refine Run.no rfl rfl rfl ?_
          refine Run.go rfl rfl rfl (sem_pick false ((Value.bool false)) rfl rfl ?_)
          refine Run.go rfl rfl rfl (sem_pick false ((Value.bool false)) rfl rfl ?_)
          refine Run.region_end ?_
          refine Run.condF rfl ?_
          refine Run.skip ?_
          exact Run.of_fin (hS.imp fun h' hS => j13 _ _ ⟨⟨rfl, rfl, rfl, rfl, trivial⟩, hS⟩)
  · have hS := hF hb10; clear hT hF
    refine Run.go rfl rfl rfl (sem_binI .i64 (i4) (64) (.bool false) rfl rfl (binI_lss_f hb10) ?_)
    refine Run.region_end ?_
    refine Run.condF rfl ?_
    refine Run.exit rfl ?_
    refine Run.seq ?_
    refine Run.ops0 (idx := [0, 1]) rfl ?_
    refine Run.go rfl rfl rfl (sem_move ((Value.pointer p1)) rfl ?_)
    refine Run.go rfl rfl rfl (sem_callL [(Value.pointer p1)] (TF.goes_26) rfl rfl (Spec.mono hS fun v h27 hv => ?_))
    obtain ⟨rfl, hS⟩ := hv
    refine Run.region_end ?_
    refine Run.seq ?_
    refine Run.ops0 (idx := [0]) rfl ?_
    refine Run.go rfl rfl rfl (sem_assign ((Value.int .u64 (0))) rfl ?_)
    refine Run.region_end ?_
    refine Run.ret ⟨.inr rfl, ?_⟩
    exact hS.imp fun h' hq => ⟨(0), rfl, hq⟩
set_option maxHeartbeats 4000000 in
theorem C_stylus_Stylus_Raw.of {B : RO} {p1 : Option Addr} {s2 : ByteArray} {h : Heap} {Q : Heap → Prop} (hS : S_stylus_Stylus_Raw B p1 s2 h Q) : C_stylus_Stylus_Raw B p1 s2 h Q := by
  unfold S_stylus_Stylus_Raw at hS
  unfold C_stylus_Stylus_Raw
  refine Spec.of_run Try.func74 (N := 13) (rs := []) rfl rfl rfl (Nat.le_of_ble_eq_true rfl) ?_
  refine Run.ops0 (idx := [0, 1, 2, 3, 4, 5, 6, 7, 8, 9]) rfl ?_
  refine Run.go rfl rfl rfl (sem_move ((Value.pointer p1)) rfl ?_)
  refine Run.go rfl rfl rfl (sem_move ((Value.pointer p1)) rfl ?_)
  obtain ⟨A3, e4, hS⟩ := hS
  refine Run.go rfl rfl rfl (sem_nilCheck A3 (congrArg Value.pointer e4) ?_)
  refine Run.go rfl rfl rfl (sem_fieldAddr A3 0 rfl TF.fld_40_0 ?_)
  refine Run.ldSl hS fun a5 n6 c7 h8 hl hS => ?_
  refine Run.go rfl rfl rfl (sem_load1 A3 ((Value.slice a5 n6 c7)) rfl TF.agg_38 hl ?_)
  refine Run.go rfl rfl rfl (sem_move ((Value.string s2)) rfl ?_)
  refine Run.go rfl rfl rfl (sem_appendL [(Value.slice a5 n6 c7), (Value.string s2)] rfl (semH_mono (fun v h9 hv => ?_) hS))
  obtain ⟨a10, n11, c12, rfl, hS⟩ := hv
  obtain ⟨A13, e14, hS⟩ := hS
  refine Run.go rfl rfl rfl (sem_nilCheck A13 (congrArg Value.pointer e14) ?_)
  refine Run.go rfl rfl rfl (sem_fieldAddr A13 0 rfl TF.fld_40_0 ?_)
  obtain ⟨h15, hst, hS⟩ := hS
  refine Run.go rfl rfl rfl (sem_store1 A13 ((Value.slice a10 n11 c12)) h15 rfl rfl rfl TF.sz_38 hst ?_)
  refine Run.region_end ?_
  refine Run.fall ⟨.inl rfl, ?_⟩
  exact hS.imp fun h' hq => ⟨rfl, hq⟩
set_option maxHeartbeats 4000000 in
theorem C_countermandref01_Nat.of {B : RO} {i1 : Int} {h : Heap} {Q : ByteArray → Heap → Prop} (hS : S_countermandref01_Nat B i1 h Q) : C_countermandref01_Nat B i1 h Q := by
  unfold S_countermandref01_Nat at hS
  unfold C_countermandref01_Nat
  refine Spec.of_run Try.func75 (N := 8) (rs := [ResultVar.tmp 2]) rfl rfl rfl (Nat.le_of_ble_eq_true rfl) ?_
  refine Run.seq ?_
  refine Run.ops0 (idx := [0]) rfl ?_
  refine Run.go rfl rfl rfl (sem_assign ((Value.string (ByteArray.mk #[]))) rfl ?_)
  refine Run.region_end ?_
  refine Run.seq ?_
  refine Run.seq ?_
  refine Run.ops0 (idx := [0, 1]) rfl ?_
  refine Run.go rfl rfl rfl (sem_move ((Value.int .i64 (i1))) rfl ?_)
  obtain ⟨hT, hF⟩ := hS
  by_cases hb3 : (i1 : Int) < (0)
  · have hS := hT hb3; clear hT hF
    refine Run.go rfl rfl rfl (sem_binI .i64 (i1) (0) (.bool true) rfl rfl (binI_lss_t hb3) ?_)
    refine Run.region_end ?_
    refine Run.condT rfl ?_
    refine Run.seq ?_
    refine Run.ops0 (idx := [0]) rfl ?_
    refine Run.go rfl rfl rfl (sem_assign ((Value.string (ByteArray.mk #[]))) rfl ?_)
    refine Run.region_end ?_
    refine Run.ret ⟨.inr rfl, ?_⟩
    exact hS.imp fun h' hq => ⟨(ByteArray.mk #[]), rfl, hq⟩
  · have hS := hF hb3; clear hT hF
    refine Run.go rfl rfl rfl (sem_binI .i64 (i1) (0) (.bool false) rfl rfl (binI_lss_f hb3) ?_)
    refine Run.region_end ?_
    refine Run.condF rfl ?_
    refine Run.skip ?_
    refine Run.seq ?_
    refine Run.ops0 (idx := [0, 1, 2, 3]) rfl ?_
    refine Run.go rfl rfl rfl (sem_move ((Value.int .i64 (i1))) rfl ?_)
    refine Run.go rfl rfl rfl (sem_convI .i64 .u64 (i1) rfl TF.int_3 TF.int_28 ?_)
    refine Run.go rfl rfl rfl (sem_callL [(Value.int .u64 (IntKind.wrap .u64 (i1)))] (TF.goes_72) rfl rfl (Spec.mono hS fun v h4 hv => ?_))
    obtain ⟨s5, rfl, hS⟩ := hv
    refine Run.go rfl rfl rfl (sem_assign ((Value.string s5)) rfl ?_)
    refine Run.region_end ?_
    refine Run.ret ⟨.inr rfl, ?_⟩
    exact hS.imp fun h' hq => ⟨s5, rfl, hq⟩
set_option maxHeartbeats 4000000 in
theorem C_countermandref01_Text.of {B : RO} {s1 : ByteArray} {h : Heap} {Q : ByteArray → Heap → Prop} (hS : S_countermandref01_Text B s1 h Q) : C_countermandref01_Text B s1 h Q := by
  unfold S_countermandref01_Text at hS
  unfold C_countermandref01_Text
  refine Spec.of_run Try.func77 (N := 8) (rs := [ResultVar.tmp 2]) rfl rfl rfl (Nat.le_of_ble_eq_true rfl) ?_
  refine Run.seq ?_
  refine Run.ops0 (idx := [0]) rfl ?_
  refine Run.go rfl rfl rfl (sem_assign ((Value.string (ByteArray.mk #[]))) rfl ?_)
  refine Run.region_end ?_
  refine Run.seq ?_
  refine Run.ops0 (idx := [0, 1, 2, 3, 4, 5]) rfl ?_
  refine Run.go rfl rfl rfl (sem_move ((Value.string s1)) rfl ?_)
  refine Run.go rfl rfl rfl (sem_lenStr s1 rfl TF.isStr_9 ?_)
  refine Run.go rfl rfl rfl (sem_callL [(Value.int .i64 ((ByteArray.size s1 : Nat)))] (TF.goes_75) rfl rfl (Spec.mono hS fun v h3 hv => ?_))
  obtain ⟨s4, rfl, hS⟩ := hv
  refine Run.go rfl rfl rfl (sem_move ((Value.string s1)) rfl ?_)
  obtain ⟨hi0, hS⟩ := hS
  refine Run.go rfl rfl rfl (sem_strAdd s4 s1 rfl rfl hi0 ?_)
  refine Run.go rfl rfl rfl (sem_assign ((Value.string (s4 ++ s1))) rfl ?_)
  refine Run.region_end ?_
  refine Run.ret ⟨.inr rfl, ?_⟩
  exact hS.imp fun h' hq => ⟨(s4 ++ s1), rfl, hq⟩
set_option maxHeartbeats 4000000 in
theorem C_cell_New_file_File.of {B : RO} {i1 : Int} {b2 : Bool} {s3 : ByteArray} {h : Heap} {Q : Option Addr → Heap → Prop} (hS : S_cell_New_file_File B i1 b2 s3 h Q) : C_cell_New_file_File B i1 b2 s3 h Q := by
  unfold S_cell_New_file_File at hS
  unfold C_cell_New_file_File
  refine Spec.of_run Try.func78 (N := 24) (rs := [ResultVar.tmp 4]) rfl rfl rfl (Nat.le_of_ble_eq_true rfl) ?_
  refine Run.seq ?_
  refine Run.ops0 (idx := [0, 1]) rfl ?_
  refine Run.go rfl rfl rfl (sem_boxNN [(Value.bool b2), (Value.string s3)] rfl (fun k5 hb1 hb2 h6 hb3 => ?_))
  have hS := hS k5 hb1 hb2 h6 hb3
  refine Run.go rfl rfl rfl (sem_assign ((Value.pointer none)) rfl ?_)
  refine Run.region_end ?_
  refine Run.seq ?_
  refine Run.ops0 (idx := [0, 1, 2]) rfl ?_
  refine Run.go rfl rfl rfl (sem_buildSL [] [(Value.slice none 0 0)] TF.zero_168 TF.places_168 rfl rfl ?_)
  refine Run.go rfl rfl rfl (sem_boxNN [(Value.slice none 0 0)] rfl (fun k7 hb1 hb2 h8 hb3 => ?_))
  have hS := hS k7 hb1 hb2 h8 hb3
  refine Run.go rfl rfl rfl (sem_assign ((Value.pointer (some ⟨k7, 0, none⟩))) rfl ?_)
  refine Run.region_end ?_
  refine Run.seq ?_
  refine Run.seq ?_
  refine Run.ops0 (idx := [0, 1]) rfl ?_
  refine Run.go rfl rfl rfl (sem_move ((Value.int .i64 (i1))) rfl ?_)
  refine Run.go rfl rfl rfl (sem_move ((Value.int .i64 (0))) rfl ?_)
  refine Run.region_end ?_
  refine Run.block ?_
  obtain ⟨J14, m12, h0, hS⟩ := hS
  refine Run.of_fin (h0.imp fun h' h0 => ?_)
  refine Run.loop (σ := Int × Nat) (fun x e h => J14 x.1 x.2 h ∧ Agree [(3, (Value.pointer (some ⟨k5, 0, none⟩))), (5, (Value.pointer (some ⟨k7, 0, none⟩))), (8, (Value.int .i64 (i1))), (9, (Value.int .i64 (x.1)))] e) (fun x => x.2) ((0), m12) ⟨h0, ⟨rfl, rfl, rfl, rfl, trivial⟩⟩ ?_; clear h0
  rintro ⟨i9, m11⟩ e h10 ⟨hJ, hag⟩ ih13
  have hS := hS i9 m11 h10 hJ; clear hJ
  refine Run.env hag ?_; clear hag
  refine Run.seq ?_
  refine Run.ops0 (idx := [0]) rfl ?_
  obtain ⟨hT, hF⟩ := hS
  by_cases hb15 : (i9 : Int) < (i1)
  · have hS := hT hb15; clear hT hF
    refine Run.go rfl rfl rfl (sem_binI .i64 (i9) (i1) (.bool true) rfl rfl (binI_lss_t hb15) ?_)
    refine Run.region_end ?_
    refine Run.seq ?_
    refine Run.condT rfl ?_
    refine Run.skip ?_
    refine Run.seq ?_
    refine Run.block ?_
    skip
    skip
    skip
    skip
    obtain ⟨a20, n21, c22, hl, hS⟩ := hS
    have f23 := hl
    obtain ⟨b24, s25, hl, hS⟩ := hS
    have f26 := hl
    skip
    refine Run.draw (fun h' => cellH B h' ⟨k7, 0, none⟩ = some (Value.slice a20 n21 c22) ∧ CellsAt B h' ⟨k5, 0, none⟩ 0 [(Value.bool b24), (Value.string s25)] ∧ True) [11] [.q 0, .q 1, .q 2, .q 3, .q 4, .q 5, .q 6, .x 7, .x 8, .q 9, .q 10, .x 11] TF.mixed (by kernel_rfl) ⟨f23, f26, trivial⟩ ?_
    refine RunO.quiet rfl rfl rfl (fun h' hC => sem_move ((Value.pointer (some ⟨k7, 0, none⟩))) rfl ⟨rfl, rfl⟩) ?_
    refine RunO.quiet rfl rfl rfl (fun h' hC => sem_move ((Value.pointer (some ⟨k7, 0, none⟩))) rfl ⟨rfl, rfl⟩) ?_
    refine RunO.quiet rfl rfl rfl (fun h' hC => sem_nilCheck ⟨k7, 0, none⟩ rfl ⟨rfl, rfl⟩) ?_
    refine RunO.quiet rfl rfl rfl (fun h' hC => sem_fieldAddr ⟨k7, 0, none⟩ 0 rfl TF.fld_168_0 ⟨rfl, rfl⟩) ?_
    refine RunO.quiet rfl rfl rfl (fun h' hC => sem_load1 ⟨k7, 0, none⟩ ((Value.slice a20 n21 c22)) rfl TF.agg_166 hC.1 ⟨rfl, rfl⟩) ?_
    refine RunO.quiet rfl rfl rfl (fun h' hC => sem_loadN ⟨k5, 0, none⟩ [(Value.bool b24), (Value.string s25)] rfl TF.agg_54 TF.sz_54 hC.2.1 ⟨rfl, rfl⟩) ?_
    refine RunO.quiet rfl rfl rfl (fun h' hC => sem_buildSL [(0, (Value.agg #[(Value.bool b24), (Value.string s25)]))] [(Value.bool b24), (Value.string s25), (Value.int .i64 (0))] TF.zero_170 TF.places_170 rfl rfl ⟨rfl, rfl⟩) ?_
    refine OpH.go rfl rfl rfl (sem_buildSliceL [(0, (Value.agg #[(Value.bool b24), (Value.string s25), (Value.int .i64 (0))]))] [(Value.bool b24), (Value.string s25), (Value.int .i64 (0))] TF.slc_166 TF.zero_170 rfl (by decide) (by decide) rfl rfl (fun k28 hb1 hb2 h29 hb3 => ?_))
    have hS := hS k28 hb1 hb2 h29 hb3
    obtain ⟨g30, g31, hS⟩ := hS
    refine ⟨fun _ => ⟨g30, g31, trivial⟩, ?_⟩
    refine OpH.go rfl rfl rfl (sem_appendL [(Value.slice a20 n21 c22), (Value.slice (some ⟨k28, 0, none⟩) 1 1)] rfl (semH_mono (fun v h32 hv => ?_) hS))
    obtain ⟨a33, n34, c35, rfl, hS⟩ := hv
    obtain ⟨g36, g37, hS⟩ := hS
    refine ⟨fun _ => ⟨g36, g37, trivial⟩, ?_⟩
    refine RunO.quiet rfl rfl rfl (fun h' hC => sem_nilCheck ⟨k7, 0, none⟩ rfl ⟨rfl, rfl⟩) ?_
    refine RunO.quiet rfl rfl rfl (fun h' hC => sem_fieldAddr ⟨k7, 0, none⟩ 0 rfl TF.fld_168_0 ⟨rfl, rfl⟩) ?_
    obtain ⟨h38, hst, hS⟩ := hS
    refine OpH.go rfl rfl rfl (sem_store1 ⟨k7, 0, none⟩ ((Value.slice a33 n34 c35)) h38 rfl rfl rfl TF.sz_166 hst ?_)
    refine ⟨fun hz => Bool.noConfusion hz, ?_⟩
    refine Run.inBlock ?_
    refine Run.ops0 (idx := [0, 1]) rfl ?_
    refine Run.go rfl rfl rfl (sem_binI .i64 (i9) (1) ((Value.int .i64 (IntKind.wrap .i64 ((i9) + (1))))) rfl rfl rfl ?_)
    refine Run.go rfl rfl rfl (sem_move ((Value.int .i64 (IntKind.wrap .i64 ((i9) + (1))))) rfl ?_)
    refine Run.region_end ?_
    exact Run.of_fin (hS.imp fun h' ⟨m', hm, hS⟩ => ih13 ((IntKind.wrap .i64 ((i9) + (1))), m') _ _ ⟨hS, ⟨rfl, rfl, rfl, rfl, trivial⟩⟩ hm)
  · have hS := hF hb15; clear hT hF
    refine Run.go rfl rfl rfl (sem_binI .i64 (i9) (i1) (.bool false) rfl rfl (binI_lss_f hb15) ?_)
    refine Run.region_end ?_
    refine Run.seq ?_
    refine Run.condF rfl ?_
    refine Run.exit rfl ?_
    refine Run.seq ?_
    refine Run.ops0 (idx := [0, 1]) rfl ?_
    refine Run.go rfl rfl rfl (sem_move ((Value.pointer (some ⟨k7, 0, none⟩))) rfl ?_)
    refine Run.go rfl rfl rfl (sem_assign ((Value.pointer (some ⟨k7, 0, none⟩))) rfl ?_)
    refine Run.region_end ?_
    refine Run.ret ⟨.inr rfl, ?_⟩
    exact hS.imp fun h' hq => ⟨(some ⟨k7, 0, none⟩), rfl, hq⟩
end Go.Proofs.Ytoajfmmomgpjcaa.H
