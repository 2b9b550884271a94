/- What the law's proof stands on, part 3. No condition. -/
import Derived.IntWalk
import Derived.Laws.BitsLemmas
import Derived.Test.YtgldgabefiialaaG2
namespace Go.Proofs.Ytgldgabefiialaa.H
open Go
set_option linter.unusedVariables false
set_option maxRecDepth 100000
set_option maxHeartbeats 4000000
theorem C_countermandlaw20_AttemptBlind.of {B : RO} {i1 : Int} {a2 : Option Addr} {n3 : Nat} {c4 : Nat} {h : Heap} {Q : Bool → Heap → Prop} (s : S_countermandlaw20_AttemptBlind B i1 a2 n3 c4 h Q) : C_countermandlaw20_AttemptBlind B i1 a2 n3 c4 h Q := by
 refine zspec Try.func3 [ResultVar.tmp 4] rfl rfl rfl rfl rfl ?_
 refine au 7 rfl ?_
 refine zcall s rfl rfl TF.goes_5 ?_
 rintro _ h6 ⟨b7, rfl, s⟩
 cases b7
 ·replace s := s.2 rfl
  refine au 7 rfl ?_
  exact zr (s.imp fun _ q => ⟨_, rfl, q⟩)
 ·replace s := s.1 rfl
  refine au 4 rfl ?_
  refine Run.seqJ (fun e h9 => Agree [(0, (.int .i64 (i1))), (1, (.slice a2 n3 c4))] e ∧ S_countermandlaw20_AttemptBlind_J1 B i1 a2 n3 c4 h9 Q) ?_ fun j8 => ?_
  ·rintro e h9 ⟨hag, s⟩
   refine Run.env hag ?_; clear hag
   refine au 2 rfl ?_
   refine zcall s rfl rfl TF.goes_6 ?_
   rintro _ h10 ⟨p11, rfl, s⟩
   refine au 6 rfl ?_
   refine Run.seqJ (fun e h16 => ∃ a13 : Option Addr, ∃ n14 : Nat, ∃ c15 : Nat, Agree [(0, (.int .i64 (i1))), (1, (.slice a2 n3 c4)), (5, (.pointer p11)), (6, (.slice a13 n14 c15))] e ∧ S_countermandlaw20_AttemptBlind_J2 B i1 a2 n3 c4 p11 a13 n14 c15 h16 Q) ?_ fun j12 => ?_
   ·rintro e h16 ⟨a13, n14, c15, hag, s⟩
    refine Run.env hag ?_; clear hag
    refine au 4 rfl ?_
    refine zg rfl (sem_lenSl a13 n14 c15 rfl TF.sl_26 ?_)
    refine au 3 rfl ?_
    obtain ⟨J22, m20, h0, s⟩ := s
    refine Run.of_fin (h0.imp fun h' h0 => ?_)
    refine Run.loop (σ := Int × Nat) (fun x e h => J22 x.1 x.2 h ∧ Agree [(0, (.int .i64 (i1))), (1, (.slice a2 n3 c4)), (5, (.pointer p11)), (46, (.slice a13 n14 c15)), (47, (.int .i64 ((n14 : Nat)))), (48, (.int .i64 (x.1)))] e) (fun x => x.2) ((0), m20) ⟨h0, ⟨rfl, rfl, rfl, rfl, rfl, rfl, trivial⟩⟩ ?_; clear h0
    rintro ⟨i17, m19⟩ e h18 ⟨hJ, hag⟩ ih21
    have s := s i17 m19 h18 hJ; clear hJ
    refine Run.env hag ?_; clear hag
    refine au 2 rfl ?_
    refine zt s rfl rfl rfl binI_lss_t binI_lss_f (fun s => ?_) fun s => ?_
    ·refine au 9 rfl ?_
     obtain ⟨A23, e24, hi0, hi1, s⟩ := s
     refine zg rfl (sem_indexAddrS A23 n14 c15 .i64 (i17) (congrArg (fun a => Value.slice a n14 c15) e24) rfl TF.slc_26 hi0 hi1 ?_)
     refine zl s rfl rfl TF.agg_27 fun p25 s => ?_
     refine au 3 rfl ?_
     refine Run.seqJ (fun e h27 => Agree [(0, (.int .i64 (i1))), (1, (.slice a2 n3 c4)), (5, (.pointer p11)), (10, (.int .i64 (i17))), (46, (.slice a13 n14 c15)), (47, (.int .i64 ((n14 : Nat)))), (48, (.int .i64 (i17)))] e ∧ S_countermandlaw20_AttemptBlind_J3 B i1 a2 n3 c4 p11 a13 n14 c15 i17 m19 J22 h27 Q) ?_ fun j26 => ?_
     ·rintro e h27 ⟨hag, s⟩
      refine Run.env hag ?_; clear hag
      refine au 3 rfl ?_
      refine znil s rfl rfl fun A28 s => ?_
      refine au 1 rfl ?_
      refine zl s rfl rfl TF.agg_33 fun p30 s => ?_
      refine au 1 rfl ?_
      refine zcall s rfl rfl TF.goes_10 ?_
      rintro _ h31 ⟨i32, i33, rfl, s⟩
      refine au 11 rfl ?_
      obtain ⟨A34, e35, hi0, hi1, s⟩ := s
      refine zg rfl (sem_indexAddrS A34 n3 c4 .i64 (i17) (congrArg (fun a => Value.slice a n3 c4) e35) rfl TF.slc_22 hi0 hi1 ?_)
      refine zl s rfl rfl TF.agg_3 fun i36 s => ?_
      refine zu s rfl rfl rfl binI_neq_t binI_neq_f (fun s => ?_) fun s => ?_
      ·refine au 4 rfl ?_
       refine zu s rfl rfl rfl binI_neq_t binI_neq_f (fun s => ?_) fun s => ?_
       ·refine au 9 rfl ?_
        exact Run.of_fin (s.imp fun h' ⟨m', hm, s⟩ => ih21 ((IntKind.wrap .i64 ((i17) + (1))), m') _ _ ⟨s, ⟨rfl, rfl, rfl, rfl, rfl, rfl, trivial⟩⟩ hm)
       ·refine au 7 rfl ?_
        exact zr (s.imp fun _ q => ⟨_, rfl, q⟩)
      ·refine au 12 rfl ?_
       exact zr (s.imp fun _ q => ⟨_, rfl, q⟩)
     refine au 3 rfl ?_
     refine zcall s rfl rfl TF.goes_9 ?_
     rintro _ h37 ⟨b38, rfl, s⟩
     cases b38
     ·replace s := s.2 rfl
      refine au 16 rfl ?_
      exact zr (s.imp fun _ q => ⟨_, rfl, q⟩)
     ·replace s := s.1 rfl
      refine au 3 rfl ?_
      refine znil s rfl rfl fun A39 s => ?_
      refine au 1 rfl ?_
      refine zl s rfl rfl TF.agg_3 fun i41 s => ?_
      refine au 2 rfl ?_
      refine zu s rfl rfl rfl binI_neq_t binI_neq_f (fun s => ?_) fun s => ?_
      ·refine au 4 rfl ?_
       exact Run.of_fin (s.imp fun h' s => j26 _ _ ⟨⟨rfl, rfl, rfl, rfl, rfl, rfl, rfl, trivial⟩, s⟩)
      ·refine au 7 rfl ?_
       exact zr (s.imp fun _ q => ⟨_, rfl, q⟩)
    ·refine au 8 rfl ?_
     exact zr (s.imp fun _ q => ⟨_, rfl, q⟩)
   refine au 3 rfl ?_
   refine zg rfl (sem_lenSl a2 n3 c4 rfl TF.sl_22 ?_)
   refine au 3 rfl ?_
   obtain ⟨J50, m48, h0, s⟩ := s
   refine Run.of_fin (h0.imp fun h' h0 => ?_)
   refine Run.loop (σ := (Option Addr) × Nat × Nat × Int × Nat) (fun x e h => J50 x.1 x.2.1 x.2.2.1 x.2.2.2.1 x.2.2.2.2 h ∧ Agree [(0, (.int .i64 (i1))), (1, (.slice a2 n3 c4)), (5, (.pointer p11)), (6, (.slice x.1 x.2.1 x.2.2.1)), (28, (.slice a2 n3 c4)), (29, (.int .i64 ((n3 : Nat)))), (30, (.int .i64 (x.2.2.2.1)))] e) (fun x => x.2.2.2.2) (none, 0, 0, (0), m48) ⟨h0, ⟨rfl, rfl, rfl, rfl, rfl, rfl, rfl, trivial⟩⟩ ?_; clear h0
   rintro ⟨a42, n43, c44, i45, m47⟩ e h46 ⟨hJ, hag⟩ ih49
   have s := s a42 n43 c44 i45 m47 h46 hJ; clear hJ
   refine Run.env hag ?_; clear hag
   refine au 2 rfl ?_
   refine zt s rfl rfl rfl binI_lss_t binI_lss_f (fun s => ?_) fun s => ?_
   ·refine au 8 rfl ?_
    obtain ⟨A51, e52, hi0, hi1, s⟩ := s
    refine zg rfl (sem_indexAddrS A51 n3 c4 .i64 (i45) (congrArg (fun a => Value.slice a n3 c4) e52) rfl TF.slc_22 hi0 hi1 ?_)
    refine zl s rfl rfl TF.agg_3 fun i53 s => ?_
    refine au 5 rfl ?_
    refine zg rfl (sem_buildAL [] [(.int .i64 (0)), (.int .i64 (0)), (.int .i64 (0)), (.int .i64 (0))] TF.zero_30 TF.arr_30 rfl rfl ?_)
    refine zcall s rfl rfl TF.goes_7 ?_
    rintro _ h54 ⟨p55, rfl, s⟩
    refine au 7 rfl ?_
    refine zcall s rfl rfl TF.goes_8 ?_
    rintro _ h56 ⟨i57, rfl, s⟩
    refine au 4 rfl ?_
    refine zg rfl (sem_buildSliceL [(0, (.pointer p55))] [(.pointer p55)] TF.slc_26 TF.zero_27 rfl (by decide) (by decide) rfl rfl (fun k58 hb1 hb2 h59 hb3 => ?_))
    have s := s k58 hb1 hb2 h59 hb3
    refine zg rfl (sem_appendL [(.slice a42 n43 c44), (.slice (some ⟨k58, 0, none⟩) 1 1)] rfl (semH_mono (fun v h60 hv => ?_) s))
    obtain ⟨a61, n62, c63, rfl, s⟩ := hv
    refine au 7 rfl ?_
    exact Run.of_fin (s.imp fun h' ⟨m', hm, s⟩ => ih49 (a61, n62, c63, (IntKind.wrap .i64 ((i45) + (1))), m') _ _ ⟨s, ⟨rfl, rfl, rfl, rfl, rfl, rfl, rfl, trivial⟩⟩ hm)
   ·refine au 4 rfl ?_
    exact Run.of_fin (s.imp fun h' s => j12 _ _ ⟨a42, n43, c44, ⟨rfl, rfl, rfl, rfl, trivial⟩, s⟩)
  refine au 3 rfl ?_
  refine zg rfl (sem_lenSl a2 n3 c4 rfl TF.sl_22 ?_)
  refine zt s rfl rfl rfl binI_gtr_t binI_gtr_f (fun s => ?_) fun s => ?_
  ·refine au 14 rfl ?_
   exact zr (s.imp fun _ q => ⟨_, rfl, q⟩)
  ·refine au 2 rfl ?_
   refine zt s rfl rfl rfl binI_lss_t binI_lss_f (fun s => ?_) fun s => ?_
   ·refine au 11 rfl ?_
    exact zr (s.imp fun _ q => ⟨_, rfl, q⟩)
   ·refine au 3 rfl ?_
    refine zt s rfl rfl rfl binI_gtr_t binI_gtr_f (fun s => ?_) fun s => ?_
    ·refine au 7 rfl ?_
     exact zr (s.imp fun _ q => ⟨_, rfl, q⟩)
    ·refine au 4 rfl ?_
     exact Run.of_fin (s.imp fun h' s => j8 _ _ ⟨⟨rfl, rfl, trivial⟩, s⟩)
theorem C_countermandlaw20_alive.of {B : RO} {h : Heap} {Q : Bool → Heap → Prop} (s : S_countermandlaw20_alive B h Q) : C_countermandlaw20_alive B h Q := by
 refine zspec Try.func5 [ResultVar.tmp 0] rfl rfl rfl rfl rfl ?_
 refine au 6 rfl ?_
 refine zcall s rfl rfl TF.goes_6 ?_
 rintro _ h2 ⟨p3, rfl, s⟩
 refine au 5 rfl ?_
 refine zg rfl (sem_buildAL [] [(.int .i64 (0)), (.int .i64 (0)), (.int .i64 (0)), (.int .i64 (0))] TF.zero_30 TF.arr_30 rfl rfl ?_)
 refine zcall s rfl rfl TF.goes_7 ?_
 rintro _ h4 ⟨p5, rfl, s⟩
 refine au 1 rfl ?_
 refine zg rfl (sem_buildAL [] [(.int .i64 (0)), (.int .i64 (0)), (.int .i64 (0)), (.int .i64 (0))] TF.zero_30 TF.arr_30 rfl rfl ?_)
 refine zcall s rfl rfl TF.goes_7 ?_
 rintro _ h6 ⟨p7, rfl, s⟩
 refine au 7 rfl ?_
 refine zcall s rfl rfl TF.goes_8 ?_
 rintro _ h8 ⟨i9, rfl, s⟩
 refine zu s rfl rfl rfl binI_neq_t binI_neq_f (fun s => ?_) fun s => ?_
 ·refine au 6 rfl ?_
  refine zcall s rfl rfl TF.goes_14 ?_
  rintro _ h10 ⟨i11, i12, rfl, s⟩
  refine au 9 rfl ?_
  refine zcall s rfl rfl TF.goes_14 ?_
  rintro _ h13 ⟨i14, i15, rfl, s⟩
  refine au 9 rfl ?_
  refine zt s rfl rfl rfl binI_eql_t binI_eql_f (fun s => ?_) fun s => ?_
  ·refine au 2 rfl ?_
   refine zt s rfl rfl rfl binI_eql_t binI_eql_f (fun s => ?_) fun s => ?_
   ·refine au 3 rfl ?_
    refine zcall s rfl rfl TF.goes_9 ?_
    rintro _ h16 ⟨b17, rfl, s⟩
    cases b17
    ·replace s := s.2 rfl
     refine au 10 rfl ?_
     exact zr (s.imp fun _ q => ⟨_, rfl, q⟩)
    ·replace s := s.1 rfl
     refine au 3 rfl ?_
     refine znil s rfl rfl fun A18 s => ?_
     refine au 1 rfl ?_
     refine zl s rfl rfl TF.agg_3 fun i20 s => ?_
     refine au 4 rfl ?_
     exact zr (s.imp fun _ q => ⟨_, rfl, q⟩)
   ·refine au 14 rfl ?_
    exact zr (s.imp fun _ q => ⟨_, rfl, q⟩)
  ·refine au 17 rfl ?_
   exact zr (s.imp fun _ q => ⟨_, rfl, q⟩)
 ·refine au 6 rfl ?_
  exact zr (s.imp fun _ q => ⟨_, rfl, q⟩)
theorem C_attempt_NewView.of {B : RO} {h : Heap} {Q : Option Addr → Heap → Prop} (s : S_attempt_NewView B h Q) : C_attempt_NewView B h Q := by
 refine zspec Try.func6 [ResultVar.tmp 0] rfl rfl rfl rfl rfl ?_
 refine au 6 rfl ?_
 refine zcall s rfl rfl TF.goes_15 ?_
 rintro _ h2 ⟨p3, rfl, s⟩
 refine zcall s rfl rfl TF.goes_16 ?_
 rintro _ h4 ⟨p5, rfl, s⟩
 refine zcall s rfl rfl TF.goes_17 ?_
 rintro _ h6 ⟨p7, rfl, s⟩
 refine zg rfl (sem_buildSL [(0, (.pointer p3)), (1, (.pointer p5)), (2, (.pointer p7))] [(.pointer p3), (.pointer p5), (.pointer p7), (.int .i64 (0))] TF.zero_37 TF.places_37 rfl rfl ?_)
 refine zbn s rfl rfl rfl fun k8 h9 s => ?_
 refine au 2 rfl ?_
 exact zr (s.imp fun _ q => ⟨_, rfl, q⟩)
theorem C_attempt_New.of {B : RO} {p1 : Option Addr} {i2 : Int} {i3 : Int} {i4 : Int} {i5 : Int} {h : Heap} {Q : Option Addr → Heap → Prop} (s : S_attempt_New B p1 i2 i3 i4 i5 h Q) : C_attempt_New B p1 i2 i3 i4 i5 h Q := by
 refine zspec Try.func7 [ResultVar.tmp 4] rfl rfl rfl rfl rfl ?_
 refine au 2 rfl ?_
 refine zbn s rfl rfl rfl fun k7 h8 s => ?_
 refine au 2 rfl ?_
 refine Run.seqJ (fun e h11 => ∃ p10 : Option Addr, Agree [(0, (.pointer p10)), (3, (.pointer (some ⟨k7, 0, none⟩)))] e ∧ S_attempt_New_J1 B k7 p10 h11 Q) ?_ fun j9 => ?_
 ·rintro e h11 ⟨p10, hag, s⟩
  refine Run.env hag ?_; clear hag
  refine au 1 rfl ?_
  obtain ⟨A14, e15, s⟩ := s
  obtain ⟨i18, hl, s⟩ := s
  have f19 := hl
  obtain ⟨i20, i21, i22, i23, hl, s⟩ := s
  have f24 := hl
  refine Run.drawM (fun h' => cellH B h' (Addr.add A14 3) = some (.int .i64 (i18)) ∧ CellsAt B h' ⟨k7, 0, none⟩ 0 [(.int .i64 (i20)), (.int .i64 (i21)), (.int .i64 (i22)), (.int .i64 (i23))] ∧ True) [] ⟨[0, 0, 2, 4, 8, 16, 0, 96, 0, 256, 0, 1024, 2721, 4096, 16383], [32767, 32767, 32765, 32763, 32759, 32751, 32767, 32703, 32767, 32511, 32767, 31743, 30046, 28671, 24575], [0, 0, 0, 0, 0, 0, 0, 0, 0, 0, 0, 0, 0, 0, 0], 0⟩ (.q 0 (.q 1 (.q 2 (.q 3 (.q 4 (.q 6 (.q 8 (.q 10 (.x 5 (.x 7 (.x 9 (.x 11 (.q 12 (.x 13 (.q 14 .nil) .no)) .no) (.x 11 (.x 9 (.q 12 (.x 13 (.q 14 .nil) .no)) .no) .no)) (.x 9 (.x 7 (.x 11 (.q 12 (.x 13 (.q 14 .nil) .no)) .no) (.x 11 (.x 7 (.q 12 (.x 13 (.q 14 .nil) .no)) .no) .no)) (.x 11 (.x 7 (.x 9 (.q 12 (.x 13 (.q 14 .nil) .no)) .no) (.x 9 (.x 7 (.q 12 (.x 13 (.q 14 .nil) .no)) .no) .no)) .no))) (.x 9 (.x 5 (.x 7 (.x 11 (.q 12 (.x 13 (.q 14 .nil) .no)) .no) (.x 11 (.x 7 (.q 12 (.x 13 (.q 14 .nil) .no)) .no) .no)) (.x 11 (.x 5 (.x 7 (.q 12 (.x 13 (.q 14 .nil) .no)) .no) .no) .no)) (.x 11 (.x 5 (.x 7 (.x 9 (.q 12 (.x 13 (.q 14 .nil) .no)) .no) (.x 9 (.x 7 (.q 12 (.x 13 (.q 14 .nil) .no)) .no) .no)) (.x 9 (.x 5 (.x 7 (.q 12 (.x 13 (.q 14 .nil) .no)) .no) .no) .no)) .no))))))))))) TF.mixed (by kernel_rfl) ⟨f19, f24, trivial⟩ ?_
  refine auT 2 rfl ?_
  refine zq rfl (fun _ hC => sem_nilCheck A14 (congrArg Value.pointer e15) ⟨rfl, rfl⟩) ?_
  refine auT 1 rfl ?_
  refine zq rfl (fun _ hC => sem_load1 (Addr.add A14 3) ((.int .i64 (i18))) rfl TF.agg_3 hC.1 ⟨rfl, rfl⟩) ?_
  refine zq rfl (fun _ hC => sem_loadN ⟨k7, 0, none⟩ [(.int .i64 (i20)), (.int .i64 (i21)), (.int .i64 (i22)), (.int .i64 (i23))] rfl TF.agg_30 TF.sz_30 hC.2.1 ⟨rfl, rfl⟩) ?_
  refine zq rfl (fun _ hC => sem_buildSL [] [(.slice none 0 0), (.slice none 0 0), (.slice none 0 0), (.slice none 0 0)] TF.zero_61 TF.places_61 rfl rfl ⟨rfl, rfl⟩) ?_
  refine zq rfl (fun _ hC => sem_buildSL [] [(.slice none 0 0)] TF.zero_65 TF.places_65 rfl rfl ⟨rfl, rfl⟩) ?_
  refine RunT.joinJ (t := (.q 12 (.x 13 (.q 14 .nil) .no))) (fun e h240 => ∃ p230 : Option Addr, ∃ p231 : Option Addr, ∃ p232 : Option Addr, ∃ p233 : Option Addr, ∃ i234 : Int, ∃ i235 : Int, ∃ i236 : Int, ∃ i237 : Int, ∃ A238 : Addr, ∃ A239 : Addr, Agree [(8, (.pointer p10)), (13, (.pointer p230)), (15, (.agg #[(.pointer p231), (.pointer p232), (.pointer p233), (.int .i64 (i234)), (.int .i64 (i235)), (.int .i64 (i236)), (.int .i64 (i237))])), (17, (.pointer (some A238))), (19, (.pointer (some A239)))] e ∧ cellH B h240 (Addr.add A14 3) = some (.int .i64 (i18)) ∧ CellsAt B h240 ⟨k7, 0, none⟩ 0 [(.int .i64 (i20)), (.int .i64 (i21)), (.int .i64 (i22)), (.int .i64 (i23))] ∧ S_attempt_New_J2 B k7 p10 A14 i18 i20 i21 i22 i23 p230 p231 p232 p233 i234 i235 i236 i237 A238 A239 h240 Q) ?_ fun j229 => ?_
  ·rintro e h240 ⟨p230, p231, p232, p233, i234, i235, i236, i237, A238, A239, hag, g241, g242, s⟩
   refine RunT.env hag ?_; clear hag
   refine zq rfl (fun _ _ => sem_buildSL [(0, (.pointer p10)), (1, (.pointer p230)), (2, (.agg #[(.pointer p231), (.pointer p232), (.pointer p233), (.int .i64 (i234)), (.int .i64 (i235)), (.int .i64 (i236)), (.int .i64 (i237))])), (3, (.pointer (some A238))), (4, (.pointer (some A239)))] [(.pointer p10), (.pointer p230), (.pointer p231), (.pointer p232), (.pointer p233), (.int .i64 (i234)), (.int .i64 (i235)), (.int .i64 (i236)), (.int .i64 (i237)), (.pointer (some A238)), (.pointer (some A239))] TF.zero_67 TF.places_67 rfl rfl ⟨rfl, rfl⟩) ?_
   refine ⟨zo rfl (sem_boxNN [(.pointer p10), (.pointer p230), (.pointer p231), (.pointer p232), (.pointer p233), (.int .i64 (i234)), (.int .i64 (i235)), (.int .i64 (i236)), (.int .i64 (i237)), (.pointer (some A238)), (.pointer (some A239))] rfl (fun k243 hb1 hb2 h244 hb3 => ?_)), trivial⟩
   have s := s k243 hb1 hb2 h244 hb3
   obtain ⟨g245, g246, s⟩ := s
   refine ⟨fun _ => ⟨g245, g246, trivial⟩, ?_⟩
   refine auT 1 rfl ?_
   exact zr (s.imp fun _ q => ⟨_, rfl, q⟩)
  refine ⟨?_, ?_, ?_, trivial⟩
  ·have s := s.1
   refine zo rfl (sem_callL [(.int .i64 (i18))] (TF.goes_18) rfl rfl (Spec.mono s fun v h247 hv => ?_))
   obtain ⟨p248, rfl, s⟩ := hv
   obtain ⟨g249, g250, s⟩ := s
   refine ⟨fun _ => ⟨g249, g250, trivial⟩, ?_⟩
   refine ⟨?_, ?_, ?_, trivial⟩
   ·have s := s.1
    refine zo rfl (sem_callL [(.agg #[(.int .i64 (i20)), (.int .i64 (i21)), (.int .i64 (i22)), (.int .i64 (i23))])] (TF.goes_19) rfl rfl (Spec.mono s fun v h251 hv => ?_))
    obtain ⟨p252, p253, p254, i255, i256, i257, i258, rfl, s⟩ := hv
    obtain ⟨g259, g260, s⟩ := s
    refine ⟨fun _ => ⟨g259, g260, trivial⟩, ?_⟩
    refine ⟨?_, ?_, trivial⟩
    ·have s := s.1
     refine zo rfl (sem_boxNN [(.slice none 0 0), (.slice none 0 0), (.slice none 0 0), (.slice none 0 0)] rfl (fun k261 hb1 hb2 h262 hb3 => ?_))
     have s := s k261 hb1 hb2 h262 hb3
     obtain ⟨g263, g264, s⟩ := s
     refine ⟨fun _ => ⟨g263, g264, trivial⟩, ?_⟩
     refine ⟨zo rfl (sem_boxNN [(.slice none 0 0)] rfl (fun k265 hb1 hb2 h266 hb3 => ?_)), trivial⟩
     have s := s k265 hb1 hb2 h266 hb3
     obtain ⟨g267, g268, s⟩ := s
     refine ⟨fun _ => ⟨g267, g268, trivial⟩, ?_⟩
     exact j229 _ _ ⟨p248, p252, p253, p254, (i255), (i256), (i257), (i258), ⟨k261, 0, none⟩, ⟨k265, 0, none⟩, ⟨rfl, rfl, rfl, rfl, rfl, trivial⟩, g267, g268, s⟩
    ·have s := s.2
     refine zo rfl (sem_boxNN [(.slice none 0 0)] rfl (fun k269 hb1 hb2 h270 hb3 => ?_))
     have s := s k269 hb1 hb2 h270 hb3
     obtain ⟨g271, g272, s⟩ := s
     refine ⟨fun _ => ⟨g271, g272, trivial⟩, ?_⟩
     refine ⟨zo rfl (sem_boxNN [(.slice none 0 0), (.slice none 0 0), (.slice none 0 0), (.slice none 0 0)] rfl (fun k273 hb1 hb2 h274 hb3 => ?_)), trivial⟩
     have s := s k273 hb1 hb2 h274 hb3
     obtain ⟨g275, g276, s⟩ := s
     refine ⟨fun _ => ⟨g275, g276, trivial⟩, ?_⟩
     exact j229 _ _ ⟨p248, p252, p253, p254, (i255), (i256), (i257), (i258), ⟨k273, 0, none⟩, ⟨k269, 0, none⟩, ⟨rfl, rfl, rfl, rfl, rfl, trivial⟩, g275, g276, s⟩
   ·have s := s.2.1
    refine zo rfl (sem_boxNN [(.slice none 0 0), (.slice none 0 0), (.slice none 0 0), (.slice none 0 0)] rfl (fun k277 hb1 hb2 h278 hb3 => ?_))
    have s := s k277 hb1 hb2 h278 hb3
    obtain ⟨g279, g280, s⟩ := s
    refine ⟨fun _ => ⟨g279, g280, trivial⟩, ?_⟩
    refine ⟨?_, ?_, trivial⟩
    ·have s := s.1
     refine zo rfl (sem_callL [(.agg #[(.int .i64 (i20)), (.int .i64 (i21)), (.int .i64 (i22)), (.int .i64 (i23))])] (TF.goes_19) rfl rfl (Spec.mono s fun v h281 hv => ?_))
     obtain ⟨p282, p283, p284, i285, i286, i287, i288, rfl, s⟩ := hv
     obtain ⟨g289, g290, s⟩ := s
     refine ⟨fun _ => ⟨g289, g290, trivial⟩, ?_⟩
     refine ⟨zo rfl (sem_boxNN [(.slice none 0 0)] rfl (fun k291 hb1 hb2 h292 hb3 => ?_)), trivial⟩
     have s := s k291 hb1 hb2 h292 hb3
     obtain ⟨g293, g294, s⟩ := s
     refine ⟨fun _ => ⟨g293, g294, trivial⟩, ?_⟩
     exact j229 _ _ ⟨p248, p282, p283, p284, (i285), (i286), (i287), (i288), ⟨k277, 0, none⟩, ⟨k291, 0, none⟩, ⟨rfl, rfl, rfl, rfl, rfl, trivial⟩, g293, g294, s⟩
    ·have s := s.2
     refine zo rfl (sem_boxNN [(.slice none 0 0)] rfl (fun k295 hb1 hb2 h296 hb3 => ?_))
     have s := s k295 hb1 hb2 h296 hb3
     obtain ⟨g297, g298, s⟩ := s
     refine ⟨fun _ => ⟨g297, g298, trivial⟩, ?_⟩
     refine ⟨zo rfl (sem_callL [(.agg #[(.int .i64 (i20)), (.int .i64 (i21)), (.int .i64 (i22)), (.int .i64 (i23))])] (TF.goes_19) rfl rfl (Spec.mono s fun v h299 hv => ?_)), trivial⟩
     obtain ⟨p300, p301, p302, i303, i304, i305, i306, rfl, s⟩ := hv
     obtain ⟨g307, g308, s⟩ := s
     refine ⟨fun _ => ⟨g307, g308, trivial⟩, ?_⟩
     exact j229 _ _ ⟨p248, p300, p301, p302, (i303), (i304), (i305), (i306), ⟨k277, 0, none⟩, ⟨k295, 0, none⟩, ⟨rfl, rfl, rfl, rfl, rfl, trivial⟩, g307, g308, s⟩
   ·have s := s.2.2
    refine zo rfl (sem_boxNN [(.slice none 0 0)] rfl (fun k309 hb1 hb2 h310 hb3 => ?_))
    have s := s k309 hb1 hb2 h310 hb3
    obtain ⟨g311, g312, s⟩ := s
    refine ⟨fun _ => ⟨g311, g312, trivial⟩, ?_⟩
    refine ⟨?_, ?_, trivial⟩
    ·have s := s.1
     refine zo rfl (sem_callL [(.agg #[(.int .i64 (i20)), (.int .i64 (i21)), (.int .i64 (i22)), (.int .i64 (i23))])] (TF.goes_19) rfl rfl (Spec.mono s fun v h313 hv => ?_))
     obtain ⟨p314, p315, p316, i317, i318, i319, i320, rfl, s⟩ := hv
     obtain ⟨g321, g322, s⟩ := s
     refine ⟨fun _ => ⟨g321, g322, trivial⟩, ?_⟩
     refine ⟨zo rfl (sem_boxNN [(.slice none 0 0), (.slice none 0 0), (.slice none 0 0), (.slice none 0 0)] rfl (fun k323 hb1 hb2 h324 hb3 => ?_)), trivial⟩
     have s := s k323 hb1 hb2 h324 hb3
     obtain ⟨g325, g326, s⟩ := s
     refine ⟨fun _ => ⟨g325, g326, trivial⟩, ?_⟩
     exact j229 _ _ ⟨p248, p314, p315, p316, (i317), (i318), (i319), (i320), ⟨k323, 0, none⟩, ⟨k309, 0, none⟩, ⟨rfl, rfl, rfl, rfl, rfl, trivial⟩, g325, g326, s⟩
    ·have s := s.2
     refine zo rfl (sem_boxNN [(.slice none 0 0), (.slice none 0 0), (.slice none 0 0), (.slice none 0 0)] rfl (fun k327 hb1 hb2 h328 hb3 => ?_))
     have s := s k327 hb1 hb2 h328 hb3
     obtain ⟨g329, g330, s⟩ := s
     refine ⟨fun _ => ⟨g329, g330, trivial⟩, ?_⟩
     refine ⟨zo rfl (sem_callL [(.agg #[(.int .i64 (i20)), (.int .i64 (i21)), (.int .i64 (i22)), (.int .i64 (i23))])] (TF.goes_19) rfl rfl (Spec.mono s fun v h331 hv => ?_)), trivial⟩
     obtain ⟨p332, p333, p334, i335, i336, i337, i338, rfl, s⟩ := hv
     obtain ⟨g339, g340, s⟩ := s
     refine ⟨fun _ => ⟨g339, g340, trivial⟩, ?_⟩
     exact j229 _ _ ⟨p248, p332, p333, p334, (i335), (i336), (i337), (i338), ⟨k327, 0, none⟩, ⟨k309, 0, none⟩, ⟨rfl, rfl, rfl, rfl, rfl, trivial⟩, g339, g340, s⟩
  ·have s := s.2.1
   refine zo rfl (sem_boxNN [(.slice none 0 0), (.slice none 0 0), (.slice none 0 0), (.slice none 0 0)] rfl (fun k341 hb1 hb2 h342 hb3 => ?_))
   have s := s k341 hb1 hb2 h342 hb3
   obtain ⟨g343, g344, s⟩ := s
   refine ⟨fun _ => ⟨g343, g344, trivial⟩, ?_⟩
   refine ⟨?_, ?_, trivial⟩
   ·have s := s.1
    refine zo rfl (sem_callL [(.int .i64 (i18))] (TF.goes_18) rfl rfl (Spec.mono s fun v h345 hv => ?_))
    obtain ⟨p346, rfl, s⟩ := hv
    obtain ⟨g347, g348, s⟩ := s
    refine ⟨fun _ => ⟨g347, g348, trivial⟩, ?_⟩
    refine ⟨?_, ?_, trivial⟩
    ·have s := s.1
     refine zo rfl (sem_callL [(.agg #[(.int .i64 (i20)), (.int .i64 (i21)), (.int .i64 (i22)), (.int .i64 (i23))])] (TF.goes_19) rfl rfl (Spec.mono s fun v h349 hv => ?_))
     obtain ⟨p350, p351, p352, i353, i354, i355, i356, rfl, s⟩ := hv
     obtain ⟨g357, g358, s⟩ := s
     refine ⟨fun _ => ⟨g357, g358, trivial⟩, ?_⟩
     refine ⟨zo rfl (sem_boxNN [(.slice none 0 0)] rfl (fun k359 hb1 hb2 h360 hb3 => ?_)), trivial⟩
     have s := s k359 hb1 hb2 h360 hb3
     obtain ⟨g361, g362, s⟩ := s
     refine ⟨fun _ => ⟨g361, g362, trivial⟩, ?_⟩
     exact j229 _ _ ⟨p346, p350, p351, p352, (i353), (i354), (i355), (i356), ⟨k341, 0, none⟩, ⟨k359, 0, none⟩, ⟨rfl, rfl, rfl, rfl, rfl, trivial⟩, g361, g362, s⟩
    ·have s := s.2
     refine zo rfl (sem_boxNN [(.slice none 0 0)] rfl (fun k363 hb1 hb2 h364 hb3 => ?_))
     have s := s k363 hb1 hb2 h364 hb3
     obtain ⟨g365, g366, s⟩ := s
     refine ⟨fun _ => ⟨g365, g366, trivial⟩, ?_⟩
     refine ⟨zo rfl (sem_callL [(.agg #[(.int .i64 (i20)), (.int .i64 (i21)), (.int .i64 (i22)), (.int .i64 (i23))])] (TF.goes_19) rfl rfl (Spec.mono s fun v h367 hv => ?_)), trivial⟩
     obtain ⟨p368, p369, p370, i371, i372, i373, i374, rfl, s⟩ := hv
     obtain ⟨g375, g376, s⟩ := s
     refine ⟨fun _ => ⟨g375, g376, trivial⟩, ?_⟩
     exact j229 _ _ ⟨p346, p368, p369, p370, (i371), (i372), (i373), (i374), ⟨k341, 0, none⟩, ⟨k363, 0, none⟩, ⟨rfl, rfl, rfl, rfl, rfl, trivial⟩, g375, g376, s⟩
   ·have s := s.2
    refine zo rfl (sem_boxNN [(.slice none 0 0)] rfl (fun k377 hb1 hb2 h378 hb3 => ?_))
    have s := s k377 hb1 hb2 h378 hb3
    obtain ⟨g379, g380, s⟩ := s
    refine ⟨fun _ => ⟨g379, g380, trivial⟩, ?_⟩
    refine ⟨zo rfl (sem_callL [(.int .i64 (i18))] (TF.goes_18) rfl rfl (Spec.mono s fun v h381 hv => ?_)), trivial⟩
    obtain ⟨p382, rfl, s⟩ := hv
    obtain ⟨g383, g384, s⟩ := s
    refine ⟨fun _ => ⟨g383, g384, trivial⟩, ?_⟩
    refine ⟨zo rfl (sem_callL [(.agg #[(.int .i64 (i20)), (.int .i64 (i21)), (.int .i64 (i22)), (.int .i64 (i23))])] (TF.goes_19) rfl rfl (Spec.mono s fun v h385 hv => ?_)), trivial⟩
    obtain ⟨p386, p387, p388, i389, i390, i391, i392, rfl, s⟩ := hv
    obtain ⟨g393, g394, s⟩ := s
    refine ⟨fun _ => ⟨g393, g394, trivial⟩, ?_⟩
    exact j229 _ _ ⟨p382, p386, p387, p388, (i389), (i390), (i391), (i392), ⟨k341, 0, none⟩, ⟨k377, 0, none⟩, ⟨rfl, rfl, rfl, rfl, rfl, trivial⟩, g393, g394, s⟩
  ·have s := s.2.2
   refine zo rfl (sem_boxNN [(.slice none 0 0)] rfl (fun k395 hb1 hb2 h396 hb3 => ?_))
   have s := s k395 hb1 hb2 h396 hb3
   obtain ⟨g397, g398, s⟩ := s
   refine ⟨fun _ => ⟨g397, g398, trivial⟩, ?_⟩
   refine ⟨?_, ?_, trivial⟩
   ·have s := s.1
    refine zo rfl (sem_callL [(.int .i64 (i18))] (TF.goes_18) rfl rfl (Spec.mono s fun v h399 hv => ?_))
    obtain ⟨p400, rfl, s⟩ := hv
    obtain ⟨g401, g402, s⟩ := s
    refine ⟨fun _ => ⟨g401, g402, trivial⟩, ?_⟩
    refine ⟨?_, ?_, trivial⟩
    ·have s := s.1
     refine zo rfl (sem_callL [(.agg #[(.int .i64 (i20)), (.int .i64 (i21)), (.int .i64 (i22)), (.int .i64 (i23))])] (TF.goes_19) rfl rfl (Spec.mono s fun v h403 hv => ?_))
     obtain ⟨p404, p405, p406, i407, i408, i409, i410, rfl, s⟩ := hv
     obtain ⟨g411, g412, s⟩ := s
     refine ⟨fun _ => ⟨g411, g412, trivial⟩, ?_⟩
     refine ⟨zo rfl (sem_boxNN [(.slice none 0 0), (.slice none 0 0), (.slice none 0 0), (.slice none 0 0)] rfl (fun k413 hb1 hb2 h414 hb3 => ?_)), trivial⟩
     have s := s k413 hb1 hb2 h414 hb3
     obtain ⟨g415, g416, s⟩ := s
     refine ⟨fun _ => ⟨g415, g416, trivial⟩, ?_⟩
     exact j229 _ _ ⟨p400, p404, p405, p406, (i407), (i408), (i409), (i410), ⟨k413, 0, none⟩, ⟨k395, 0, none⟩, ⟨rfl, rfl, rfl, rfl, rfl, trivial⟩, g415, g416, s⟩
    ·have s := s.2
     refine zo rfl (sem_boxNN [(.slice none 0 0), (.slice none 0 0), (.slice none 0 0), (.slice none 0 0)] rfl (fun k417 hb1 hb2 h418 hb3 => ?_))
     have s := s k417 hb1 hb2 h418 hb3
     obtain ⟨g419, g420, s⟩ := s
     refine ⟨fun _ => ⟨g419, g420, trivial⟩, ?_⟩
     refine ⟨zo rfl (sem_callL [(.agg #[(.int .i64 (i20)), (.int .i64 (i21)), (.int .i64 (i22)), (.int .i64 (i23))])] (TF.goes_19) rfl rfl (Spec.mono s fun v h421 hv => ?_)), trivial⟩
     obtain ⟨p422, p423, p424, i425, i426, i427, i428, rfl, s⟩ := hv
     obtain ⟨g429, g430, s⟩ := s
     refine ⟨fun _ => ⟨g429, g430, trivial⟩, ?_⟩
     exact j229 _ _ ⟨p400, p422, p423, p424, (i425), (i426), (i427), (i428), ⟨k417, 0, none⟩, ⟨k395, 0, none⟩, ⟨rfl, rfl, rfl, rfl, rfl, trivial⟩, g429, g430, s⟩
   ·have s := s.2
    refine zo rfl (sem_boxNN [(.slice none 0 0), (.slice none 0 0), (.slice none 0 0), (.slice none 0 0)] rfl (fun k431 hb1 hb2 h432 hb3 => ?_))
    have s := s k431 hb1 hb2 h432 hb3
    obtain ⟨g433, g434, s⟩ := s
    refine ⟨fun _ => ⟨g433, g434, trivial⟩, ?_⟩
    refine ⟨zo rfl (sem_callL [(.int .i64 (i18))] (TF.goes_18) rfl rfl (Spec.mono s fun v h435 hv => ?_)), trivial⟩
    obtain ⟨p436, rfl, s⟩ := hv
    obtain ⟨g437, g438, s⟩ := s
    refine ⟨fun _ => ⟨g437, g438, trivial⟩, ?_⟩
    refine ⟨zo rfl (sem_callL [(.agg #[(.int .i64 (i20)), (.int .i64 (i21)), (.int .i64 (i22)), (.int .i64 (i23))])] (TF.goes_19) rfl rfl (Spec.mono s fun v h439 hv => ?_)), trivial⟩
    obtain ⟨p440, p441, p442, i443, i444, i445, i446, rfl, s⟩ := hv
    obtain ⟨g447, g448, s⟩ := s
    refine ⟨fun _ => ⟨g447, g448, trivial⟩, ?_⟩
    exact j229 _ _ ⟨p436, p440, p441, p442, (i443), (i444), (i445), (i446), ⟨k431, 0, none⟩, ⟨k395, 0, none⟩, ⟨rfl, rfl, rfl, rfl, rfl, trivial⟩, g447, g448, s⟩
 refine au 3 rfl ?_
 by_cases hb449 : p1 = none
 ·replace s := s.1 hb449
  refine zg rfl (sem_ptrNilT p1 (.inl rfl) true rfl rfl TF.ptr_24 hb449 rfl ?_)
  refine au 3 rfl ?_
  refine zcall s rfl rfl TF.goes_6 ?_
  rintro _ h450 ⟨p451, rfl, s⟩
  refine au 2 rfl ?_
  exact Run.of_fin (s.imp fun h' s => j9 _ _ ⟨p451, ⟨rfl, rfl, trivial⟩, s⟩)
 ·replace s := s.2 hb449
  refine zg rfl (sem_ptrNilF p1 (.inl rfl) false rfl rfl TF.ptr_24 hb449 rfl ?_)
  refine au 3 rfl ?_
  exact Run.of_fin (s.imp fun h' s => j9 _ _ ⟨p1, ⟨rfl, rfl, trivial⟩, s⟩)
theorem C_attempt_Attempt_Store.of {B : RO} {p1 : Option Addr} {i2 : Int} {i3 : Int} {h : Heap} {Q : Int → Heap → Prop} (s : S_attempt_Attempt_Store B p1 i2 i3 h Q) : C_attempt_Attempt_Store B p1 i2 i3 h Q := by
 refine zspec Try.func8 [ResultVar.tmp 6] rfl rfl rfl rfl rfl ?_
 refine au 4 rfl ?_
 refine Run.seqJ (fun e h6 => Agree [(0, (.pointer p1)), (1, (.int .i64 (i2))), (2, (.int .i64 (i3)))] e ∧ S_attempt_Attempt_Store_J1 B p1 i2 i3 h6 Q) ?_ fun j5 => ?_
 ·rintro e h6 ⟨hag, s⟩
  refine Run.env hag ?_; clear hag
  refine au 3 rfl ?_
  refine znil s rfl rfl fun A7 s => ?_
  refine au 2 rfl ?_
  refine zl s rfl rfl TF.agg_51 fun p9 s => ?_
  refine au 2 rfl ?_
  refine zcall s rfl rfl TF.goes_20 ?_
  rintro _ h10 ⟨b11, rfl, s⟩
  refine au 5 rfl ?_
  exact zr (s.imp fun _ q => ⟨_, rfl, q⟩)
 refine au 4 rfl ?_
 by_cases hb12 : p1 = none
 ·replace s := s.1 hb12
  refine zg rfl (sem_ptrNilT p1 (.inl rfl) true rfl rfl TF.ptr_27 hb12 rfl ?_)
  refine au 7 rfl ?_
  exact zr (s.imp fun _ q => ⟨_, rfl, q⟩)
 ·replace s := s.2 hb12
  refine zg rfl (sem_ptrNilF p1 (.inl rfl) false rfl rfl TF.ptr_27 hb12 rfl ?_)
  refine au 6 rfl ?_
  refine zt s rfl rfl rfl binI_lss_t binI_lss_f (fun s => ?_) fun s => ?_
  ·refine au 11 rfl ?_
   exact zr (s.imp fun _ q => ⟨_, rfl, q⟩)
  ·refine au 2 rfl ?_
   refine zt s rfl rfl rfl binI_geq_t binI_geq_f (fun s => ?_) fun s => ?_
   ·refine au 8 rfl ?_
    exact zr (s.imp fun _ q => ⟨_, rfl, q⟩)
   ·refine au 6 rfl ?_
    exact Run.of_fin (s.imp fun h' s => j5 _ _ ⟨⟨rfl, rfl, rfl, trivial⟩, s⟩)
theorem C_attempt_Attempt_Land.of {B : RO} {p1 : Option Addr} {h : Heap} {Q : Bool → Heap → Prop} (s : S_attempt_Attempt_Land B p1 h Q) : C_attempt_Attempt_Land B p1 h Q := by
 refine zspec Try.func9 [ResultVar.tmp 2] rfl rfl rfl rfl rfl ?_
 refine au 8 rfl ?_
 refine zcall s rfl rfl TF.goes_21 ?_
 rintro _ h3 ⟨b4, rfl, s⟩
 cases b4
 ·replace s := s.2 rfl
  refine au 7 rfl ?_
  exact zr (s.imp fun _ q => ⟨_, rfl, q⟩)
 ·replace s := s.1 rfl
  refine au 7 rfl ?_
  refine znil s rfl rfl fun A5 s => ?_
  refine au 1 rfl ?_
  refine zl s rfl rfl TF.agg_24 fun p7 s => ?_
  refine zal s rfl TF.zero_24 rfl fun k8 h9 s => ?_
  refine zs1 s rfl rfl rfl rfl TF.sz_24 fun h10 s => ?_
  refine au 3 rfl ?_
  refine zl s rfl rfl TF.agg_24 fun p11 s => ?_
  refine znil s rfl rfl fun A12 s => ?_
  refine au 1 rfl ?_
  refine zl s rfl rfl TF.agg_3 fun i14 s => ?_
  refine au 1 rfl ?_
  refine znil s rfl rfl fun A15 s => ?_
  refine au 1 rfl ?_
  refine zs1 s rfl rfl rfl rfl TF.sz_3 fun h17 s => ?_
  refine au 1 rfl ?_
  refine Run.seqJ (fun e h19 => Agree [(0, (.pointer p1)), (3, (.pointer (some ⟨k8, 0, none⟩)))] e ∧ S_attempt_Attempt_Land_J1 B p1 k8 h19 Q) ?_ fun j18 => ?_
  ·rintro e h19 ⟨hag, s⟩
   refine Run.env hag ?_; clear hag
   refine au 1 rfl ?_
   refine Run.drawM (fun h' => h' = h19) [13] ⟨[0, 1, 2, 4, 8, 0, 32, 64, 128, 0, 512, 1024, 2048, 4368], [16383, 16382, 16381, 16379, 16375, 16383, 16351, 16319, 16255, 16383, 15871, 15359, 14335, 12015], [0, 1, 3, 7, 15, 0, 32, 96, 224, 0, 512, 1536, 3584, 8191], 8192⟩ (.q 0 (.q 1 (.q 2 (.q 3 (.q 4 (.q 5 (.q 6 (.q 7 (.q 8 (.q 9 (.q 10 (.q 11 (.q 12 (.x 13 .nil .no)))))))))))))) TF.mixed (by kernel_rfl) rfl ?_
   refine auT 1 rfl ?_
   obtain ⟨A20, e21, s⟩ := s
   refine zqe rfl (sem_nilCheck A20 (congrArg Value.pointer e21) ⟨rfl, rfl⟩) ?_
   refine auT 2 rfl ?_
   obtain ⟨p22, hl, s⟩ := s
   refine zqe rfl (sem_load1 (Addr.add (Addr.add A20 2) 1) ((.pointer p22)) rfl TF.agg_52 hl ⟨rfl, rfl⟩) ?_
   obtain ⟨p23, hl, s⟩ := s
   refine zqe rfl (sem_load1 ⟨k8, 0, none⟩ ((.pointer p23)) rfl TF.agg_24 hl ⟨rfl, rfl⟩) ?_
   obtain ⟨A24, e25, s⟩ := s
   refine zqe rfl (sem_nilCheck A24 (congrArg Value.pointer e25) ⟨rfl, rfl⟩) ?_
   refine auT 1 rfl ?_
   obtain ⟨p26, hl, s⟩ := s
   refine zqe rfl (sem_load1 (Addr.add A24 1) ((.pointer p26)) rfl TF.agg_34 hl ⟨rfl, rfl⟩) ?_
   obtain ⟨p27, hl, s⟩ := s
   refine zqe rfl (sem_load1 ⟨k8, 0, none⟩ ((.pointer p27)) rfl TF.agg_24 hl ⟨rfl, rfl⟩) ?_
   obtain ⟨A28, e29, s⟩ := s
   refine zqe rfl (sem_nilCheck A28 (congrArg Value.pointer e29) ⟨rfl, rfl⟩) ?_
   refine auT 1 rfl ?_
   obtain ⟨i30, hl, s⟩ := s
   refine zqe rfl (sem_load1 (Addr.add A28 3) ((.int .i64 (i30))) rfl TF.agg_3 hl ⟨rfl, rfl⟩) ?_
   refine ⟨zo rfl (sem_callL [(.pointer p22), (.pointer p26), (.int .i64 (i30))] (TF.goes_24) rfl rfl (Spec.mono s fun v h31 hv => ?_)), trivial⟩
   obtain ⟨i32, rfl, s⟩ := hv
   refine ⟨fun hz => Bool.noConfusion hz, ?_⟩
   refine au 6 rfl ?_
   obtain ⟨J38, m36, h0, s⟩ := s
   refine Run.of_fin (h0.imp fun h' h0 => ?_)
   refine Run.loop (σ := Int × Nat) (fun x e h => J38 x.1 x.2 h ∧ Agree [(0, (.pointer p1)), (3, (.pointer (some ⟨k8, 0, none⟩))), (57, (.int .i64 (x.1)))] e) (fun x => x.2) ((0), m36) ⟨h0, ⟨rfl, rfl, rfl, trivial⟩⟩ ?_; clear h0
   rintro ⟨i33, m35⟩ e h34 ⟨hJ, hag⟩ ih37
   have s := s i33 m35 h34 hJ; clear hJ
   refine Run.env hag ?_; clear hag
   refine au 2 rfl ?_
   refine zt s rfl rfl rfl binI_lss_t binI_lss_f (fun s => ?_) fun s => ?_
   ·refine au 14 rfl ?_
    refine znil s rfl rfl fun A39 s => ?_
    refine au 2 rfl ?_
    refine zl s rfl rfl TF.agg_53 fun p41 s => ?_
    refine au 1 rfl ?_
    refine zcall s rfl rfl TF.goes_25 ?_
    rintro _ h42 ⟨i43, rfl, s⟩
    refine au 5 rfl ?_
    refine zt s rfl rfl rfl binI_gtr_t binI_gtr_f (fun s => ?_) fun s => ?_
    ·refine au 4 rfl ?_
     refine zl s rfl rfl TF.agg_24 fun p44 s => ?_
     refine znil s rfl rfl fun A45 s => ?_
     refine au 1 rfl ?_
     refine zl s rfl rfl TF.agg_35 fun p47 s => ?_
     refine au 1 rfl ?_
     refine zcall s rfl rfl TF.goes_26 ?_
     rintro _ h48 ⟨i49, i50, rfl, s⟩
     refine au 6 rfl ?_
     refine Run.drawM (fun h' => h' = h48) [12] ⟨[0, 1, 2, 4, 0, 0, 0, 96, 0, 256, 512, 1024, 2200], [8191, 8190, 8189, 8187, 8191, 8191, 8191, 8095, 8191, 7935, 7679, 7167, 5991], [0, 1, 3, 7, 0, 0, 0, 96, 0, 256, 768, 1792, 4095], 4096⟩ (.q 0 (.q 1 (.q 2 (.q 3 (.q 4 (.q 5 (.q 6 (.q 7 (.q 8 (.q 9 (.q 10 (.q 11 (.x 12 .nil .no))))))))))))) TF.mixed (by kernel_rfl) rfl ?_
     obtain ⟨p51, hl, s⟩ := s
     refine zqe rfl (sem_load1 ⟨k8, 0, none⟩ ((.pointer p51)) rfl TF.agg_24 hl ⟨rfl, rfl⟩) ?_
     obtain ⟨A52, e53, s⟩ := s
     refine zqe rfl (sem_nilCheck A52 (congrArg Value.pointer e53) ⟨rfl, rfl⟩) ?_
     refine auT 1 rfl ?_
     obtain ⟨p54, hl, s⟩ := s
     refine zqe rfl (sem_load1 (Addr.add A52 2) ((.pointer p54)) rfl TF.agg_35 hl ⟨rfl, rfl⟩) ?_
     refine auT 4 rfl ?_
     obtain ⟨p55, hl, s⟩ := s
     refine zqe rfl (sem_load1 ⟨k8, 0, none⟩ ((.pointer p55)) rfl TF.agg_24 hl ⟨rfl, rfl⟩) ?_
     obtain ⟨A56, e57, s⟩ := s
     refine zqe rfl (sem_nilCheck A56 (congrArg Value.pointer e57) ⟨rfl, rfl⟩) ?_
     refine auT 1 rfl ?_
     obtain ⟨i58, hl, s⟩ := s
     refine zqe rfl (sem_load1 (Addr.add A56 3) ((.int .i64 (i58))) rfl TF.agg_3 hl ⟨rfl, rfl⟩) ?_
     refine ⟨zo rfl (sem_callL [(.pointer p54), (.int .i64 (i33)), (.int .i64 (IntKind.wrap .i64 ((i49) + (i43)))), (.int .i64 (i58))] (TF.goes_27) rfl rfl (Spec.mono s fun v h59 hv => ?_)), trivial⟩
     obtain ⟨b60, rfl, s⟩ := hv
     refine ⟨fun hz => Bool.noConfusion hz, ?_⟩
     refine au 5 rfl ?_
     exact Run.of_fin (s.imp fun h' ⟨m', hm, s⟩ => ih37 ((IntKind.wrap .i64 ((i33) + (1))), m') _ _ ⟨s, ⟨rfl, rfl, rfl, trivial⟩⟩ hm)
    ·refine au 8 rfl ?_
     exact Run.of_fin (s.imp fun h' ⟨m', hm, s⟩ => ih37 ((IntKind.wrap .i64 ((i33) + (1))), m') _ _ ⟨s, ⟨rfl, rfl, rfl, trivial⟩⟩ hm)
   ·refine au 8 rfl ?_
    exact zr (s.imp fun _ q => ⟨_, rfl, q⟩)
  refine au 3 rfl ?_
  refine znil s rfl rfl fun A61 s => ?_
  refine au 2 rfl ?_
  refine zl s rfl rfl TF.agg_51 fun p63 s => ?_
  refine zcall s rfl rfl TF.goes_22 ?_
  rintro v65 h64 ⟨_, rfl, s⟩
  refine au 2 rfl ?_
  obtain ⟨xs72, G68, J71, hit, hins, hG, h0, s, hR⟩ := s
  refine Run.of_fin (h0.imp fun h' h0 => ?_)
  refine Run.range (v65) (xs72.map (fun x : Int × Int => [(.int .i64 (x.1)), (.int .i64 (x.2))])) G68 J71 rfl hit hins hG h0 rfl (fun a ha => by obtain ⟨x, _, rfl⟩ := List.mem_map.1 ha; rfl) ?_ ?_
  ·rintro q70 args h69 ha hJ
   obtain ⟨⟨i66, i67⟩, hx, rfl⟩ := Option.map_eq_some_iff.1 ((List.getElem?_map ..).symm.trans ha)
   have s := s q70 h69 i66 i67 hx hJ; clear hJ hx ha
   refine zput rfl ?_
   refine au 7 rfl ?_
   refine Run.begin ⟨rfl, ?_⟩
   refine au 1 rfl ?_
   refine Run.drawM (fun h' => h' = h69) [10] ⟨[0, 1, 2, 4, 0, 0, 0, 64, 128, 256, 568], [2047, 2046, 2045, 2043, 2047, 2047, 2047, 1983, 1919, 1791, 1479], [0, 1, 3, 7, 0, 0, 0, 64, 192, 448, 1023], 1024⟩ (.q 0 (.q 1 (.q 2 (.q 3 (.q 4 (.q 5 (.q 6 (.q 7 (.q 8 (.q 9 (.x 10 .nil .no))))))))))) TF.mixed (by kernel_rfl) rfl ?_
   obtain ⟨p73, hl, s⟩ := s
   refine zqe rfl (sem_load1 ⟨k8, 0, none⟩ ((.pointer p73)) rfl TF.agg_24 hl ⟨rfl, rfl⟩) ?_
   obtain ⟨A74, e75, s⟩ := s
   refine zqe rfl (sem_nilCheck A74 (congrArg Value.pointer e75) ⟨rfl, rfl⟩) ?_
   refine auT 1 rfl ?_
   obtain ⟨p76, hl, s⟩ := s
   refine zqe rfl (sem_load1 A74 ((.pointer p76)) rfl TF.agg_33 hl ⟨rfl, rfl⟩) ?_
   refine auT 2 rfl ?_
   obtain ⟨p77, hl, s⟩ := s
   refine zqe rfl (sem_load1 ⟨k8, 0, none⟩ ((.pointer p77)) rfl TF.agg_24 hl ⟨rfl, rfl⟩) ?_
   obtain ⟨A78, e79, s⟩ := s
   refine zqe rfl (sem_nilCheck A78 (congrArg Value.pointer e79) ⟨rfl, rfl⟩) ?_
   refine auT 1 rfl ?_
   obtain ⟨i80, hl, s⟩ := s
   refine zqe rfl (sem_load1 (Addr.add A78 3) ((.int .i64 (i80))) rfl TF.agg_3 hl ⟨rfl, rfl⟩) ?_
   refine ⟨zo rfl (sem_callL [(.pointer p76), (.int .i64 (i66)), (.int .i64 (i67)), (.int .i64 (i80))] (TF.goes_23) rfl rfl (Spec.mono s fun v h81 hv => ?_)), trivial⟩
   obtain ⟨b82, rfl, s⟩ := hv
   refine ⟨fun hz => Bool.noConfusion hz, ?_⟩
   refine au 1 rfl ?_
   refine Run.of_fin (s.imp fun h' s => ?_)
   exact Run.fall (.inl ⟨rfl, s⟩)
  ·intro h69 hJ
   have s := hR h69 (by simpa using hJ); clear hJ hR
   refine au 1 rfl ?_
   exact Run.of_fin (s.imp fun h' s => j18 _ _ ⟨⟨rfl, rfl, trivial⟩, s⟩)
theorem C_cell_Row_int_Get.of {B : RO} {p1 : Option Addr} {i2 : Int} {h : Heap} {Q : Int → Int → Heap → Prop} (s : S_cell_Row_int_Get B p1 i2 h Q) : C_cell_Row_int_Get B p1 i2 h Q := by
 refine zspec Try.func10 [ResultVar.tmp 4, ResultVar.tmp 5] rfl rfl rfl rfl rfl ?_
 refine au 10 rfl ?_
 refine zcall s rfl rfl TF.goes_28 ?_
 rintro _ h5 ⟨b6, rfl, s⟩
 cases b6
 ·replace s := s.2 rfl
  refine au 13 rfl ?_
  exact zr (s.imp fun _ q => ⟨_, _, rfl, q⟩)
 ·replace s := s.1 rfl
  refine au 5 rfl ?_
  refine Run.drawM (fun h' => h' = h5) [] ⟨[0, 1, 2, 4, 0, 24, 32, 64, 0, 256, 512, 1024, 0, 6144, 8192, 16384, 255, 131071], [262143, 262142, 262141, 262139, 262143, 262119, 262111, 262079, 262143, 261887, 261631, 261119, 262143, 255999, 253951, 245759, 262015, 229375], [0, 0, 0, 0, 0, 0, 0, 0, 0, 0, 0, 0, 0, 0, 0, 0, 0, 0], 0⟩ (.q 0 (.q 1 (.q 2 (.q 3 (.q 4 (.q 5 (.q 6 (.q 7 (.q 8 (.q 9 (.q 10 (.q 11 (.q 12 (.q 13 (.q 14 (.q 15 (.q 16 (.q 17 .nil)))))))))))))))))) TF.mixed (by kernel_rfl) rfl ?_
  refine auT 1 rfl ?_
  obtain ⟨A7, e8, s⟩ := s
  refine zqe rfl (sem_nilCheck A7 (congrArg Value.pointer e8) ⟨rfl, rfl⟩) ?_
  refine auT 1 rfl ?_
  obtain ⟨a9, n10, c11, hl, s⟩ := s
  refine zqe rfl (sem_load1 A7 ((.slice a9 n10 c11)) rfl TF.agg_78 hl ⟨rfl, rfl⟩) ?_
  refine auT 1 rfl ?_
  obtain ⟨A12, e13, hi0, hi1, s⟩ := s
  refine zqe rfl (sem_indexAddrS A12 n10 c11 .i64 (i2) (congrArg (fun a => Value.slice a n10 c11) e13) rfl TF.slc_78 hi0 hi1 ⟨rfl, rfl⟩) ?_
  refine auT 1 rfl ?_
  obtain ⟨i14, hl, s⟩ := s
  refine zqe rfl (sem_load1 (Addr.add A12 (Int.toNat (i2) * 2)) ((.int .i64 (i14))) rfl TF.agg_3 hl ⟨rfl, rfl⟩) ?_
  refine auT 1 rfl ?_
  obtain ⟨A15, e16, s⟩ := s
  refine zqe rfl (sem_nilCheck A15 (congrArg Value.pointer e16) ⟨rfl, rfl⟩) ?_
  refine auT 1 rfl ?_
  obtain ⟨a17, n18, c19, hl, s⟩ := s
  refine zqe rfl (sem_load1 A15 ((.slice a17 n18 c19)) rfl TF.agg_78 hl ⟨rfl, rfl⟩) ?_
  refine auT 1 rfl ?_
  obtain ⟨A20, e21, hi0, hi1, s⟩ := s
  refine zqe rfl (sem_indexAddrS A20 n18 c19 .i64 (i2) (congrArg (fun a => Value.slice a n18 c19) e21) rfl TF.slc_78 hi0 hi1 ⟨rfl, rfl⟩) ?_
  refine auT 1 rfl ?_
  obtain ⟨i22, hl, s⟩ := s
  refine zqe rfl (sem_load1 (Addr.add (Addr.add A20 (Int.toNat (i2) * 2)) 1) ((.int .i64 (i22))) rfl TF.agg_3 hl ⟨rfl, rfl⟩) ?_
  refine auT 2 rfl ?_
  exact zr (s.imp fun _ q => ⟨_, _, rfl, q⟩)
theorem C_attempt_Attempt_Load.of {B : RO} {p1 : Option Addr} {i2 : Int} {h : Heap} {Q : Int → Int → Heap → Prop} (s : S_attempt_Attempt_Load B p1 i2 h Q) : C_attempt_Attempt_Load B p1 i2 h Q := by
 refine zspec Try.func14 [ResultVar.tmp 4, ResultVar.tmp 5] rfl rfl rfl rfl rfl ?_
 refine au 5 rfl ?_
 refine Run.seqJ (fun e h6 => Agree [(0, (.pointer p1)), (1, (.int .i64 (i2)))] e ∧ S_attempt_Attempt_Load_J1 B p1 i2 h6 Q) ?_ fun j5 => ?_
 ·rintro e h6 ⟨hag, s⟩
  refine Run.env hag ?_; clear hag
  refine au 4 rfl ?_
  refine znil s rfl rfl fun A7 s => ?_
  refine au 2 rfl ?_
  refine zl s rfl rfl TF.agg_51 fun p9 s => ?_
  refine au 1 rfl ?_
  refine zcall s rfl rfl TF.goes_35 ?_
  rintro _ h10 ⟨i11, b12, rfl, s⟩
  refine au 2 rfl ?_
  cases b12
  ·replace s := s.2 rfl
   refine au 1 rfl ?_
   refine au 14 rfl ?_
   refine zcall s rfl rfl TF.goes_30 ?_
   rintro _ h13 ⟨i14, rfl, s⟩
   refine au 5 rfl ?_
   refine zu s rfl rfl rfl binI_neq_t binI_neq_f (fun s => ?_) fun s => ?_
   ·refine au 6 rfl ?_
    refine znil s rfl rfl fun A15 s => ?_
    refine au 1 rfl ?_
    refine zl s rfl rfl TF.agg_24 fun p17 s => ?_
    refine znil s rfl rfl fun A18 s => ?_
    refine au 1 rfl ?_
    refine zl s rfl rfl TF.agg_33 fun p20 s => ?_
    refine au 1 rfl ?_
    refine zcall s rfl rfl TF.goes_10 ?_
    rintro _ h21 ⟨i22, i23, rfl, s⟩
    refine au 12 rfl ?_
    exact zr (s.imp fun _ q => ⟨_, _, rfl, q⟩)
   ·refine au 8 rfl ?_
    exact zr (s.imp fun _ q => ⟨_, _, rfl, q⟩)
  ·replace s := s.1 rfl
   refine au 1 rfl ?_
   refine au 14 rfl ?_
   exact zr (s.imp fun _ q => ⟨_, _, rfl, q⟩)
 refine au 4 rfl ?_
 by_cases hb24 : p1 = none
 ·replace s := s.1 hb24
  refine zg rfl (sem_ptrNilT p1 (.inl rfl) true rfl rfl TF.ptr_27 hb24 rfl ?_)
  refine au 8 rfl ?_
  exact zr (s.imp fun _ q => ⟨_, _, rfl, q⟩)
 ·replace s := s.2 hb24
  refine zg rfl (sem_ptrNilF p1 (.inl rfl) false rfl rfl TF.ptr_27 hb24 rfl ?_)
  refine au 6 rfl ?_
  refine zt s rfl rfl rfl binI_lss_t binI_lss_f (fun s => ?_) fun s => ?_
  ·refine au 12 rfl ?_
   exact zr (s.imp fun _ q => ⟨_, _, rfl, q⟩)
  ·refine au 2 rfl ?_
   refine zt s rfl rfl rfl binI_geq_t binI_geq_f (fun s => ?_) fun s => ?_
   ·refine au 9 rfl ?_
    exact zr (s.imp fun _ q => ⟨_, _, rfl, q⟩)
   ·refine au 6 rfl ?_
    exact Run.of_fin (s.imp fun h' s => j5 _ _ ⟨⟨rfl, rfl, trivial⟩, s⟩)
theorem C_cell_New_int.of {B : RO} {i1 : Int} {i2 : Int} {h : Heap} {Q : Option Addr → Heap → Prop} (s : S_cell_New_int B i1 i2 h Q) : C_cell_New_int B i1 i2 h Q := by
 refine zspec Try.func15 [ResultVar.tmp 4] rfl rfl rfl rfl rfl ?_
 refine au 6 rfl ?_
 refine zg rfl (sem_buildSL [] [(.slice none 0 0)] TF.zero_80 TF.places_80 rfl rfl ?_)
 refine zbn s rfl rfl rfl fun k4 h5 s => ?_
 refine au 9 rfl ?_
 obtain ⟨J11, m9, h0, s⟩ := s
 refine Run.of_fin (h0.imp fun h' h0 => ?_)
 refine Run.loop (σ := Int × Nat) (fun x e h => J11 x.1 x.2 h ∧ Agree [(1, (.int .i64 (i2))), (5, (.pointer (some ⟨k4, 0, none⟩))), (8, (.int .i64 (i1))), (9, (.int .i64 (x.1)))] e) (fun x => x.2) ((0), m9) ⟨h0, ⟨rfl, rfl, rfl, rfl, trivial⟩⟩ ?_; clear h0
 rintro ⟨i6, m8⟩ e h7 ⟨hJ, hag⟩ ih10
 have s := s i6 m8 h7 hJ; clear hJ
 refine Run.env hag ?_; clear hag
 refine au 2 rfl ?_
 refine zt s rfl rfl rfl binI_lss_t binI_lss_f (fun s => ?_) fun s => ?_
 ·refine au 11 rfl ?_
  refine Run.ldSl s fun a12 n13 c14 h15 hl s => ?_
  refine zg rfl (sem_load1 ⟨k4, 0, none⟩ ((.slice a12 n13 c14)) rfl TF.agg_78 hl ?_)
  refine au 1 rfl ?_
  refine zg rfl (sem_buildSL [(0, (.int .i64 (i2)))] [(.int .i64 (i2)), (.int .i64 (0))] TF.zero_77 TF.places_77 rfl rfl ?_)
  refine zg rfl (sem_buildSliceL [(0, (.agg #[(.int .i64 (i2)), (.int .i64 (0))]))] [(.int .i64 (i2)), (.int .i64 (0))] TF.slc_78 TF.zero_77 rfl (by decide) (by decide) rfl rfl (fun k16 hb1 hb2 h17 hb3 => ?_))
  have s := s k16 hb1 hb2 h17 hb3
  refine zg rfl (sem_appendL [(.slice a12 n13 c14), (.slice (some ⟨k16, 0, none⟩) 1 1)] rfl (semH_mono (fun v h18 hv => ?_) s))
  obtain ⟨a19, n20, c21, rfl, s⟩ := hv
  refine au 2 rfl ?_
  refine zs1 s rfl rfl rfl rfl TF.sz_78 fun h22 s => ?_
  refine au 6 rfl ?_
  exact Run.of_fin (s.imp fun h' ⟨m', hm, s⟩ => ih10 ((IntKind.wrap .i64 ((i6) + (1))), m') _ _ ⟨s, ⟨rfl, rfl, rfl, rfl, trivial⟩⟩ hm)
 ·refine au 9 rfl ?_
  exact zr (s.imp fun _ q => ⟨_, rfl, q⟩)
theorem C_tome_New.of {B : RO} {h : Heap} {Q : Option Addr → Heap → Prop} (s : S_tome_New B h Q) : C_tome_New B h Q := by
 refine zspec Try.func16 [ResultVar.tmp 0] rfl rfl rfl rfl rfl ?_
 refine au 6 rfl ?_
 refine zg rfl (sem_buildSL [] [(.bool false), (.string ByteArray.empty)] TF.zero_92 TF.places_92 rfl rfl ?_)
 refine zcall s rfl rfl TF.goes_36 ?_
 rintro _ h2 ⟨p3, rfl, s⟩
 refine zg rfl (sem_buildSL [(0, (.pointer p3))] [(.pointer p3)] TF.zero_94 TF.places_94 rfl rfl ?_)
 refine zbn s rfl rfl rfl fun k4 h5 s => ?_
 refine au 2 rfl ?_
 exact zr (s.imp fun _ q => ⟨_, rfl, q⟩)
theorem C_feed_New.of {B : RO} {h : Heap} {Q : Option Addr → Heap → Prop} (s : S_feed_New B h Q) : C_feed_New B h Q := by
 refine zspec Try.func17 [ResultVar.tmp 0] rfl rfl rfl rfl rfl ?_
 refine au 6 rfl ?_
 refine zcall s rfl rfl TF.goes_15 ?_
 rintro _ h2 ⟨p3, rfl, s⟩
 refine zg rfl (sem_buildSL [(1, (.pointer p3))] [(.string ByteArray.empty), (.string ByteArray.empty), (.string ByteArray.empty), (.pointer p3)] TF.zero_83 TF.places_83 rfl rfl ?_)
 refine zbn s rfl rfl rfl fun k4 h5 s => ?_
 refine au 2 rfl ?_
 exact zr (s.imp fun _ q => ⟨_, rfl, q⟩)
theorem C_reads_New.of {B : RO} {i1 : Int} {h : Heap} {Q : Option Addr → Heap → Prop} (s : S_reads_New B i1 h Q) : C_reads_New B i1 h Q := by
 refine zspec Try.func18 [ResultVar.tmp 2] rfl rfl rfl rfl rfl ?_
 refine au 7 rfl ?_
 refine zg rfl (sem_buildSL [(1, (.int .i64 (i1)))] [(.slice none 0 0), (.int .i64 (i1))] TF.zero_97 TF.places_97 rfl rfl ?_)
 refine zbn s rfl rfl rfl fun k3 h4 s => ?_
 refine au 2 rfl ?_
 exact zr (s.imp fun _ q => ⟨_, rfl, q⟩)
theorem C_mark_Fresh.of {B : RO} {i1 : Int} {i2 : Int} {i3 : Int} {i4 : Int} {h : Heap} {Q : Option Addr → Option Addr → Option Addr → Int → Int → Int → Int → Heap → Prop} (s : S_mark_Fresh B i1 i2 i3 i4 h Q) : C_mark_Fresh B i1 i2 i3 i4 h Q := by
 refine zspec Try.func19 [ResultVar.cell 2 55] rfl rfl rfl rfl rfl ?_
 refine au 2 rfl ?_
 refine zbn s rfl rfl rfl fun k12 h13 s => ?_
 refine zal s rfl TF.zero_55 rfl fun k14 h15 s => ?_
 refine au 2 rfl ?_
 obtain ⟨i18, i19, i20, i21, hl, s⟩ := s
 have f22 := hl
 refine Run.drawM (fun h' => CellsAt B h' ⟨k12, 0, none⟩ 0 [(.int .i64 (i18)), (.int .i64 (i19)), (.int .i64 (i20)), (.int .i64 (i21))] ∧ True) [7] ⟨[0, 1, 0, 0, 8, 0, 54, 127], [255, 254, 255, 255, 247, 255, 201, 191], [0, 1, 0, 0, 8, 0, 63, 127], 128⟩ (.q 0 (.q 3 (.q 5 (.x 1 (.x 2 (.x 4 (.q 6 (.x 7 .nil .no)) .no) (.x 4 (.x 2 (.q 6 (.x 7 .nil .no)) .no) .no)) (.x 2 (.x 1 (.x 4 (.q 6 (.x 7 .nil .no)) .no) (.x 4 (.x 1 (.q 6 (.x 7 .nil .no)) .no) .no)) (.x 4 (.x 1 (.x 2 (.q 6 (.x 7 .nil .no)) .no) (.x 2 (.x 1 (.q 6 (.x 7 .nil .no)) .no) .no)) .no)))))) TF.mixed (by kernel_rfl) ⟨f22, trivial⟩ ?_
 refine zq rfl (fun _ hC => sem_buildSL [] [(.slice none 0 0)] TF.zero_100 TF.places_100 rfl rfl ⟨rfl, rfl⟩) ?_
 refine zq rfl (fun _ hC => sem_buildSL [] [(.int .i64 (0)), (.int .i64 (0)), (.int .i64 (0))] TF.zero_104 TF.places_104 rfl rfl ⟨rfl, rfl⟩) ?_
 refine zq rfl (fun _ hC => sem_loadN ⟨k12, 0, none⟩ [(.int .i64 (i18)), (.int .i64 (i19)), (.int .i64 (i20)), (.int .i64 (i21))] rfl TF.agg_30 TF.sz_30 hC.1 ⟨rfl, rfl⟩) ?_
 refine RunT.joinJ (t := (.q 6 (.x 7 .nil .no))) (fun e h72 => ∃ A69 : Addr, ∃ p70 : Option Addr, ∃ A71 : Addr, Agree [(2, (.pointer (some ⟨k14, 0, none⟩))), (4, (.pointer (some A69))), (5, (.pointer p70)), (7, (.pointer (some A71))), (8, (.agg #[(.int .i64 (i18)), (.int .i64 (i19)), (.int .i64 (i20)), (.int .i64 (i21))]))] e ∧ CellsAt B h72 ⟨k12, 0, none⟩ 0 [(.int .i64 (i18)), (.int .i64 (i19)), (.int .i64 (i20)), (.int .i64 (i21))] ∧ S_mark_Fresh_J1 B k12 k14 i18 i19 i20 i21 A69 p70 A71 h72 Q) ?_ fun j68 => ?_
 ·rintro e h72 ⟨A69, p70, A71, hag, g73, s⟩
  refine RunT.env hag ?_; clear hag
  refine zq rfl (fun _ _ => sem_buildSL [(0, (.pointer (some A69))), (1, (.pointer p70)), (2, (.pointer (some A71))), (3, (.agg #[(.int .i64 (i18)), (.int .i64 (i19)), (.int .i64 (i20)), (.int .i64 (i21))]))] [(.pointer (some A69)), (.pointer p70), (.pointer (some A71)), (.int .i64 (i18)), (.int .i64 (i19)), (.int .i64 (i20)), (.int .i64 (i21))] TF.zero_55 TF.places_55 rfl rfl ⟨rfl, rfl⟩) ?_
  obtain ⟨h74, hst, s⟩ := s
  refine ⟨zo0 rfl (sem_storeN ⟨k14, 0, none⟩ [(.pointer (some A69)), (.pointer p70), (.pointer (some A71)), (.int .i64 (i18)), (.int .i64 (i19)), (.int .i64 (i20)), (.int .i64 (i21))] h74 rfl rfl TF.sz_55 hst ?_), trivial⟩
  refine ⟨fun hz => Bool.noConfusion hz, ?_⟩
  obtain ⟨p75, p76, p77, i78, i79, i80, i81, hl0, s⟩ := s
  exact zr (⟨⟨k14, 0, none⟩, (.agg #[(.pointer p75), (.pointer p76), (.pointer p77), (.int .i64 (i78)), (.int .i64 (i79)), (.int .i64 (i80)), (.int .i64 (i81))]), rfl, loadHN TF.agg_55 TF.sz_55 hl0, s.imp fun _ q => ⟨_, _, _, _, _, _, _, rfl, q⟩⟩)
 refine ⟨?_, ?_, ?_, trivial⟩
 ·have s := s.1
  refine zo rfl (sem_boxNN [(.slice none 0 0)] rfl (fun k82 hb1 hb2 h83 hb3 => ?_))
  have s := s k82 hb1 hb2 h83 hb3
  obtain ⟨g84, s⟩ := s
  refine ⟨fun _ => ⟨g84, trivial⟩, ?_⟩
  refine ⟨?_, ?_, trivial⟩
  ·have s := s.1
   refine zo rfl (sem_callL [] (TF.goes_37) rfl rfl (Spec.mono s fun v h85 hv => ?_))
   obtain ⟨p86, rfl, s⟩ := hv
   obtain ⟨g87, s⟩ := s
   refine ⟨fun _ => ⟨g87, trivial⟩, ?_⟩
   refine ⟨zo rfl (sem_boxNN [(.int .i64 (0)), (.int .i64 (0)), (.int .i64 (0))] rfl (fun k88 hb1 hb2 h89 hb3 => ?_)), trivial⟩
   have s := s k88 hb1 hb2 h89 hb3
   obtain ⟨g90, s⟩ := s
   refine ⟨fun _ => ⟨g90, trivial⟩, ?_⟩
   exact j68 _ _ ⟨⟨k82, 0, none⟩, p86, ⟨k88, 0, none⟩, ⟨rfl, rfl, rfl, rfl, rfl, trivial⟩, g90, s⟩
  ·have s := s.2
   refine zo rfl (sem_boxNN [(.int .i64 (0)), (.int .i64 (0)), (.int .i64 (0))] rfl (fun k91 hb1 hb2 h92 hb3 => ?_))
   have s := s k91 hb1 hb2 h92 hb3
   obtain ⟨g93, s⟩ := s
   refine ⟨fun _ => ⟨g93, trivial⟩, ?_⟩
   refine ⟨zo rfl (sem_callL [] (TF.goes_37) rfl rfl (Spec.mono s fun v h94 hv => ?_)), trivial⟩
   obtain ⟨p95, rfl, s⟩ := hv
   obtain ⟨g96, s⟩ := s
   refine ⟨fun _ => ⟨g96, trivial⟩, ?_⟩
   exact j68 _ _ ⟨⟨k82, 0, none⟩, p95, ⟨k91, 0, none⟩, ⟨rfl, rfl, rfl, rfl, rfl, trivial⟩, g96, s⟩
 ·have s := s.2.1
  refine zo rfl (sem_callL [] (TF.goes_37) rfl rfl (Spec.mono s fun v h97 hv => ?_))
  obtain ⟨p98, rfl, s⟩ := hv
  obtain ⟨g99, s⟩ := s
  refine ⟨fun _ => ⟨g99, trivial⟩, ?_⟩
  refine ⟨?_, ?_, trivial⟩
  ·have s := s.1
   refine zo rfl (sem_boxNN [(.slice none 0 0)] rfl (fun k100 hb1 hb2 h101 hb3 => ?_))
   have s := s k100 hb1 hb2 h101 hb3
   obtain ⟨g102, s⟩ := s
   refine ⟨fun _ => ⟨g102, trivial⟩, ?_⟩
   refine ⟨zo rfl (sem_boxNN [(.int .i64 (0)), (.int .i64 (0)), (.int .i64 (0))] rfl (fun k103 hb1 hb2 h104 hb3 => ?_)), trivial⟩
   have s := s k103 hb1 hb2 h104 hb3
   obtain ⟨g105, s⟩ := s
   refine ⟨fun _ => ⟨g105, trivial⟩, ?_⟩
   exact j68 _ _ ⟨⟨k100, 0, none⟩, p98, ⟨k103, 0, none⟩, ⟨rfl, rfl, rfl, rfl, rfl, trivial⟩, g105, s⟩
  ·have s := s.2
   refine zo rfl (sem_boxNN [(.int .i64 (0)), (.int .i64 (0)), (.int .i64 (0))] rfl (fun k106 hb1 hb2 h107 hb3 => ?_))
   have s := s k106 hb1 hb2 h107 hb3
   obtain ⟨g108, s⟩ := s
   refine ⟨fun _ => ⟨g108, trivial⟩, ?_⟩
   refine ⟨zo rfl (sem_boxNN [(.slice none 0 0)] rfl (fun k109 hb1 hb2 h110 hb3 => ?_)), trivial⟩
   have s := s k109 hb1 hb2 h110 hb3
   obtain ⟨g111, s⟩ := s
   refine ⟨fun _ => ⟨g111, trivial⟩, ?_⟩
   exact j68 _ _ ⟨⟨k109, 0, none⟩, p98, ⟨k106, 0, none⟩, ⟨rfl, rfl, rfl, rfl, rfl, trivial⟩, g111, s⟩
 ·have s := s.2.2
  refine zo rfl (sem_boxNN [(.int .i64 (0)), (.int .i64 (0)), (.int .i64 (0))] rfl (fun k112 hb1 hb2 h113 hb3 => ?_))
  have s := s k112 hb1 hb2 h113 hb3
  obtain ⟨g114, s⟩ := s
  refine ⟨fun _ => ⟨g114, trivial⟩, ?_⟩
  refine ⟨?_, ?_, trivial⟩
  ·have s := s.1
   refine zo rfl (sem_boxNN [(.slice none 0 0)] rfl (fun k115 hb1 hb2 h116 hb3 => ?_))
   have s := s k115 hb1 hb2 h116 hb3
   obtain ⟨g117, s⟩ := s
   refine ⟨fun _ => ⟨g117, trivial⟩, ?_⟩
   refine ⟨zo rfl (sem_callL [] (TF.goes_37) rfl rfl (Spec.mono s fun v h118 hv => ?_)), trivial⟩
   obtain ⟨p119, rfl, s⟩ := hv
   obtain ⟨g120, s⟩ := s
   refine ⟨fun _ => ⟨g120, trivial⟩, ?_⟩
   exact j68 _ _ ⟨⟨k115, 0, none⟩, p119, ⟨k112, 0, none⟩, ⟨rfl, rfl, rfl, rfl, rfl, trivial⟩, g120, s⟩
  ·have s := s.2
   refine zo rfl (sem_callL [] (TF.goes_37) rfl rfl (Spec.mono s fun v h121 hv => ?_))
   obtain ⟨p122, rfl, s⟩ := hv
   obtain ⟨g123, s⟩ := s
   refine ⟨fun _ => ⟨g123, trivial⟩, ?_⟩
   refine ⟨zo rfl (sem_boxNN [(.slice none 0 0)] rfl (fun k124 hb1 hb2 h125 hb3 => ?_)), trivial⟩
   have s := s k124 hb1 hb2 h125 hb3
   obtain ⟨g126, s⟩ := s
   refine ⟨fun _ => ⟨g126, trivial⟩, ?_⟩
   exact j68 _ _ ⟨⟨k124, 0, none⟩, p122, ⟨k112, 0, none⟩, ⟨rfl, rfl, rfl, rfl, rfl, trivial⟩, g126, s⟩
theorem C_draft_Draft_int_Put.of {B : RO} {p1 : Option Addr} {i2 : Int} {i3 : Int} {h : Heap} {Q : Bool → Heap → Prop} (s : S_draft_Draft_int_Put B p1 i2 i3 h Q) : C_draft_Draft_int_Put B p1 i2 i3 h Q := by
 refine zspec Try.func20 [ResultVar.tmp 6] rfl rfl rfl rfl rfl ?_
 refine au 8 rfl ?_
 by_cases hb5 : p1 = none
 ·replace s := s.1 hb5
  refine zg rfl (sem_ptrNilT p1 (.inl rfl) true rfl rfl TF.ptr_51 hb5 rfl ?_)
  refine au 6 rfl ?_
  exact zr (s.imp fun _ q => ⟨_, rfl, q⟩)
 ·replace s := s.2 hb5
  refine zg rfl (sem_ptrNilF p1 (.inl rfl) false rfl rfl TF.ptr_51 hb5 rfl ?_)
  refine au 7 rfl ?_
  refine zcall s rfl rfl TF.goes_38 ?_
  rintro _ h6 ⟨i7, b8, rfl, s⟩
  refine au 2 rfl ?_
  cases b8
  ·replace s := s.2 rfl
   refine au 1 rfl ?_
   refine au 12 rfl ?_
   refine znil s rfl rfl fun A9 s => ?_
   refine au 1 rfl ?_
   refine Run.ldSl s fun a11 n12 c13 h14 hl s => ?_
   refine zg rfl (sem_load1 A9 ((.slice a11 n12 c13)) rfl TF.agg_98 hl ?_)
   refine au 3 rfl ?_
   refine zg rfl (sem_buildSL [(0, (.int .i64 (i2))), (1, (.int .i64 (i3)))] [(.int .i64 (i2)), (.int .i64 (i3))] TF.zero_106 TF.places_106 rfl rfl ?_)
   refine zg rfl (sem_buildSliceL [(0, (.agg #[(.int .i64 (i2)), (.int .i64 (i3))]))] [(.int .i64 (i2)), (.int .i64 (i3))] TF.slc_98 TF.zero_106 rfl (by decide) (by decide) rfl rfl (fun k15 hb1 hb2 h16 hb3 => ?_))
   have s := s k15 hb1 hb2 h16 hb3
   refine zcall s rfl rfl TF.goes_39 ?_
   rintro _ h17 ⟨a18, n19, c20, rfl, s⟩
   refine znil s rfl rfl fun A21 s => ?_
   refine au 1 rfl ?_
   refine zs1 s rfl rfl rfl rfl TF.sz_98 fun h23 s => ?_
   refine au 5 rfl ?_
   exact zr (s.imp fun _ q => ⟨_, rfl, q⟩)
  ·replace s := s.1 rfl
   refine au 1 rfl ?_
   refine au 11 rfl ?_
   refine znil s rfl rfl fun A24 s => ?_
   refine au 1 rfl ?_
   refine Run.ldSl s fun a26 n27 c28 h29 hl s => ?_
   refine zg rfl (sem_load1 A24 ((.slice a26 n27 c28)) rfl TF.agg_98 hl ?_)
   refine au 2 rfl ?_
   obtain ⟨A30, e31, hi0, hi1, s⟩ := s
   refine zg rfl (sem_indexAddrS A30 n27 c28 .i64 (i7) (congrArg (fun a => Value.slice a n27 c28) e31) rfl TF.slc_98 hi0 hi1 ?_)
   refine au 1 rfl ?_
   refine zs1 s rfl rfl rfl rfl TF.sz_3 fun h32 s => ?_
   refine au 5 rfl ?_
   exact zr (s.imp fun _ q => ⟨_, rfl, q⟩)
theorem C_attempt_Attempt_Valid.of {B : RO} {p1 : Option Addr} {h : Heap} {Q : Bool → Heap → Prop} (s : S_attempt_Attempt_Valid B p1 h Q) : C_attempt_Attempt_Valid B p1 h Q := by
 refine zspec Try.func21 [ResultVar.tmp 2] rfl rfl rfl rfl rfl ?_
 refine au 5 rfl ?_
 by_cases hb4 : p1 = none
 ·replace s := s.1 hb4
  refine Run.drawM (fun h' => True) [] ⟨[0, 1, 2, 4, 12, 20, 36, 4, 132, 260, 516, 1028, 2116, 4100, 16383], [32767, 32766, 32765, 32763, 32755, 32747, 32731, 32763, 32635, 32507, 32251, 31739, 30651, 28667, 24575], [0, 0, 0, 0, 0, 0, 0, 0, 0, 0, 0, 0, 0, 0, 0], 0⟩ (.q 0 (.q 1 (.q 2 (.q 3 (.q 4 (.q 5 (.q 6 (.q 7 (.q 8 (.q 9 (.q 10 (.x 11 (.x 12 (.q 13 (.q 14 .nil)) .no) .no)))))))))))) TF.mixed (by kernel_rfl) trivial ?_
  refine auT 1 rfl ?_
  refine zq rfl (fun _ hC => sem_ptrNilT p1 (.inr rfl) false rfl rfl TF.ptr_27 hb4 rfl ⟨rfl, rfl⟩) ?_
  refine auT 9 rfl ?_
  refine ⟨zon rfl ⟨fun _ => trivial, ?_⟩, trivial⟩
  refine ⟨zon rfl ⟨fun _ => trivial, ?_⟩, trivial⟩
  refine auT 2 rfl ?_
  exact zr (s.imp fun _ q => ⟨_, rfl, q⟩)
 ·replace s := s.2 hb4
  obtain ⟨A10, e11, s⟩ := s
  obtain ⟨p14, hl, s⟩ := s
  have f15 := hl
  obtain ⟨A17, e18, s⟩ := s
  obtain ⟨p21, hl, s⟩ := s
  have f22 := hl
  refine Run.drawM (fun h' => cellH B h' (Addr.add A10 1) = some (.pointer p14) ∧ cellH B h' A17 = some (.pointer p21) ∧ True) [] ⟨[0, 1, 2, 4, 12, 20, 36, 4, 132, 260, 516, 1028, 2116, 4100, 16383], [32767, 32766, 32765, 32763, 32755, 32747, 32731, 32763, 32635, 32507, 32251, 31739, 30651, 28667, 24575], [0, 0, 0, 0, 0, 0, 0, 0, 0, 0, 0, 0, 0, 0, 0], 0⟩ (.q 0 (.q 1 (.q 2 (.q 3 (.q 4 (.q 5 (.q 6 (.q 7 (.q 8 (.q 9 (.q 10 (.x 11 (.x 12 (.q 13 (.q 14 .nil)) .no) .no)))))))))))) TF.mixed (by kernel_rfl) ⟨f15, f22, trivial⟩ ?_
  refine auT 1 rfl ?_
  refine zq rfl (fun _ hC => sem_ptrNilF p1 (.inr rfl) true rfl rfl TF.ptr_27 hb4 rfl ⟨rfl, rfl⟩) ?_
  refine auT 2 rfl ?_
  refine zq rfl (fun _ hC => sem_nilCheck A10 (congrArg Value.pointer e11) ⟨rfl, rfl⟩) ?_
  refine auT 1 rfl ?_
  refine zq rfl (fun _ hC => sem_load1 (Addr.add A10 1) ((.pointer p14)) rfl TF.agg_49 hC.1 ⟨rfl, rfl⟩) ?_
  refine auT 1 rfl ?_
  refine zq rfl (fun _ hC => sem_nilCheck A17 (congrArg Value.pointer e18) ⟨rfl, rfl⟩) ?_
  refine auT 1 rfl ?_
  refine zq rfl (fun _ hC => sem_load1 A17 ((.pointer p21)) rfl TF.agg_24 hC.2.1 ⟨rfl, rfl⟩) ?_
  refine ⟨zo rfl (sem_callL [(.pointer p21)] (TF.goes_41) rfl rfl (Spec.mono s fun v h23 hv => ?_)), trivial⟩
  obtain ⟨l24, rfl, s⟩ := hv
  obtain ⟨g25, g26, s⟩ := s
  refine ⟨fun _ => ⟨g25, g26, trivial⟩, ?_⟩
  refine ⟨zo rfl (sem_callL [(.pointer p14), (.agg (List.toArray l24))] (TF.goes_40) rfl rfl (Spec.mono s fun v h27 hv => ?_)), trivial⟩
  obtain ⟨b28, rfl, s⟩ := hv
  obtain ⟨g29, g30, s⟩ := s
  refine ⟨fun _ => ⟨g29, g30, trivial⟩, ?_⟩
  refine auT 2 rfl ?_
  exact zr (s.imp fun _ q => ⟨_, rfl, q⟩)
theorem C_draft_Draft_int_All.of {B : RO} {p1 : Option Addr} {h : Heap} {Q : Value → Heap → Prop} (s : S_draft_Draft_int_All B p1 h Q) : C_draft_Draft_int_All B p1 h Q := by
 refine zspec Try.func22 [ResultVar.tmp 2] rfl rfl rfl rfl rfl ?_
 refine au 2 rfl ?_
 refine zb1 s rfl rfl rfl rfl fun k3 h4 s => ?_
 refine au 7 rfl ?_
 exact zr (s.imp fun _ q => ⟨_, rfl, q⟩)
theorem C_cell_Row_int_Set.of {B : RO} {p1 : Option Addr} {i2 : Int} {i3 : Int} {i4 : Int} {h : Heap} {Q : Bool → Heap → Prop} (s : S_cell_Row_int_Set B p1 i2 i3 i4 h Q) : C_cell_Row_int_Set B p1 i2 i3 i4 h Q := by
 refine zspec Try.func23 [ResultVar.tmp 8] rfl rfl rfl rfl rfl ?_
 refine au 9 rfl ?_
 refine zcall s rfl rfl TF.goes_28 ?_
 rintro _ h6 ⟨b7, rfl, s⟩
 cases b7
 ·replace s := s.2 rfl
  refine au 7 rfl ?_
  exact zr (s.imp fun _ q => ⟨_, rfl, q⟩)
 ·replace s := s.1 rfl
  refine au 7 rfl ?_
  refine znil s rfl rfl fun A8 s => ?_
  refine au 1 rfl ?_
  refine Run.ldSl s fun a10 n11 c12 h13 hl s => ?_
  refine zg rfl (sem_load1 A8 ((.slice a10 n11 c12)) rfl TF.agg_78 hl ?_)
  refine au 3 rfl ?_
  refine zg rfl (sem_buildSL [(0, (.int .i64 (i3))), (1, (.int .i64 (i4)))] [(.int .i64 (i3)), (.int .i64 (i4))] TF.zero_77 TF.places_77 rfl rfl ?_)
  obtain ⟨A14, e15, hi0, hi1, s⟩ := s
  refine zg rfl (sem_indexAddrS A14 n11 c12 .i64 (i2) (congrArg (fun a => Value.slice a n11 c12) e15) rfl TF.slc_78 hi0 hi1 ?_)
  refine zsn s rfl rfl rfl TF.sz_77 rfl fun h16 s => ?_
  refine au 5 rfl ?_
  exact zr (s.imp fun _ q => ⟨_, rfl, q⟩)
theorem C_sheet_Sheet_Over.of {B : RO} {p1 : Option Addr} {p2 : Option Addr} {i3 : Int} {h : Heap} {Q : Int → Heap → Prop} (s : S_sheet_Sheet_Over B p1 p2 i3 h Q) : C_sheet_Sheet_Over B p1 p2 i3 h Q := by
 refine zspec Try.func24 [ResultVar.tmp 6] rfl rfl rfl rfl rfl ?_
 refine au 2 rfl ?_
 refine zb1 s rfl rfl rfl rfl fun k5 h6 s => ?_
 refine zb1 s rfl rfl rfl rfl fun k7 h8 s => ?_
 refine au 4 rfl ?_
 refine zal s rfl TF.zero_3 rfl fun k9 h10 s => ?_
 refine zs1 s rfl rfl rfl rfl TF.sz_3 fun h11 s => ?_
 refine au 5 rfl ?_
 refine zcall s rfl rfl TF.goes_43 ?_
 rintro _ h12 ⟨p13, rfl, s⟩
 refine zcall s rfl rfl TF.goes_44 ?_
 rintro v15 h14 ⟨_, rfl, s⟩
 refine au 2 rfl ?_
 obtain ⟨xs23, G19, J22, hit, hins, hG, h0, s, hR⟩ := s
 refine Run.of_fin (h0.imp fun h' h0 => ?_)
 refine Run.range (v15) (xs23.map (fun x : Int × Bool × ByteArray => [(.int .i64 (x.1)), (.agg #[(.bool x.2.1), (.string x.2.2)])])) G19 J22 rfl hit hins hG h0 rfl (fun a ha => by obtain ⟨x, _, rfl⟩ := List.mem_map.1 ha; rfl) ?_ ?_
 ·rintro q21 args h20 ha hJ
  obtain ⟨⟨i16, b17, s18⟩, hx, rfl⟩ := Option.map_eq_some_iff.1 ((List.getElem?_map ..).symm.trans ha)
  have s := s q21 h20 i16 b17 s18 hx hJ; clear hJ hx ha
  refine zput rfl ?_
  refine au 5 rfl ?_
  refine zal s rfl TF.zero_92 rfl fun k24 h25 s => ?_
  refine zsn s rfl rfl rfl TF.sz_92 rfl fun h26 s => ?_
  refine au 1 rfl ?_
  refine Run.begin ⟨rfl, ?_⟩
  refine au 3 rfl ?_
  refine zl s rfl rfl TF.agg_34 fun p27 s => ?_
  refine au 1 rfl ?_
  obtain ⟨b28, s29, hl, s⟩ := s
  refine zn hl rfl rfl TF.agg_92 TF.sz_92 rfl ?_
  refine zl s rfl rfl TF.agg_3 fun i30 s => ?_
  refine zcall s rfl rfl TF.goes_45 ?_
  rintro _ h31 ⟨b32, rfl, s⟩
  cases b32
  ·replace s := s.2 rfl
   refine au 4 rfl ?_
   refine Run.of_fin (s.imp fun h' s => ?_)
   exact Run.fall (.inl ⟨rfl, s⟩)
  ·replace s := s.1 rfl
   refine au 3 rfl ?_
   refine zl s rfl rfl TF.agg_3 fun i33 s => ?_
   refine au 1 rfl ?_
   refine zs1 s rfl rfl rfl rfl TF.sz_3 fun h34 s => ?_
   refine au 2 rfl ?_
   refine Run.of_fin (s.imp fun h' s => ?_)
   exact Run.fall (.inl ⟨rfl, s⟩)
 ·intro h20 hJ
  have s := hR h20 (by simpa using hJ); clear hJ hR
  refine au 3 rfl ?_
  refine zl s rfl rfl TF.agg_3 fun i35 s => ?_
  refine au 2 rfl ?_
  exact zr (s.imp fun _ q => ⟨_, rfl, q⟩)
theorem C_cursor_Cursor_Read.of {B : RO} {p1 : Option Addr} {i2 : Int} {h : Heap} {Q : Int → Heap → Prop} (s : S_cursor_Cursor_Read B p1 i2 h Q) : C_cursor_Cursor_Read B p1 i2 h Q := by
 refine zspec Try.func25 [ResultVar.tmp 4] rfl rfl rfl rfl rfl ?_
 refine au 4 rfl ?_
 refine Run.seqJ (fun e h5 => Agree [(0, (.pointer p1)), (1, (.int .i64 (i2)))] e ∧ S_cursor_Cursor_Read_J1 B p1 i2 h5 Q) ?_ fun j4 => ?_
 ·rintro e h5 ⟨hag, s⟩
  refine Run.env hag ?_; clear hag
  refine au 4 rfl ?_
  refine znil s rfl rfl fun A6 s => ?_
  refine au 1 rfl ?_
  obtain ⟨hi0, hi1, s⟩ := s
  refine zg rfl (sem_indexAddrA A6 .i64 (i2) rfl rfl TF.arr_102 hi0 hi1 ?_)
  refine zl s rfl rfl TF.agg_3 fun i8 s => ?_
  refine au 2 rfl ?_
  exact zr (s.imp fun _ q => ⟨_, rfl, q⟩)
 refine au 3 rfl ?_
 by_cases hb9 : p1 = none
 ·replace s := s.1 hb9
  refine zg rfl (sem_ptrNilT p1 (.inl rfl) true rfl rfl TF.ptr_53 hb9 rfl ?_)
  refine au 11 rfl ?_
  exact zr (s.imp fun _ q => ⟨_, rfl, q⟩)
 ·replace s := s.2 hb9
  refine zg rfl (sem_ptrNilF p1 (.inl rfl) false rfl rfl TF.ptr_53 hb9 rfl ?_)
  refine au 2 rfl ?_
  refine zcall s rfl rfl TF.goes_46 ?_
  rintro _ h10 ⟨b11, rfl, s⟩
  cases b11
  ·replace s := s.2 rfl
   refine au 8 rfl ?_
   exact zr (s.imp fun _ q => ⟨_, rfl, q⟩)
  ·replace s := s.1 rfl
   refine au 5 rfl ?_
   exact Run.of_fin (s.imp fun h' s => j4 _ _ ⟨⟨rfl, rfl, trivial⟩, s⟩)
theorem C_feed_Feed_Place.of {B : RO} {p1 : Option Addr} {i2 : Int} {h : Heap} {Q : Int → Int → Heap → Prop} (s : S_feed_Feed_Place B p1 i2 h Q) : C_feed_Feed_Place B p1 i2 h Q := by
 refine zspec Try.func26 [ResultVar.tmp 4, ResultVar.tmp 5] rfl rfl rfl rfl rfl ?_
 refine au 9 rfl ?_
 by_cases hb5 : p1 = none
 ·replace s := s.1 hb5
  refine zg rfl (sem_ptrNilT p1 (.inl rfl) true rfl rfl TF.ptr_35 hb5 rfl ?_)
  refine au 7 rfl ?_
  exact zr (s.imp fun _ q => ⟨_, _, rfl, q⟩)
 ·replace s := s.2 hb5
  refine zg rfl (sem_ptrNilF p1 (.inl rfl) false rfl rfl TF.ptr_35 hb5 rfl ?_)
  refine au 6 rfl ?_
  refine znil s rfl rfl fun A6 s => ?_
  refine au 1 rfl ?_
  refine zl s rfl rfl TF.agg_33 fun p8 s => ?_
  refine au 1 rfl ?_
  refine zcall s rfl rfl TF.goes_10 ?_
  rintro _ h9 ⟨i10, i11, rfl, s⟩
  refine au 5 rfl ?_
  exact zr (s.imp fun _ q => ⟨_, _, rfl, q⟩)
theorem C_feed_Feed_Take.of {B : RO} {p1 : Option Addr} {i2 : Int} {i3 : Int} {i4 : Int} {h : Heap} {Q : Bool → Heap → Prop} (s : S_feed_Feed_Take B p1 i2 i3 i4 h Q) : C_feed_Feed_Take B p1 i2 i3 i4 h Q := by
 refine zspec Try.func27 [ResultVar.tmp 8] rfl rfl rfl rfl rfl ?_
 refine au 8 rfl ?_
 refine zcall s rfl rfl TF.goes_26 ?_
 rintro _ h6 ⟨i7, i8, rfl, s⟩
 refine au 6 rfl ?_
 refine Run.seqJ (fun e h10 => Agree [(0, (.pointer p1)), (1, (.int .i64 (i2))), (2, (.int .i64 (i3))), (3, (.int .i64 (i4)))] e ∧ S_feed_Feed_Take_J1 B p1 i2 i3 i4 h10 Q) ?_ fun j9 => ?_
 ·rintro e h10 ⟨hag, s⟩
  refine Run.env hag ?_; clear hag
  refine au 3 rfl ?_
  refine znil s rfl rfl fun A11 s => ?_
  refine au 1 rfl ?_
  refine zl s rfl rfl TF.agg_33 fun p13 s => ?_
  refine au 3 rfl ?_
  refine zcall s rfl rfl TF.goes_23 ?_
  rintro _ h14 ⟨b15, rfl, s⟩
  refine au 2 rfl ?_
  exact zr (s.imp fun _ q => ⟨_, rfl, q⟩)
 refine au 4 rfl ?_
 refine zcall s rfl rfl TF.goes_29 ?_
 rintro _ h16 ⟨b17, rfl, s⟩
 cases b17
 ·replace s := s.2 rfl
  refine au 23 rfl ?_
  exact zr (s.imp fun _ q => ⟨_, rfl, q⟩)
 ·replace s := s.1 rfl
  refine au 4 rfl ?_
  refine zt s rfl rfl rfl binI_lss_t binI_lss_f (fun s => ?_) fun s => ?_
  ·refine au 18 rfl ?_
   exact zr (s.imp fun _ q => ⟨_, rfl, q⟩)
  ·refine au 5 rfl ?_
   refine znil s rfl rfl fun A18 s => ?_
   refine au 1 rfl ?_
   obtain ⟨hi0, hi1, s⟩ := s
   refine zg rfl (sem_indexAddrA A18 .i64 (i2) rfl rfl TF.arr_81 hi0 hi1 ?_)
   refine zl s rfl rfl TF.agg_9 fun s20 s => ?_
   refine zg rfl (sem_lenStr s20 rfl TF.isStr_9 ?_)
   refine zt s rfl rfl rfl binI_gtr_t binI_gtr_f (fun s => ?_) fun s => ?_
   ·refine au 7 rfl ?_
    exact zr (s.imp fun _ q => ⟨_, rfl, q⟩)
   ·refine au 4 rfl ?_
    exact Run.of_fin (s.imp fun h' s => j9 _ _ ⟨⟨rfl, rfl, rfl, rfl, trivial⟩, s⟩)
theorem C_cell_Row_int_is.of {B : RO} {p1 : Option Addr} {i2 : Int} {h : Heap} {Q : Bool → Heap → Prop} (s : S_cell_Row_int_is B p1 i2 h Q) : C_cell_Row_int_is B p1 i2 h Q := by
 refine zspec Try.func28 [ResultVar.tmp 4] rfl rfl rfl rfl rfl ?_
 refine au 7 rfl ?_
 by_cases hb4 : p1 = none
 ·replace s := s.1 hb4
  refine zg rfl (sem_ptrNilT p1 (.inr rfl) false rfl rfl TF.ptr_33 hb4 rfl ?_)
  refine au 15 rfl ?_
  exact zr (s.imp fun _ q => ⟨_, rfl, q⟩)
 ·replace s := s.2 hb4
  refine zg rfl (sem_ptrNilF p1 (.inr rfl) true rfl rfl TF.ptr_33 hb4 rfl ?_)
  refine au 2 rfl ?_
  refine zt s rfl rfl rfl binI_geq_t binI_geq_f (fun s => ?_) fun s => ?_
  ·refine au 4 rfl ?_
   refine znil s rfl rfl fun A5 s => ?_
   refine au 1 rfl ?_
   refine Run.ldSl s fun a7 n8 c9 h10 hl s => ?_
   refine zg rfl (sem_load1 A5 ((.slice a7 n8 c9)) rfl TF.agg_78 hl ?_)
   refine zg rfl (sem_lenSl a7 n8 c9 rfl TF.sl_78 ?_)
   refine au 4 rfl ?_
   exact zr (s.imp fun _ q => ⟨_, rfl, q⟩)
  ·refine au 12 rfl ?_
   exact zr (s.imp fun _ q => ⟨_, rfl, q⟩)
theorem C_feed_Feed_is.of {B : RO} {p1 : Option Addr} {i2 : Int} {h : Heap} {Q : Bool → Heap → Prop} (s : S_feed_Feed_is B p1 i2 h Q) : C_feed_Feed_is B p1 i2 h Q := by
 refine zspec Try.func29 [ResultVar.tmp 4] rfl rfl rfl rfl rfl ?_
 refine au 7 rfl ?_
 by_cases hb4 : p1 = none
 ·replace s := s.1 hb4
  refine zg rfl (sem_ptrNilT p1 (.inr rfl) false rfl rfl TF.ptr_35 hb4 rfl ?_)
  refine au 10 rfl ?_
  exact zr (s.imp fun _ q => ⟨_, rfl, q⟩)
 ·replace s := s.2 hb4
  refine zg rfl (sem_ptrNilF p1 (.inr rfl) true rfl rfl TF.ptr_35 hb4 rfl ?_)
  refine au 2 rfl ?_
  refine zt s rfl rfl rfl binI_geq_t binI_geq_f (fun s => ?_) fun s => ?_
  ·refine au 7 rfl ?_
   exact zr (s.imp fun _ q => ⟨_, rfl, q⟩)
  ·refine au 7 rfl ?_
   exact zr (s.imp fun _ q => ⟨_, rfl, q⟩)
theorem C_attempt_Attempt_note.of {B : RO} {p1 : Option Addr} {i2 : Int} {i3 : Int} {h : Heap} {Q : Int → Heap → Prop} (s : S_attempt_Attempt_note B p1 i2 i3 h Q) : C_attempt_Attempt_note B p1 i2 i3 h Q := by
 refine zspec Try.func30 [ResultVar.tmp 6] rfl rfl rfl rfl rfl ?_
 refine au 6 rfl ?_
 obtain ⟨A6, e7, s⟩ := s
 obtain ⟨p10, hl, s⟩ := s
 have f11 := hl
 obtain ⟨A13, e14, s⟩ := s
 obtain ⟨p17, hl, s⟩ := s
 have f18 := hl
 refine Run.drawM (fun h' => cellH B h' (Addr.add A6 1) = some (.pointer p10) ∧ cellH B h' A13 = some (.pointer p17) ∧ True) [] ⟨[0, 1, 2, 4, 0, 16, 32, 64, 128, 0, 0, 1800, 2048], [8191, 8190, 8189, 8187, 8191, 8175, 8159, 8127, 8063, 8191, 8191, 6391, 6143], [0, 0, 0, 0, 0, 0, 0, 0, 0, 0, 0, 0, 0], 0⟩ (.q 0 (.q 1 (.q 2 (.q 3 (.q 4 (.q 5 (.q 6 (.q 7 (.q 9 (.q 10 (.x 8 (.x 11 (.q 12 .nil) .no) .no))))))))))) TF.mixed (by kernel_rfl) ⟨f11, f18, trivial⟩ ?_
 refine auT 1 rfl ?_
 refine zq rfl (fun _ hC => sem_nilCheck A6 (congrArg Value.pointer e7) ⟨rfl, rfl⟩) ?_
 refine auT 1 rfl ?_
 refine zq rfl (fun _ hC => sem_load1 (Addr.add A6 1) ((.pointer p10)) rfl TF.agg_49 hC.1 ⟨rfl, rfl⟩) ?_
 refine auT 1 rfl ?_
 refine zq rfl (fun _ hC => sem_nilCheck A13 (congrArg Value.pointer e14) ⟨rfl, rfl⟩) ?_
 refine auT 1 rfl ?_
 refine zq rfl (fun _ hC => sem_load1 A13 ((.pointer p17)) rfl TF.agg_24 hC.2.1 ⟨rfl, rfl⟩) ?_
 refine auT 2 rfl ?_
 refine ⟨zo rfl (sem_callL [(.pointer p17)] (TF.goes_41) rfl rfl (Spec.mono s fun v h21 hv => ?_)), trivial⟩
 obtain ⟨l22, rfl, s⟩ := hv
 obtain ⟨g23, g24, s⟩ := s
 refine ⟨fun _ => ⟨g23, g24, trivial⟩, ?_⟩
 refine ⟨zo rfl (sem_callL [(.pointer p10), (.agg (List.toArray l22)), (.int .i64 (i2)), (.int .i64 (i3))] (TF.goes_47) rfl rfl (Spec.mono s fun v h25 hv => ?_)), trivial⟩
 obtain ⟨b26, rfl, s⟩ := hv
 cases b26
 ·replace s := s.2 rfl
  obtain ⟨g27, g28, s⟩ := s
  refine ⟨fun _ => ⟨g27, g28, trivial⟩, ?_⟩
  refine auT 1 rfl ?_
  refine au 5 rfl ?_
  exact zr (s.imp fun _ q => ⟨_, rfl, q⟩)
 ·replace s := s.1 rfl
  obtain ⟨g29, g30, s⟩ := s
  refine ⟨fun _ => ⟨g29, g30, trivial⟩, ?_⟩
  refine auT 1 rfl ?_
  refine au 6 rfl ?_
  exact zr (s.imp fun _ q => ⟨_, rfl, q⟩)
theorem C_draft_Draft_int_Get.of {B : RO} {p1 : Option Addr} {i2 : Int} {h : Heap} {Q : Int → Bool → Heap → Prop} (s : S_draft_Draft_int_Get B p1 i2 h Q) : C_draft_Draft_int_Get B p1 i2 h Q := by
 refine zspec Try.func35 [ResultVar.tmp 4, ResultVar.tmp 5] rfl rfl rfl rfl rfl ?_
 refine au 13 rfl ?_
 by_cases hb5 : p1 = none
 ·replace s := s.1 hb5
  refine zg rfl (sem_ptrNilT p1 (.inl rfl) true rfl rfl TF.ptr_51 hb5 rfl ?_)
  refine au 8 rfl ?_
  exact zr (s.imp fun _ q => ⟨_, _, rfl, q⟩)
 ·replace s := s.2 hb5
  refine zg rfl (sem_ptrNilF p1 (.inl rfl) false rfl rfl TF.ptr_51 hb5 rfl ?_)
  refine au 7 rfl ?_
  refine zcall s rfl rfl TF.goes_38 ?_
  rintro _ h6 ⟨i7, b8, rfl, s⟩
  refine au 2 rfl ?_
  cases b8
  ·replace s := s.2 rfl
   refine au 1 rfl ?_
   refine au 16 rfl ?_
   exact zr (s.imp fun _ q => ⟨_, _, rfl, q⟩)
  ·replace s := s.1 rfl
   refine au 1 rfl ?_
   refine au 14 rfl ?_
   refine znil s rfl rfl fun A9 s => ?_
   refine au 1 rfl ?_
   refine Run.ldSl s fun a11 n12 c13 h14 hl s => ?_
   refine zg rfl (sem_load1 A9 ((.slice a11 n12 c13)) rfl TF.agg_98 hl ?_)
   refine au 1 rfl ?_
   obtain ⟨A15, e16, hi0, hi1, s⟩ := s
   refine zg rfl (sem_indexAddrS A15 n12 c13 .i64 (i7) (congrArg (fun a => Value.slice a n12 c13) e16) rfl TF.slc_98 hi0 hi1 ?_)
   refine au 1 rfl ?_
   refine zl s rfl rfl TF.agg_3 fun i17 s => ?_
   refine au 3 rfl ?_
   exact zr (s.imp fun _ q => ⟨_, _, rfl, q⟩)
theorem C_cell_New_file_File.of {B : RO} {i1 : Int} {b2 : Bool} {s3 : ByteArray} {h : Heap} {Q : Option Addr → Heap → Prop} (s : S_cell_New_file_File B i1 b2 s3 h Q) : C_cell_New_file_File B i1 b2 s3 h Q := by
 refine zspec Try.func36 [ResultVar.tmp 4] rfl rfl rfl rfl rfl ?_
 refine au 2 rfl ?_
 refine zbn s rfl rfl rfl fun k5 h6 s => ?_
 refine au 4 rfl ?_
 refine zg rfl (sem_buildSL [] [(.slice none 0 0)] TF.zero_123 TF.places_123 rfl rfl ?_)
 refine zbn s rfl rfl rfl fun k7 h8 s => ?_
 refine au 9 rfl ?_
 obtain ⟨J14, m12, h0, s⟩ := s
 refine Run.of_fin (h0.imp fun h' h0 => ?_)
 refine Run.loop (σ := Int × Nat) (fun x e h => J14 x.1 x.2 h ∧ Agree [(3, (.pointer (some ⟨k5, 0, none⟩))), (5, (.pointer (some ⟨k7, 0, none⟩))), (8, (.int .i64 (i1))), (9, (.int .i64 (x.1)))] e) (fun x => x.2) ((0), m12) ⟨h0, ⟨rfl, rfl, rfl, rfl, trivial⟩⟩ ?_; clear h0
 rintro ⟨i9, m11⟩ e h10 ⟨hJ, hag⟩ ih13
 have s := s i9 m11 h10 hJ; clear hJ
 refine Run.env hag ?_; clear hag
 refine au 2 rfl ?_
 refine zt s rfl rfl rfl binI_lss_t binI_lss_f (fun s => ?_) fun s => ?_
 ·refine au 6 rfl ?_
  obtain ⟨a19, n20, c21, hl, s⟩ := s
  have f22 := hl
  obtain ⟨b23, s24, hl, s⟩ := s
  have f25 := hl
  refine Run.drawM (fun h' => cellH B h' ⟨k7, 0, none⟩ = some (.slice a19 n20 c21) ∧ CellsAt B h' ⟨k5, 0, none⟩ 0 [(.bool b23), (.string s24)] ∧ True) [11] ⟨[0, 0, 2, 4, 8, 0, 32, 64, 144, 511, 1023, 1535], [4095, 4095, 4093, 4091, 4087, 4095, 4063, 4031, 3951, 4094, 3583, 2815], [0, 0, 2, 6, 14, 0, 32, 96, 254, 511, 1023, 2047], 2048⟩ (.q 0 (.q 1 (.q 2 (.q 3 (.q 4 (.q 5 (.q 6 (.x 7 (.x 8 (.q 9 (.q 10 (.x 11 .nil .no))) .no) .no)))))))) TF.mixed (by kernel_rfl) ⟨f22, f25, trivial⟩ ?_
  refine auT 4 rfl ?_
  refine zq rfl (fun _ hC => sem_load1 ⟨k7, 0, none⟩ ((.slice a19 n20 c21)) rfl TF.agg_121 hC.1 ⟨rfl, rfl⟩) ?_
  refine zq rfl (fun _ hC => sem_loadN ⟨k5, 0, none⟩ [(.bool b23), (.string s24)] rfl TF.agg_92 TF.sz_92 hC.2.1 ⟨rfl, rfl⟩) ?_
  refine zq rfl (fun _ hC => sem_buildSL [(0, (.agg #[(.bool b23), (.string s24)]))] [(.bool b23), (.string s24), (.int .i64 (0))] TF.zero_125 TF.places_125 rfl rfl ⟨rfl, rfl⟩) ?_
  refine ⟨zo rfl (sem_buildSliceL [(0, (.agg #[(.bool b23), (.string s24), (.int .i64 (0))]))] [(.bool b23), (.string s24), (.int .i64 (0))] TF.slc_121 TF.zero_125 rfl (by decide) (by decide) rfl rfl (fun k27 hb1 hb2 h28 hb3 => ?_)), trivial⟩
  have s := s k27 hb1 hb2 h28 hb3
  obtain ⟨g29, g30, s⟩ := s
  refine ⟨fun _ => ⟨g29, g30, trivial⟩, ?_⟩
  refine ⟨zo rfl (sem_appendL [(.slice a19 n20 c21), (.slice (some ⟨k27, 0, none⟩) 1 1)] rfl (semH_mono (fun v h31 hv => ?_) s)), trivial⟩
  obtain ⟨a32, n33, c34, rfl, s⟩ := hv
  obtain ⟨g35, g36, s⟩ := s
  refine ⟨fun _ => ⟨g35, g36, trivial⟩, ?_⟩
  refine auT 2 rfl ?_
  obtain ⟨h37, hst, s⟩ := s
  refine ⟨zo0 rfl (sem_store1 ⟨k7, 0, none⟩ ((.slice a32 n33 c34)) h37 rfl rfl rfl TF.sz_121 hst ?_), trivial⟩
  refine ⟨fun hz => Bool.noConfusion hz, ?_⟩
  refine au 5 rfl ?_
  exact Run.of_fin (s.imp fun h' ⟨m', hm, s⟩ => ih13 ((IntKind.wrap .i64 ((i9) + (1))), m') _ _ ⟨s, ⟨rfl, rfl, rfl, rfl, trivial⟩⟩ hm)
 ·refine au 9 rfl ?_
  exact zr (s.imp fun _ q => ⟨_, rfl, q⟩)
theorem C_sheet_New.of {B : RO} {h : Heap} {Q : Option Addr → Heap → Prop} (s : S_sheet_New B h Q) : C_sheet_New B h Q := by
 refine zspec Try.func37 [ResultVar.tmp 0] rfl rfl rfl rfl rfl ?_
 refine au 6 rfl ?_
 refine zg rfl (sem_buildSL [] [(.slice none 0 0)] TF.zero_128 TF.places_128 rfl rfl ?_)
 refine zbn s rfl rfl rfl fun k2 h3 s => ?_
 refine zg rfl (sem_buildSL [(0, (.pointer (some ⟨k2, 0, none⟩)))] [(.pointer (some ⟨k2, 0, none⟩))] TF.zero_130 TF.places_130 rfl rfl ?_)
 refine zbn s rfl rfl rfl fun k4 h5 s => ?_
 refine au 2 rfl ?_
 exact zr (s.imp fun _ q => ⟨_, rfl, q⟩)
theorem C_draft_Draft_int_find.of {B : RO} {p1 : Option Addr} {i2 : Int} {h : Heap} {Q : Int → Bool → Heap → Prop} (s : S_draft_Draft_int_find B p1 i2 h Q) : C_draft_Draft_int_find B p1 i2 h Q := by
 refine zspec Try.func38 [ResultVar.tmp 4, ResultVar.tmp 5] rfl rfl rfl rfl rfl ?_
 refine au 8 rfl ?_
 refine znil s rfl rfl fun A5 s => ?_
 refine au 1 rfl ?_
 refine Run.ldSl s fun a7 n8 c9 h10 hl s => ?_
 refine zg rfl (sem_load1 A5 ((.slice a7 n8 c9)) rfl TF.agg_98 hl ?_)
 refine au 1 rfl ?_
 refine zcall s rfl rfl TF.goes_48 ?_
 rintro _ h11 ⟨i12, b13, rfl, s⟩
 refine au 5 rfl ?_
 exact zr (s.imp fun _ q => ⟨_, _, rfl, q⟩)
theorem C_slices_Insert_s_draft_entry_int_draft_entry_int.of {B : RO} {a1 : Option Addr} {n2 : Nat} {c3 : Nat} {i4 : Int} {a5 : Option Addr} {n6 : Nat} {c7 : Nat} {h : Heap} {Q : Option Addr → Nat → Nat → Heap → Prop} (s : S_slices_Insert_s_draft_entry_int_draft_entry_int B a1 n2 c3 i4 a5 n6 c7 h Q) : C_slices_Insert_s_draft_entry_int_draft_entry_int B a1 n2 c3 i4 a5 n6 c7 h Q := by
 refine zspec Try.func39 [ResultVar.tmp 6] rfl rfl rfl rfl rfl ?_
 refine au 8 rfl ?_
 obtain ⟨hi0, hi1, hi2, s⟩ := s
 refine zg rfl (sem_sliceSlI a1 n2 c3 (i4) ((n2 : Nat)) rfl TF.slc_98 ⟨_, rfl⟩ rfl hi0 hi1 hi2 ?_)
 refine au 4 rfl ?_
 refine zg rfl (sem_lenSl a5 n6 c7 rfl TF.sl_98 ?_)
 refine au 6 rfl ?_
 refine zt s rfl rfl rfl binI_eql_t binI_eql_f (fun s => ?_) fun s => ?_
 ·refine au 7 rfl ?_
  exact zr (s.imp fun _ q => ⟨_, _, _, rfl, q⟩)
 ·refine au 6 rfl ?_
  refine zg rfl (sem_lenSl a1 n2 c3 rfl TF.sl_98 ?_)
  refine au 7 rfl ?_
  refine zt s rfl rfl rfl binI_eql_t binI_eql_f (fun s => ?_) fun s => ?_
  ·refine au 6 rfl ?_
   refine zg rfl (sem_appendL [(.slice a1 n2 c3), (.slice a5 n6 c7)] rfl (semH_mono (fun v h11 hv => ?_) s))
   obtain ⟨a12, n13, c14, rfl, s⟩ := hv
   refine au 2 rfl ?_
   exact zr (s.imp fun _ q => ⟨_, _, _, rfl, q⟩)
  ·refine au 10 rfl ?_
   refine zg rfl (sem_capSl a1 (n2) (c3) rfl TF.sl_98 ?_)
   refine zt s rfl rfl rfl binI_gtr_t binI_gtr_f (fun s => ?_) fun s => ?_
   ·refine au 6 rfl ?_
    obtain ⟨hi0, hi1, hi2, s⟩ := s
    refine zg rfl (sem_sliceSlI a1 n2 c3 (0) (i4) rfl TF.slc_98 rfl ⟨_, rfl⟩ hi0 hi1 hi2 ?_)
    refine au 5 rfl ?_
    refine zg rfl (sem_appendL [(.slice (if c3 = Int.toNat (0) then a1 else Option.map (·.add (Int.toNat (0) * 2)) a1) (Int.toNat (i4) - Int.toNat (0)) (c3 - Int.toNat (0))), (.int .i64 (IntKind.wrap .i64 ((IntKind.wrap .i64 (((n2 : Nat)) + ((n6 : Nat)))) - (i4))))] rfl (semH_mono (fun v h15 hv => ?_) s))
    obtain ⟨a16, n17, c18, rfl, s⟩ := hv
    refine au 6 rfl ?_
    obtain ⟨hi0, hi1, hi2, s⟩ := s
    refine zg rfl (sem_sliceSlI a16 n17 c18 (i4) ((n17 : Nat)) rfl TF.slc_98 ⟨_, rfl⟩ rfl hi0 hi1 hi2 ?_)
    refine au 1 rfl ?_
    refine zg rfl (sem_copyL [(.slice (if c18 = Int.toNat (i4) then a16 else Option.map (·.add (Int.toNat (i4) * 2)) a16) (Int.toNat ((n17 : Nat)) - Int.toNat (i4)) (c18 - Int.toNat (i4))), (.slice a5 n6 c7)] rfl (semH_mono (fun v h19 hv => ?_) s))
    obtain ⟨i20, rfl, s⟩ := hv
    refine au 2 rfl ?_
    refine Run.drawM (fun h' => h' = h19) [8] ⟨[0, 0, 0, 6, 9, 0, 0, 96, 144], [511, 511, 511, 505, 502, 511, 511, 415, 367], [0, 0, 0, 6, 15, 0, 0, 96, 255], 256⟩ (.q 0 (.q 1 (.q 2 (.q 3 (.q 4 (.q 5 (.q 6 (.q 7 (.x 8 .nil .no))))))))) TF.mixed (by kernel_rfl) rfl ?_
    refine auT 4 rfl ?_
    obtain ⟨hi0, hi1, hi2, s⟩ := s
    refine zqe rfl (sem_sliceSlI a16 n17 c18 (IntKind.wrap .i64 ((i4) + ((n6 : Nat)))) ((n17 : Nat)) rfl TF.slc_98 ⟨_, rfl⟩ rfl hi0 hi1 hi2 ⟨rfl, rfl⟩) ?_
    refine auT 2 rfl ?_
    obtain ⟨hi0, hi1, hi2, s⟩ := s
    refine zqe rfl (sem_sliceSlI a1 n2 c3 (i4) ((n2 : Nat)) rfl TF.slc_98 ⟨_, rfl⟩ rfl hi0 hi1 hi2 ⟨rfl, rfl⟩) ?_
    refine ⟨zo rfl (sem_copyL [(.slice (if c18 = Int.toNat (IntKind.wrap .i64 ((i4) + ((n6 : Nat)))) then a16 else Option.map (·.add (Int.toNat (IntKind.wrap .i64 ((i4) + ((n6 : Nat)))) * 2)) a16) (Int.toNat ((n17 : Nat)) - Int.toNat (IntKind.wrap .i64 ((i4) + ((n6 : Nat))))) (c18 - Int.toNat (IntKind.wrap .i64 ((i4) + ((n6 : Nat)))))), (.slice (if c3 = Int.toNat (i4) then a1 else Option.map (·.add (Int.toNat (i4) * 2)) a1) (Int.toNat ((n2 : Nat)) - Int.toNat (i4)) (c3 - Int.toNat (i4)))] rfl (semH_mono (fun v h21 hv => ?_) s)), trivial⟩
    obtain ⟨i22, rfl, s⟩ := hv
    refine ⟨fun hz => Bool.noConfusion hz, ?_⟩
    refine au 5 rfl ?_
    exact zr (s.imp fun _ q => ⟨_, _, _, rfl, q⟩)
   ·refine au 9 rfl ?_
    obtain ⟨hi0, hi1, hi2, s⟩ := s
    refine zg rfl (sem_sliceSlI a1 n2 c3 (0) (IntKind.wrap .i64 (((n2 : Nat)) + ((n6 : Nat)))) rfl TF.slc_98 rfl ⟨_, rfl⟩ hi0 hi1 hi2 ?_)
    refine au 10 rfl ?_
    obtain ⟨hi0, hi1, hi2, s⟩ := s
    refine zg rfl (sem_sliceSlI (if c3 = Int.toNat (0) then a1 else Option.map (·.add (Int.toNat (0) * 2)) a1) (Int.toNat (IntKind.wrap .i64 (((n2 : Nat)) + ((n6 : Nat)))) - Int.toNat (0)) (c3 - Int.toNat (0)) (IntKind.wrap .i64 ((i4) + ((n6 : Nat)))) (((Int.toNat (IntKind.wrap .i64 (((n2 : Nat)) + ((n6 : Nat)))) - Int.toNat (0)) : Nat)) rfl TF.slc_98 ⟨_, rfl⟩ rfl hi0 hi1 hi2 ?_)
    refine zg rfl (sem_callXL [(.slice a5 n6 c7), (.slice (if (c3 - Int.toNat (0)) = Int.toNat (IntKind.wrap .i64 ((i4) + ((n6 : Nat)))) then (if c3 = Int.toNat (0) then a1 else Option.map (·.add (Int.toNat (0) * 2)) a1) else Option.map (·.add (Int.toNat (IntKind.wrap .i64 ((i4) + ((n6 : Nat)))) * 2)) (if c3 = Int.toNat (0) then a1 else Option.map (·.add (Int.toNat (0) * 2)) a1)) (Int.toNat (((Int.toNat (IntKind.wrap .i64 (((n2 : Nat)) + ((n6 : Nat)))) - Int.toNat (0)) : Nat)) - Int.toNat (IntKind.wrap .i64 ((i4) + ((n6 : Nat))))) ((c3 - Int.toNat (0)) - Int.toNat (IntKind.wrap .i64 ((i4) + ((n6 : Nat))))))] (TF.goesx_50) rfl rfl (semH_mono (fun v h23 hv => ?_) s))
    obtain ⟨b24, rfl, s⟩ := hv
    cases b24
    ·replace s := s.2 rfl
     refine au 4 rfl ?_
     refine Run.drawM (fun h' => h' = h23) [8] ⟨[0, 0, 0, 6, 9, 0, 0, 96, 144], [511, 511, 511, 505, 502, 511, 511, 415, 367], [0, 0, 0, 6, 15, 0, 0, 96, 255], 256⟩ (.q 0 (.q 1 (.q 2 (.q 3 (.q 4 (.q 5 (.q 6 (.q 7 (.x 8 .nil .no))))))))) TF.mixed (by kernel_rfl) rfl ?_
     refine auT 4 rfl ?_
     obtain ⟨hi0, hi1, hi2, s⟩ := s
     refine zqe rfl (sem_sliceSlI (if c3 = Int.toNat (0) then a1 else Option.map (·.add (Int.toNat (0) * 2)) a1) (Int.toNat (IntKind.wrap .i64 (((n2 : Nat)) + ((n6 : Nat)))) - Int.toNat (0)) (c3 - Int.toNat (0)) (IntKind.wrap .i64 ((i4) + ((n6 : Nat)))) (((Int.toNat (IntKind.wrap .i64 (((n2 : Nat)) + ((n6 : Nat)))) - Int.toNat (0)) : Nat)) rfl TF.slc_98 ⟨_, rfl⟩ rfl hi0 hi1 hi2 ⟨rfl, rfl⟩) ?_
     refine auT 2 rfl ?_
     obtain ⟨hi0, hi1, hi2, s⟩ := s
     refine zqe rfl (sem_sliceSlI (if c3 = Int.toNat (0) then a1 else Option.map (·.add (Int.toNat (0) * 2)) a1) (Int.toNat (IntKind.wrap .i64 (((n2 : Nat)) + ((n6 : Nat)))) - Int.toNat (0)) (c3 - Int.toNat (0)) (i4) (((Int.toNat (IntKind.wrap .i64 (((n2 : Nat)) + ((n6 : Nat)))) - Int.toNat (0)) : Nat)) rfl TF.slc_98 ⟨_, rfl⟩ rfl hi0 hi1 hi2 ⟨rfl, rfl⟩) ?_
     refine ⟨zo rfl (sem_copyL [(.slice (if (c3 - Int.toNat (0)) = Int.toNat (IntKind.wrap .i64 ((i4) + ((n6 : Nat)))) then (if c3 = Int.toNat (0) then a1 else Option.map (·.add (Int.toNat (0) * 2)) a1) else Option.map (·.add (Int.toNat (IntKind.wrap .i64 ((i4) + ((n6 : Nat)))) * 2)) (if c3 = Int.toNat (0) then a1 else Option.map (·.add (Int.toNat (0) * 2)) a1)) (Int.toNat (((Int.toNat (IntKind.wrap .i64 (((n2 : Nat)) + ((n6 : Nat)))) - Int.toNat (0)) : Nat)) - Int.toNat (IntKind.wrap .i64 ((i4) + ((n6 : Nat))))) ((c3 - Int.toNat (0)) - Int.toNat (IntKind.wrap .i64 ((i4) + ((n6 : Nat)))))), (.slice (if (c3 - Int.toNat (0)) = Int.toNat (i4) then (if c3 = Int.toNat (0) then a1 else Option.map (·.add (Int.toNat (0) * 2)) a1) else Option.map (·.add (Int.toNat (i4) * 2)) (if c3 = Int.toNat (0) then a1 else Option.map (·.add (Int.toNat (0) * 2)) a1)) (Int.toNat (((Int.toNat (IntKind.wrap .i64 (((n2 : Nat)) + ((n6 : Nat)))) - Int.toNat (0)) : Nat)) - Int.toNat (i4)) ((c3 - Int.toNat (0)) - Int.toNat (i4)))] rfl (semH_mono (fun v h25 hv => ?_) s)), trivial⟩
     obtain ⟨i26, rfl, s⟩ := hv
     refine ⟨fun hz => Bool.noConfusion hz, ?_⟩
     refine au 4 rfl ?_
     obtain ⟨hi0, hi1, hi2, s⟩ := s
     refine zg rfl (sem_sliceSlI (if c3 = Int.toNat (0) then a1 else Option.map (·.add (Int.toNat (0) * 2)) a1) (Int.toNat (IntKind.wrap .i64 (((n2 : Nat)) + ((n6 : Nat)))) - Int.toNat (0)) (c3 - Int.toNat (0)) (i4) (((Int.toNat (IntKind.wrap .i64 (((n2 : Nat)) + ((n6 : Nat)))) - Int.toNat (0)) : Nat)) rfl TF.slc_98 ⟨_, rfl⟩ rfl hi0 hi1 hi2 ?_)
     refine au 1 rfl ?_
     refine zg rfl (sem_copyL [(.slice (if (c3 - Int.toNat (0)) = Int.toNat (i4) then (if c3 = Int.toNat (0) then a1 else Option.map (·.add (Int.toNat (0) * 2)) a1) else Option.map (·.add (Int.toNat (i4) * 2)) (if c3 = Int.toNat (0) then a1 else Option.map (·.add (Int.toNat (0) * 2)) a1)) (Int.toNat (((Int.toNat (IntKind.wrap .i64 (((n2 : Nat)) + ((n6 : Nat)))) - Int.toNat (0)) : Nat)) - Int.toNat (i4)) ((c3 - Int.toNat (0)) - Int.toNat (i4))), (.slice a5 n6 c7)] rfl (semH_mono (fun v h27 hv => ?_) s))
     obtain ⟨i28, rfl, s⟩ := hv
     refine au 6 rfl ?_
     exact zr (s.imp fun _ q => ⟨_, _, _, rfl, q⟩)
    ·replace s := s.1 rfl
     refine au 8 rfl ?_
     obtain ⟨hi0, hi1, hi2, s⟩ := s
     refine zg rfl (sem_sliceSlI (if c3 = Int.toNat (0) then a1 else Option.map (·.add (Int.toNat (0) * 2)) a1) (Int.toNat (IntKind.wrap .i64 (((n2 : Nat)) + ((n6 : Nat)))) - Int.toNat (0)) (c3 - Int.toNat (0)) ((n2 : Nat)) (((Int.toNat (IntKind.wrap .i64 (((n2 : Nat)) + ((n6 : Nat)))) - Int.toNat (0)) : Nat)) rfl TF.slc_98 ⟨_, rfl⟩ rfl hi0 hi1 hi2 ?_)
     refine au 1 rfl ?_
     refine zg rfl (sem_copyL [(.slice (if (c3 - Int.toNat (0)) = Int.toNat ((n2 : Nat)) then (if c3 = Int.toNat (0) then a1 else Option.map (·.add (Int.toNat (0) * 2)) a1) else Option.map (·.add (Int.toNat ((n2 : Nat)) * 2)) (if c3 = Int.toNat (0) then a1 else Option.map (·.add (Int.toNat (0) * 2)) a1)) (Int.toNat (((Int.toNat (IntKind.wrap .i64 (((n2 : Nat)) + ((n6 : Nat)))) - Int.toNat (0)) : Nat)) - Int.toNat ((n2 : Nat))) ((c3 - Int.toNat (0)) - Int.toNat ((n2 : Nat)))), (.slice a5 n6 c7)] rfl (semH_mono (fun v h29 hv => ?_) s))
     obtain ⟨i30, rfl, s⟩ := hv
     refine au 5 rfl ?_
     obtain ⟨hi0, hi1, hi2, s⟩ := s
     refine zg rfl (sem_sliceSlI (if c3 = Int.toNat (0) then a1 else Option.map (·.add (Int.toNat (0) * 2)) a1) (Int.toNat (IntKind.wrap .i64 (((n2 : Nat)) + ((n6 : Nat)))) - Int.toNat (0)) (c3 - Int.toNat (0)) (i4) (((Int.toNat (IntKind.wrap .i64 (((n2 : Nat)) + ((n6 : Nat)))) - Int.toNat (0)) : Nat)) rfl TF.slc_98 ⟨_, rfl⟩ rfl hi0 hi1 hi2 ?_)
     refine au 1 rfl ?_
     refine zcall s rfl rfl TF.goes_51 ?_
     rintro _ h31 ⟨rfl, s⟩
     refine au 6 rfl ?_
     exact zr (s.imp fun _ q => ⟨_, _, _, rfl, q⟩)
theorem C_reads_Set_Valid.of {B : RO} {p1 : Option Addr} {l2 : List Value} {h : Heap} {Q : Bool → Heap → Prop} (s : S_reads_Set_Valid B p1 l2 h Q) : C_reads_Set_Valid B p1 l2 h Q := by
 refine zspec Try.func40 [ResultVar.tmp 4] rfl rfl rfl rfl rfl ?_
 refine au 2 rfl ?_
 refine zg rfl (sem_boxNN l2 rfl (fun k4 hb1 hb2 h5 hb3 => ?_))
 have s := s k4 hb1 hb2 h5 hb3
 refine au 6 rfl ?_
 by_cases hb6 : p1 = none
 ·replace s := s.1 hb6
  refine zg rfl (sem_ptrNilT p1 (.inl rfl) true rfl rfl TF.ptr_49 hb6 rfl ?_)
  refine au 6 rfl ?_
  exact zr (s.imp fun _ q => ⟨_, rfl, q⟩)
 ·replace s := s.2 hb6
  refine zg rfl (sem_ptrNilF p1 (.inl rfl) false rfl rfl TF.ptr_49 hb6 rfl ?_)
  refine au 7 rfl ?_
  refine znil s rfl rfl fun A7 s => ?_
  refine au 1 rfl ?_
  refine Run.ldSl s fun a9 n10 c11 h12 hl s => ?_
  refine zg rfl (sem_load1 A7 ((.slice a9 n10 c11)) rfl TF.agg_95 hl ?_)
  refine zg rfl (sem_lenSl a9 n10 c11 rfl TF.sl_95 ?_)
  refine au 3 rfl ?_
  obtain ⟨J18, m16, h0, s⟩ := s
  refine Run.of_fin (h0.imp fun h' h0 => ?_)
  refine Run.loop (σ := Int × Nat) (fun x e h => J18 x.1 x.2 h ∧ Agree [(3, (.pointer (some ⟨k4, 0, none⟩))), (12, (.slice a9 n10 c11)), (13, (.int .i64 ((n10 : Nat)))), (14, (.int .i64 (x.1)))] e) (fun x => x.2) ((0), m16) ⟨h0, ⟨rfl, rfl, rfl, rfl, trivial⟩⟩ ?_; clear h0
  rintro ⟨i13, m15⟩ e h14 ⟨hJ, hag⟩ ih17
  have s := s i13 m15 h14 hJ; clear hJ
  refine Run.env hag ?_; clear hag
  refine au 2 rfl ?_
  refine zt s rfl rfl rfl binI_lss_t binI_lss_f (fun s => ?_) fun s => ?_
  ·refine au 8 rfl ?_
   obtain ⟨A19, e20, hi0, hi1, s⟩ := s
   refine zg rfl (sem_indexAddrS A19 n10 c11 .i64 (i13) (congrArg (fun a => Value.slice a n10 c11) e20) rfl TF.slc_95 hi0 hi1 ?_)
   obtain ⟨i21, i22, i23, hl, s⟩ := s
   refine zn hl rfl rfl TF.agg_136 TF.sz_136 rfl ?_
   refine zal s rfl TF.zero_136 rfl fun k24 h25 s => ?_
   refine zsn s rfl rfl rfl TF.sz_136 rfl fun h26 s => ?_
   refine au 2 rfl ?_
   obtain ⟨l27, hln, hl, s⟩ := s
   have f28 := hl
   obtain ⟨i30, hl, s⟩ := s
   have f31 := hl
   obtain ⟨i33, hl, s⟩ := s
   have f34 := hl
   obtain ⟨i36, hl, s⟩ := s
   have f37 := hl
   refine Run.drawM (fun h' => CellsAt B h' ⟨k4, 0, none⟩ 0 l27 ∧ cellH B h' ⟨k24, 0, none⟩ = some (.int .i64 (i30)) ∧ cellH B h' ⟨k24, 1, none⟩ = some (.int .i64 (i33)) ∧ cellH B h' ⟨k24, 2, none⟩ = some (.int .i64 (i36)) ∧ True) [] ⟨[0, 0, 2, 0, 8, 21, 0, 64, 160], [511, 511, 509, 511, 503, 490, 511, 447, 351], [0, 0, 0, 0, 0, 0, 0, 0, 0], 0⟩ (.q 0 (.q 1 (.q 2 (.q 3 (.q 4 (.q 6 (.q 7 (.x 5 (.q 8 .nil) .no)))))))) TF.mixed (by kernel_rfl) ⟨f28, f31, f34, f37, trivial⟩ ?_
   refine zq rfl (fun _ hC => sem_loadN ⟨k4, 0, none⟩ l27 rfl TF.agg_112 (TF.sz_112.trans (congrArg some hln.symm)) hC.1 ⟨rfl, rfl⟩) ?_
   refine auT 1 rfl ?_
   refine zq rfl (fun _ hC => sem_load1 ⟨k24, 0, none⟩ ((.int .i64 (i30))) rfl TF.agg_85 hC.2.1 ⟨rfl, rfl⟩) ?_
   refine auT 1 rfl ?_
   refine zq rfl (fun _ hC => sem_load1 ⟨k24, 1, none⟩ ((.int .i64 (i33))) rfl TF.agg_3 hC.2.2.1 ⟨rfl, rfl⟩) ?_
   refine auT 1 rfl ?_
   refine zq rfl (fun _ hC => sem_load1 ⟨k24, 2, none⟩ ((.int .i64 (i36))) rfl TF.agg_3 hC.2.2.2.1 ⟨rfl, rfl⟩) ?_
   refine ⟨zo rfl (sem_callL [(.agg (List.toArray l27)), (.int .i64 (i30)), (.int .i64 (i33))] (TF.goes_52) rfl rfl (Spec.mono s fun v h38 hv => ?_)), trivial⟩
   obtain ⟨i39, rfl, s⟩ := hv
   obtain ⟨g40, g41, g42, g43, s⟩ := s
   refine ⟨fun _ => ⟨g40, g41, g42, g43, trivial⟩, ?_⟩
   by_cases hb44 : (i39 : Int) = i36
   ·replace s := s.1 hb44
    refine zq rfl (fun _ _ => sem_binI .i64 (i39) (i36) (.bool false) rfl rfl (binI_neq_t hb44) ⟨rfl, rfl⟩) ?_
    refine au 7 rfl ?_
    exact Run.of_fin (s.imp fun h' ⟨m', hm, s⟩ => ih17 ((IntKind.wrap .i64 ((i13) + (1))), m') _ _ ⟨s, ⟨rfl, rfl, rfl, rfl, trivial⟩⟩ hm)
   ·replace s := s.2 hb44
    refine zq rfl (fun _ _ => sem_binI .i64 (i39) (i36) (.bool true) rfl rfl (binI_neq_f hb44) ⟨rfl, rfl⟩) ?_
    refine au 5 rfl ?_
    exact zr (s.imp fun _ q => ⟨_, rfl, q⟩)
  ·refine au 8 rfl ?_
   exact zr (s.imp fun _ q => ⟨_, rfl, q⟩)
theorem C_attempt_View_Now.of {B : RO} {p1 : Option Addr} {h : Heap} {Q : List Value → Heap → Prop} (s : S_attempt_View_Now B p1 h Q) : C_attempt_View_Now B p1 h Q := by
 refine zspec Try.func41 [ResultVar.cell 2 112] rfl rfl rfl rfl rfl ?_
 refine au 2 rfl ?_
 refine zal s rfl TF.zero_112 rfl fun k3 h4 s => ?_
 refine au 5 rfl ?_
 by_cases hb5 : p1 = none
 ·replace s := s.1 hb5
  refine zg rfl (sem_ptrNilT p1 (.inl rfl) true rfl rfl TF.ptr_24 hb5 rfl ?_)
  refine au 4 rfl ?_
  refine zg rfl (sem_buildSL [] (List.replicate 25 (.int .i64 (0))) TF.zero_112 TF.places_112 rfl rfl ?_)
  refine zsn s rfl rfl rfl TF.sz_112 rfl fun h6 s => ?_
  refine au 1 rfl ?_
  obtain ⟨l7, hln0, hl0, s⟩ := s
  exact zr (⟨⟨k3, 0, none⟩, (.agg (List.toArray l7)), rfl, loadHN TF.agg_112 (TF.sz_112.trans (congrArg some hln0.symm)) hl0, s.imp fun _ q => ⟨_, rfl, q⟩⟩)
 ·replace s := s.2 hb5
  refine zg rfl (sem_ptrNilF p1 (.inl rfl) false rfl rfl TF.ptr_24 hb5 rfl ?_)
  refine au 6 rfl ?_
  refine znil s rfl rfl fun A8 s => ?_
  refine au 1 rfl ?_
  refine zl s rfl rfl TF.agg_3 fun i10 s => ?_
  refine zg rfl (sem_buildSL [(1, (.int .i64 (i10)))] [(.int .i64 (0)), (.int .i64 (0)), (.int .i64 (0)), (.int .i64 (0)), (.int .i64 (0)), (.int .i64 (0)), (.int .i64 (0)), (.int .i64 (0)), (.int .i64 (0)), (.int .i64 (0)), (.int .i64 (0)), (.int .i64 (0)), (.int .i64 (0)), (.int .i64 (0)), (.int .i64 (0)), (.int .i64 (0)), (.int .i64 (0)), (.int .i64 (0)), (.int .i64 (0)), (.int .i64 (0)), (.int .i64 (0)), (.int .i64 (0)), (.int .i64 (0)), (.int .i64 (0)), (.int .i64 (i10))] TF.zero_112 TF.places_112 rfl rfl ?_)
  refine zal s rfl TF.zero_112 rfl fun k11 h12 s => ?_
  refine zsn s rfl rfl rfl TF.sz_112 rfl fun h13 s => ?_
  refine au 1 rfl ?_
  refine Run.seqJ (fun e h15 => Agree [(0, (.pointer p1)), (2, (.pointer (some ⟨k3, 0, none⟩))), (3, (.pointer (some ⟨k11, 0, none⟩)))] e ∧ S_attempt_View_Now_J1 B p1 k3 k11 h15 Q) ?_ fun j14 => ?_
  ·rintro e h15 ⟨hag, s⟩
   refine Run.env hag ?_; clear hag
   refine Run.seqJ (fun e h17 => Agree [(0, (.pointer p1)), (2, (.pointer (some ⟨k3, 0, none⟩))), (3, (.pointer (some ⟨k11, 0, none⟩)))] e ∧ S_attempt_View_Now_J2 B p1 k3 k11 h17 Q) ?_ fun j16 => ?_
   ·rintro e h17 ⟨hag, s⟩
    refine Run.env hag ?_; clear hag
    refine au 6 rfl ?_
    obtain ⟨J23, m21, h0, s⟩ := s
    refine Run.of_fin (h0.imp fun h' h0 => ?_)
    refine Run.loop (σ := Int × Nat) (fun x e h => J23 x.1 x.2 h ∧ Agree [(0, (.pointer p1)), (2, (.pointer (some ⟨k3, 0, none⟩))), (3, (.pointer (some ⟨k11, 0, none⟩))), (46, (.int .i64 (x.1)))] e) (fun x => x.2) ((0), m21) ⟨h0, ⟨rfl, rfl, rfl, rfl, trivial⟩⟩ ?_; clear h0
    rintro ⟨i18, m20⟩ e h19 ⟨hJ, hag⟩ ih22
    have s := s i18 m20 h19 hJ; clear hJ
    refine Run.env hag ?_; clear hag
    refine au 2 rfl ?_
    refine zt s rfl rfl rfl binI_lss_t binI_lss_f (fun s => ?_) fun s => ?_
    ·refine au 14 rfl ?_
     refine znil s rfl rfl fun A24 s => ?_
     refine au 1 rfl ?_
     refine zl s rfl rfl TF.agg_35 fun p26 s => ?_
     refine au 1 rfl ?_
     refine zcall s rfl rfl TF.goes_26 ?_
     rintro _ h27 ⟨i28, i29, rfl, s⟩
     refine au 4 rfl ?_
     obtain ⟨hi0, hi1, s⟩ := s
     refine zg rfl (sem_indexAddrA ⟨k11, 0, none⟩ .i64 (2) rfl rfl TF.arr_110 hi0 hi1 ?_)
     obtain ⟨hi0, hi1, s⟩ := s
     refine zg rfl (sem_indexAddrA ⟨k11, 16, none⟩ .i64 (i18) rfl rfl TF.arr_109 hi0 hi1 ?_)
     refine zs1 s rfl rfl rfl rfl TF.sz_3 fun h30 s => ?_
     refine au 6 rfl ?_
     exact Run.of_fin (s.imp fun h' ⟨m', hm, s⟩ => ih22 ((IntKind.wrap .i64 ((i18) + (1))), m') _ _ ⟨s, ⟨rfl, rfl, rfl, rfl, trivial⟩⟩ hm)
    ·refine au 6 rfl ?_
     obtain ⟨l31, hln, hl, s⟩ := s
     refine zg rfl (sem_loadN ⟨k11, 0, none⟩ l31 rfl TF.agg_112 (TF.sz_112.trans (congrArg some hln.symm)) hl ?_)
     obtain ⟨hln, h32, hst, s⟩ := s
     refine zg0 rfl (sem_storeN ⟨k3, 0, none⟩ l31 h32 rfl rfl (TF.sz_112.trans (congrArg some hln.symm)) hst ?_)
     refine au 1 rfl ?_
     obtain ⟨l33, hln0, hl0, s⟩ := s
     exact zr (⟨⟨k3, 0, none⟩, (.agg (List.toArray l33)), rfl, loadHN TF.agg_112 (TF.sz_112.trans (congrArg some hln0.symm)) hl0, s.imp fun _ q => ⟨_, rfl, q⟩⟩)
   refine au 5 rfl ?_
   obtain ⟨J39, m37, h0, s⟩ := s
   refine Run.of_fin (h0.imp fun h' h0 => ?_)
   refine Run.loop (σ := Int × Nat) (fun x e h => J39 x.1 x.2 h ∧ Agree [(0, (.pointer p1)), (2, (.pointer (some ⟨k3, 0, none⟩))), (3, (.pointer (some ⟨k11, 0, none⟩))), (29, (.int .i64 (x.1)))] e) (fun x => x.2) ((0), m37) ⟨h0, ⟨rfl, rfl, rfl, rfl, trivial⟩⟩ ?_; clear h0
   rintro ⟨i34, m36⟩ e h35 ⟨hJ, hag⟩ ih38
   have s := s i34 m36 h35 hJ; clear hJ
   refine Run.env hag ?_; clear hag
   refine au 2 rfl ?_
   refine zt s rfl rfl rfl binI_lss_t binI_lss_f (fun s => ?_) fun s => ?_
   ·refine au 14 rfl ?_
    refine znil s rfl rfl fun A40 s => ?_
    refine au 1 rfl ?_
    refine zl s rfl rfl TF.agg_34 fun p42 s => ?_
    refine au 1 rfl ?_
    refine zcall s rfl rfl TF.goes_54 ?_
    rintro _ h43 ⟨b44, s45, i46, rfl, s⟩
    refine au 4 rfl ?_
    obtain ⟨hi0, hi1, s⟩ := s
    refine zg rfl (sem_indexAddrA ⟨k11, 0, none⟩ .i64 (1) rfl rfl TF.arr_110 hi0 hi1 ?_)
    obtain ⟨hi0, hi1, s⟩ := s
    refine zg rfl (sem_indexAddrA ⟨k11, 8, none⟩ .i64 (i34) rfl rfl TF.arr_109 hi0 hi1 ?_)
    refine zs1 s rfl rfl rfl rfl TF.sz_3 fun h47 s => ?_
    refine au 6 rfl ?_
    exact Run.of_fin (s.imp fun h' ⟨m', hm, s⟩ => ih38 ((IntKind.wrap .i64 ((i34) + (1))), m') _ _ ⟨s, ⟨rfl, rfl, rfl, rfl, trivial⟩⟩ hm)
   ·refine au 4 rfl ?_
    exact Run.of_fin (s.imp fun h' s => j16 _ _ ⟨⟨rfl, rfl, rfl, trivial⟩, s⟩)
  refine au 5 rfl ?_
  obtain ⟨J53, m51, h0, s⟩ := s
  refine Run.of_fin (h0.imp fun h' h0 => ?_)
  refine Run.loop (σ := Int × Nat) (fun x e h => J53 x.1 x.2 h ∧ Agree [(0, (.pointer p1)), (2, (.pointer (some ⟨k3, 0, none⟩))), (3, (.pointer (some ⟨k11, 0, none⟩))), (15, (.int .i64 (x.1)))] e) (fun x => x.2) ((0), m51) ⟨h0, ⟨rfl, rfl, rfl, rfl, trivial⟩⟩ ?_; clear h0
  rintro ⟨i48, m50⟩ e h49 ⟨hJ, hag⟩ ih52
  have s := s i48 m50 h49 hJ; clear hJ
  refine Run.env hag ?_; clear hag
  refine au 2 rfl ?_
  refine zt s rfl rfl rfl binI_lss_t binI_lss_f (fun s => ?_) fun s => ?_
  ·refine au 14 rfl ?_
   refine znil s rfl rfl fun A54 s => ?_
   refine au 1 rfl ?_
   refine zl s rfl rfl TF.agg_33 fun p56 s => ?_
   refine au 1 rfl ?_
   refine zcall s rfl rfl TF.goes_53 ?_
   rintro _ h57 ⟨i58, rfl, s⟩
   refine au 1 rfl ?_
   obtain ⟨hi0, hi1, s⟩ := s
   refine zg rfl (sem_indexAddrA ⟨k11, 0, none⟩ .i64 (0) rfl rfl TF.arr_110 hi0 hi1 ?_)
   obtain ⟨hi0, hi1, s⟩ := s
   refine zg rfl (sem_indexAddrA ⟨k11, 0, none⟩ .i64 (i48) rfl rfl TF.arr_109 hi0 hi1 ?_)
   refine zs1 s rfl rfl rfl rfl TF.sz_3 fun h59 s => ?_
   refine au 6 rfl ?_
   exact Run.of_fin (s.imp fun h' ⟨m', hm, s⟩ => ih52 ((IntKind.wrap .i64 ((i48) + (1))), m') _ _ ⟨s, ⟨rfl, rfl, rfl, rfl, trivial⟩⟩ hm)
  ·refine au 4 rfl ?_
   exact Run.of_fin (s.imp fun h' s => j14 _ _ ⟨⟨rfl, rfl, rfl, trivial⟩, s⟩)
theorem C_draft_Draft_int_All_1.of {B : RO} {v1 : Value} {A2 : Addr} {h : Heap} {Q : Heap → Prop} (s : S_draft_Draft_int_All_1 B v1 A2 h Q) : C_draft_Draft_int_All_1 B v1 A2 h Q := by
 refine zspec Try.func42 [] rfl rfl rfl rfl rfl ?_
 refine au 3 rfl ?_
 refine zl s rfl rfl TF.agg_51 fun p3 s => ?_
 by_cases hb4 : p3 = none
 ·replace s := s.1 hb4
  refine zg rfl (sem_ptrNilT p3 (.inl rfl) true rfl rfl TF.ptr_51 hb4 rfl ?_)
  refine au 2 rfl ?_
  exact zr (s.imp fun _ q => ⟨rfl, q⟩)
 ·replace s := s.2 hb4
  refine zg rfl (sem_ptrNilF p3 (.inl rfl) false rfl rfl TF.ptr_51 hb4 rfl ?_)
  refine au 5 rfl ?_
  refine zl s rfl rfl TF.agg_51 fun p5 s => ?_
  refine znil s rfl rfl fun A6 s => ?_
  refine au 1 rfl ?_
  refine Run.ldSl s fun a8 n9 c10 h11 hl s => ?_
  refine zg rfl (sem_load1 A6 ((.slice a8 n9 c10)) rfl TF.agg_98 hl ?_)
  refine zg rfl (sem_lenSl a8 n9 c10 rfl TF.sl_98 ?_)
  refine au 3 rfl ?_
  obtain ⟨J17, m15, h0, s⟩ := s
  refine Run.of_fin (h0.imp fun h' h0 => ?_)
  refine Run.loop (σ := Int × Nat) (fun x e h => J17 x.1 x.2 h ∧ Agree [(0, v1), (10, (.slice a8 n9 c10)), (11, (.int .i64 ((n9 : Nat)))), (12, (.int .i64 (x.1)))] e) (fun x => x.2) ((0), m15) ⟨h0, ⟨rfl, rfl, rfl, rfl, trivial⟩⟩ ?_; clear h0
  rintro ⟨i12, m14⟩ e h13 ⟨hJ, hag⟩ ih16
  have s := s i12 m14 h13 hJ; clear hJ
  refine Run.env hag ?_; clear hag
  refine au 2 rfl ?_
  refine zt s rfl rfl rfl binI_lss_t binI_lss_f (fun s => ?_) fun s => ?_
  ·refine au 8 rfl ?_
   obtain ⟨A18, e19, hi0, hi1, s⟩ := s
   refine zg rfl (sem_indexAddrS A18 n9 c10 .i64 (i12) (congrArg (fun a => Value.slice a n9 c10) e19) rfl TF.slc_98 hi0 hi1 ?_)
   obtain ⟨i20, i21, hl, s⟩ := s
   refine zn hl rfl rfl TF.agg_106 TF.sz_106 rfl ?_
   refine zal s rfl TF.zero_106 rfl fun k22 h23 s => ?_
   refine zsn s rfl rfl rfl TF.sz_106 rfl fun h24 s => ?_
   refine au 5 rfl ?_
   refine zl s rfl rfl TF.agg_3 fun i25 s => ?_
   refine au 1 rfl ?_
   refine zl s rfl rfl TF.agg_3 fun i26 s => ?_
   refine zg rfl (sem_callV (v1) [(.int .i64 (i25)), (.int .i64 (i26))] rfl rfl s (fun nx h' ha => ha.mono fun v h27 hv => ?_))
   obtain ⟨b28, rfl, s⟩ := hv
   cases b28
   ·replace s := s.2 rfl
    refine au 3 rfl ?_
    exact zr (s.imp fun _ q => ⟨rfl, q⟩)
   ·replace s := s.1 rfl
    refine au 9 rfl ?_
    exact Run.of_fin (s.imp fun h' ⟨m', hm, s⟩ => ih16 ((IntKind.wrap .i64 ((i12) + (1))), m') _ _ ⟨s, ⟨rfl, rfl, rfl, rfl, trivial⟩⟩ hm)
  ·refine au 4 rfl ?_
   exact zf (s.imp fun _ q => ⟨rfl, q⟩)
theorem C_sheet_Sheet_Draft.of {B : RO} {p1 : Option Addr} {h : Heap} {Q : Option Addr → Heap → Prop} (s : S_sheet_Sheet_Draft B p1 h Q) : C_sheet_Sheet_Draft B p1 h Q := by
 refine zspec Try.func43 [ResultVar.tmp 2] rfl rfl rfl rfl rfl ?_
 refine au 8 rfl ?_
 by_cases hb3 : p1 = none
 ·replace s := s.1 hb3
  refine zg rfl (sem_ptrNilT p1 (.inl rfl) true rfl rfl TF.ptr_52 hb3 rfl ?_)
  refine au 6 rfl ?_
  exact zr (s.imp fun _ q => ⟨_, rfl, q⟩)
 ·replace s := s.2 hb3
  refine zg rfl (sem_ptrNilF p1 (.inl rfl) false rfl rfl TF.ptr_52 hb3 rfl ?_)
  refine au 6 rfl ?_
  refine znil s rfl rfl fun A4 s => ?_
  refine au 1 rfl ?_
  refine zl s rfl rfl TF.agg_116 fun p6 s => ?_
  refine au 2 rfl ?_
  exact zr (s.imp fun _ q => ⟨_, rfl, q⟩)
theorem C_draft_Draft_file_File_All.of {B : RO} {p1 : Option Addr} {h : Heap} {Q : Value → Heap → Prop} (s : S_draft_Draft_file_File_All B p1 h Q) : C_draft_Draft_file_File_All B p1 h Q := by
 refine zspec Try.func44 [ResultVar.tmp 2] rfl rfl rfl rfl rfl ?_
 refine au 2 rfl ?_
 refine zb1 s rfl rfl rfl rfl fun k3 h4 s => ?_
 refine au 7 rfl ?_
 exact zr (s.imp fun _ q => ⟨_, rfl, q⟩)
theorem C_tome_Tome_Set.of {B : RO} {p1 : Option Addr} {i2 : Int} {b3 : Bool} {s4 : ByteArray} {i5 : Int} {h : Heap} {Q : Bool → Heap → Prop} (s : S_tome_Tome_Set B p1 i2 b3 s4 i5 h Q) : C_tome_Tome_Set B p1 i2 b3 s4 i5 h Q := by
 refine zspec Try.func45 [ResultVar.tmp 8] rfl rfl rfl rfl rfl ?_
 refine au 2 rfl ?_
 refine zbn s rfl rfl rfl fun k7 h8 s => ?_
 refine au 3 rfl ?_
 by_cases hb10 : p1 = none
 ·replace s := s.1 hb10
  refine Run.drawM (fun h' => True) [] ⟨[0, 1, 2, 4, 12, 20, 48, 64, 192, 320, 576, 64, 64, 64, 15424, 16448, 65535], [131071, 131070, 131069, 131067, 131059, 131051, 131039, 131007, 130879, 130751, 130495, 131007, 131007, 131007, 115647, 114623, 98303], [0, 0, 0, 0, 0, 0, 0, 0, 0, 0, 0, 0, 0, 0, 0, 0, 0], 0⟩ (.q 0 (.q 1 (.q 2 (.q 3 (.x 4 (.q 5 (.q 6 (.q 7 (.q 8 (.q 9 (.q 11 (.q 13 (.x 10 (.x 12 (.x 14 (.q 15 (.q 16 .nil)) .no) .no) (.x 12 (.x 10 (.x 14 (.q 15 (.q 16 .nil)) .no) .no) .no))))))))) .no))))) TF.mixed (by kernel_rfl) trivial ?_
  refine auT 1 rfl ?_
  refine zq rfl (fun _ hC => sem_ptrNilT p1 (.inr rfl) false rfl rfl TF.ptr_34 hb10 rfl ⟨rfl, rfl⟩) ?_
  refine auT 2 rfl ?_
  refine ⟨zon rfl ⟨fun _ => trivial, ?_⟩, trivial⟩
  refine auT 7 rfl ?_
  refine RunT.joinJ (t := (.x 14 (.q 15 (.q 16 .nil)) .no)) (fun e h14 => Agree [(8, (.bool false)), (15, (.bool false))] e ∧ S_tome_Tome_Set_J1 B h14 Q) ?_ fun j13 => ?_
  ·rintro e h14 ⟨hag, s⟩
   refine RunT.env hag ?_; clear hag
   refine ⟨zon rfl ⟨fun _ => trivial, ?_⟩, trivial⟩
   refine auT 2 rfl ?_
   exact zr (s.imp fun _ q => ⟨_, rfl, q⟩)
  refine ⟨?_, ?_, trivial⟩
  ·have s := s.1
   refine zon rfl ⟨fun _ => trivial, ?_⟩
   refine ⟨zon rfl ⟨fun _ => trivial, ?_⟩, trivial⟩
   exact j13 _ _ ⟨⟨rfl, rfl, trivial⟩, s⟩
  ·have s := s.2
   refine zon rfl ⟨fun _ => trivial, ?_⟩
   refine ⟨zon rfl ⟨fun _ => trivial, ?_⟩, trivial⟩
   exact j13 _ _ ⟨⟨rfl, rfl, trivial⟩, s⟩
 ·replace s := s.2 hb10
  obtain ⟨b17, s18, hl, s⟩ := s
  have f19 := hl
  refine Run.drawM (fun h' => CellsAt B h' ⟨k7, 0, none⟩ 0 [(.bool b17), (.string s18)] ∧ True) [] ⟨[0, 1, 2, 4, 12, 20, 48, 64, 192, 320, 576, 64, 64, 64, 15424, 16448, 65535], [131071, 131070, 131069, 131067, 131059, 131051, 131039, 131007, 130879, 130751, 130495, 131007, 131007, 131007, 115647, 114623, 98303], [0, 0, 0, 0, 0, 0, 0, 0, 0, 0, 0, 0, 0, 0, 0, 0, 0], 0⟩ (.q 0 (.q 1 (.q 2 (.q 3 (.x 4 (.q 5 (.q 6 (.q 7 (.q 8 (.q 9 (.q 11 (.q 13 (.x 10 (.x 12 (.x 14 (.q 15 (.q 16 .nil)) .no) .no) (.x 12 (.x 10 (.x 14 (.q 15 (.q 16 .nil)) .no) .no) .no))))))))) .no))))) TF.mixed (by kernel_rfl) ⟨f19, trivial⟩ ?_
  refine auT 1 rfl ?_
  refine zq rfl (fun _ hC => sem_ptrNilF p1 (.inr rfl) true rfl rfl TF.ptr_34 hb10 rfl ⟨rfl, rfl⟩) ?_
  refine auT 1 rfl ?_
  refine zq rfl (fun _ hC => sem_loadN ⟨k7, 0, none⟩ [(.bool b17), (.string s18)] rfl TF.agg_92 TF.sz_92 hC.1 ⟨rfl, rfl⟩) ?_
  refine ⟨zo rfl (sem_callL [(.agg #[(.bool b17), (.string s18)])] (TF.goes_56) rfl rfl (Spec.mono s fun v h20 hv => ?_)), trivial⟩
  obtain ⟨b21, rfl, s⟩ := hv
  cases b21
  ·replace s := s.2 rfl
   obtain ⟨g22, s⟩ := s
   refine ⟨fun _ => ⟨g22, trivial⟩, ?_⟩
   refine auT 7 rfl ?_
   refine RunT.joinJ (t := (.x 14 (.q 15 (.q 16 .nil)) .no)) (fun e h24 => Agree [(8, (.bool false)), (15, (.bool false))] e ∧ CellsAt B h24 ⟨k7, 0, none⟩ 0 [(.bool b17), (.string s18)] ∧ S_tome_Tome_Set_J2 B k7 b17 s18 h24 Q) ?_ fun j23 => ?_
   ·rintro e h24 ⟨hag, g25, s⟩
    refine RunT.env hag ?_; clear hag
    refine ⟨zon rfl ⟨fun _ => ⟨g25, trivial⟩, ?_⟩, trivial⟩
    refine auT 2 rfl ?_
    exact zr (s.imp fun _ q => ⟨_, rfl, q⟩)
   refine ⟨?_, ?_, trivial⟩
   ·have s := s.1
    refine zon rfl ⟨fun _ => ⟨g22, trivial⟩, ?_⟩
    refine ⟨zon rfl ⟨fun _ => ⟨g22, trivial⟩, ?_⟩, trivial⟩
    exact j23 _ _ ⟨⟨rfl, rfl, trivial⟩, g22, s⟩
   ·have s := s.2
    refine zon rfl ⟨fun _ => ⟨g22, trivial⟩, ?_⟩
    refine ⟨zon rfl ⟨fun _ => ⟨g22, trivial⟩, ?_⟩, trivial⟩
    exact j23 _ _ ⟨⟨rfl, rfl, trivial⟩, g22, s⟩
  ·replace s := s.1 rfl
   obtain ⟨g26, s⟩ := s
   refine ⟨fun _ => ⟨g26, trivial⟩, ?_⟩
   refine auT 3 rfl ?_
   obtain ⟨A27, e28, s⟩ := s
   refine zq rfl (fun _ _ => sem_nilCheck A27 (congrArg Value.pointer e28) ⟨rfl, rfl⟩) ?_
   refine auT 3 rfl ?_
   refine RunT.joinJ (t := (.x 14 (.q 15 (.q 16 .nil)) .no)) (fun e h39 => ∃ p36 : Option Addr, ∃ b37 : Bool, ∃ s38 : ByteArray, Agree [(8, (.bool false)), (15, (.bool true)), (19, (.pointer p36)), (20, (.int .i64 (i2))), (21, (.agg #[(.bool b37), (.string s38)])), (22, (.int .i64 (i5)))] e ∧ CellsAt B h39 ⟨k7, 0, none⟩ 0 [(.bool b17), (.string s18)] ∧ S_tome_Tome_Set_J3 B i2 i5 k7 b17 s18 p36 b37 s38 h39 Q) ?_ fun j35 => ?_
   ·rintro e h39 ⟨p36, b37, s38, hag, g40, s⟩
    refine RunT.env hag ?_; clear hag
    refine ⟨zo rfl (sem_callL [(.pointer p36), (.int .i64 (i2)), (.agg #[(.bool b37), (.string s38)]), (.int .i64 (i5))] (TF.goes_57) rfl rfl (Spec.mono s fun v h41 hv => ?_)), trivial⟩
    obtain ⟨b42, rfl, s⟩ := hv
    obtain ⟨g43, s⟩ := s
    refine ⟨fun _ => ⟨g43, trivial⟩, ?_⟩
    refine auT 2 rfl ?_
    exact zr (s.imp fun _ q => ⟨_, rfl, q⟩)
   refine ⟨?_, ?_, trivial⟩
   ·have s := s.1
    obtain ⟨p44, hl, s⟩ := s
    refine zo rfl (sem_load1 A27 ((.pointer p44)) rfl TF.agg_89 hl ?_)
    refine ⟨fun _ => ⟨g26, trivial⟩, ?_⟩
    obtain ⟨b45, s46, hl, s⟩ := s
    refine ⟨zo rfl (sem_loadN ⟨k7, 0, none⟩ [(.bool b45), (.string s46)] rfl TF.agg_92 TF.sz_92 hl ?_), trivial⟩
    refine ⟨fun _ => ⟨g26, trivial⟩, ?_⟩
    exact j35 _ _ ⟨p44, (b45), s46, ⟨rfl, rfl, rfl, rfl, rfl, rfl, trivial⟩, g26, s⟩
   ·have s := s.2
    obtain ⟨b47, s48, hl, s⟩ := s
    refine zo rfl (sem_loadN ⟨k7, 0, none⟩ [(.bool b47), (.string s48)] rfl TF.agg_92 TF.sz_92 hl ?_)
    refine ⟨fun _ => ⟨g26, trivial⟩, ?_⟩
    obtain ⟨p49, hl, s⟩ := s
    refine ⟨zo rfl (sem_load1 A27 ((.pointer p49)) rfl TF.agg_89 hl ?_), trivial⟩
    refine ⟨fun _ => ⟨g26, trivial⟩, ?_⟩
    exact j35 _ _ ⟨p49, (b47), s48, ⟨rfl, rfl, rfl, rfl, rfl, rfl, trivial⟩, g26, s⟩
theorem C_cursor_is.of {B : RO} {i1 : Int} {h : Heap} {Q : Bool → Heap → Prop} (s : S_cursor_is B i1 h Q) : C_cursor_is B i1 h Q := by
 refine zspec Try.func46 [ResultVar.tmp 2] rfl rfl rfl rfl rfl ?_
 refine au 7 rfl ?_
 refine zt s rfl rfl rfl binI_geq_t binI_geq_f (fun s => ?_) fun s => ?_
 ·refine au 6 rfl ?_
  exact zr (s.imp fun _ q => ⟨_, rfl, q⟩)
 ·refine au 6 rfl ?_
  exact zr (s.imp fun _ q => ⟨_, rfl, q⟩)
theorem C_reads_Set_Note.of {B : RO} {p1 : Option Addr} {l2 : List Value} {i3 : Int} {i4 : Int} {h : Heap} {Q : Bool → Heap → Prop} (s : S_reads_Set_Note B p1 l2 i3 i4 h Q) : C_reads_Set_Note B p1 l2 i3 i4 h Q := by
 refine zspec Try.func47 [ResultVar.tmp 8] rfl rfl rfl rfl rfl ?_
 refine au 2 rfl ?_
 refine zg rfl (sem_boxNN l2 rfl (fun k6 hb1 hb2 h7 hb3 => ?_))
 have s := s k6 hb1 hb2 h7 hb3
 refine au 6 rfl ?_
 by_cases hb8 : p1 = none
 ·replace s := s.1 hb8
  refine zg rfl (sem_ptrNilT p1 (.inl rfl) true rfl rfl TF.ptr_49 hb8 rfl ?_)
  refine au 6 rfl ?_
  exact zr (s.imp fun _ q => ⟨_, rfl, q⟩)
 ·replace s := s.2 hb8
  refine zg rfl (sem_ptrNilF p1 (.inl rfl) false rfl rfl TF.ptr_49 hb8 rfl ?_)
  refine au 5 rfl ?_
  obtain ⟨l9, hln, hl, s⟩ := s
  refine zg rfl (sem_loadN ⟨k6, 0, none⟩ l9 rfl TF.agg_112 (TF.sz_112.trans (congrArg some hln.symm)) hl ?_)
  refine au 2 rfl ?_
  refine zcall s rfl rfl TF.goes_52 ?_
  rintro _ h10 ⟨i11, rfl, s⟩
  refine au 8 rfl ?_
  refine zcall s rfl rfl TF.goes_58 ?_
  rintro _ h12 ⟨i13, rfl, s⟩
  refine au 5 rfl ?_
  refine zt s rfl rfl rfl binI_geq_t binI_geq_f (fun s => ?_) fun s => ?_
  ·refine au 5 rfl ?_
   refine znil s rfl rfl fun A14 s => ?_
   refine au 1 rfl ?_
   refine Run.ldSl s fun a16 n17 c18 h19 hl s => ?_
   refine zg rfl (sem_load1 A14 ((.slice a16 n17 c18)) rfl TF.agg_95 hl ?_)
   refine au 1 rfl ?_
   obtain ⟨A20, e21, hi0, hi1, s⟩ := s
   refine zg rfl (sem_indexAddrS A20 n17 c18 .i64 (i13) (congrArg (fun a => Value.slice a n17 c18) e21) rfl TF.slc_95 hi0 hi1 ?_)
   refine au 1 rfl ?_
   refine zl s rfl rfl TF.agg_3 fun i22 s => ?_
   refine au 4 rfl ?_
   exact zr (s.imp fun _ q => ⟨_, rfl, q⟩)
  ·refine au 3 rfl ?_
   refine Run.seqJ (fun e h24 => Agree [(0, (.pointer p1)), (2, (.int .i64 (i3))), (3, (.int .i64 (i4))), (9, (.int .i64 (i11)))] e ∧ S_reads_Set_Note_J1 B p1 i3 i4 i11 h24 Q) ?_ fun j23 => ?_
   ·rintro e h24 ⟨hag, s⟩
    refine Run.env hag ?_; clear hag
    refine au 4 rfl ?_
    refine znil s rfl rfl fun A25 s => ?_
    refine au 1 rfl ?_
    refine Run.ldSl s fun a27 n28 c29 h30 hl s => ?_
    refine zg rfl (sem_load1 A25 ((.slice a27 n28 c29)) rfl TF.agg_95 hl ?_)
    refine au 3 rfl ?_
    refine zg rfl (sem_buildSL [(0, (.int .i64 (i3))), (1, (.int .i64 (i4))), (2, (.int .i64 (i11)))] [(.int .i64 (i3)), (.int .i64 (i4)), (.int .i64 (i11))] TF.zero_136 TF.places_136 rfl rfl ?_)
    refine zg rfl (sem_buildSliceL [(0, (.agg #[(.int .i64 (i3)), (.int .i64 (i4)), (.int .i64 (i11))]))] [(.int .i64 (i3)), (.int .i64 (i4)), (.int .i64 (i11))] TF.slc_95 TF.zero_136 rfl (by decide) (by decide) rfl rfl (fun k31 hb1 hb2 h32 hb3 => ?_))
    have s := s k31 hb1 hb2 h32 hb3
    refine zg rfl (sem_appendL [(.slice a27 n28 c29), (.slice (some ⟨k31, 0, none⟩) 1 1)] rfl (semH_mono (fun v h33 hv => ?_) s))
    obtain ⟨a34, n35, c36, rfl, s⟩ := hv
    refine znil s rfl rfl fun A37 s => ?_
    refine au 1 rfl ?_
    refine zs1 s rfl rfl rfl rfl TF.sz_95 fun h39 s => ?_
    refine au 5 rfl ?_
    exact zr (s.imp fun _ q => ⟨_, rfl, q⟩)
   refine au 4 rfl ?_
   refine znil s rfl rfl fun A40 s => ?_
   refine au 1 rfl ?_
   refine zl s rfl rfl TF.agg_3 fun i42 s => ?_
   refine zt s rfl rfl rfl binI_gtr_t binI_gtr_f (fun s => ?_) fun s => ?_
   ·refine au 6 rfl ?_
    obtain ⟨l43, hln, hl, s⟩ := s
    refine zg rfl (sem_loadN ⟨k6, 0, none⟩ l43 rfl TF.agg_112 (TF.sz_112.trans (congrArg some hln.symm)) hl ?_)
    refine zcall s rfl rfl TF.goes_40 ?_
    rintro _ h44 ⟨b45, rfl, s⟩
    cases b45
    ·replace s := s.2 rfl
     refine au 7 rfl ?_
     exact zr (s.imp fun _ q => ⟨_, rfl, q⟩)
    ·replace s := s.1 rfl
     refine au 7 rfl ?_
     refine zl s rfl rfl TF.agg_3 fun i46 s => ?_
     refine znil s rfl rfl fun A47 s => ?_
     refine au 1 rfl ?_
     refine zs1 s rfl rfl rfl rfl TF.sz_3 fun h49 s => ?_
     refine au 1 rfl ?_
     exact Run.of_fin (s.imp fun h' s => j23 _ _ ⟨⟨rfl, rfl, rfl, rfl, trivial⟩, s⟩)
   ·refine au 3 rfl ?_
    exact Run.of_fin (s.imp fun h' s => j23 _ _ ⟨⟨rfl, rfl, rfl, rfl, trivial⟩, s⟩)
theorem C_slices_BinarySearchFunc_s_draft_entry_int_draft_entry_int_int.of {B : RO} {a1 : Option Addr} {n2 : Nat} {c3 : Nat} {i4 : Int} {v5 : Value} {h : Heap} {Q : Int → Bool → Heap → Prop} (s : S_slices_BinarySearchFunc_s_draft_entry_int_draft_entry_int_int B a1 n2 c3 i4 v5 h Q) : C_slices_BinarySearchFunc_s_draft_entry_int_draft_entry_int_int B a1 n2 c3 i4 v5 h Q := by
 refine zspec Try.func48 [ResultVar.tmp 6, ResultVar.tmp 7] rfl rfl rfl rfl rfl ?_
 refine au 8 rfl ?_
 refine zg rfl (sem_lenSl a1 n2 c3 rfl TF.sl_98 ?_)
 refine au 8 rfl ?_
 refine Run.seqJ (fun e h10 => ∃ i9 : Int, Agree [(0, (.slice a1 n2 c3)), (1, (.int .i64 (i4))), (2, v5), (8, (.int .i64 ((n2 : Nat)))), (9, (.int .i64 (i9)))] e ∧ S_slices_BinarySearchFunc_s_draft_entry_int_draft_entry_int_int_J1 B a1 n2 c3 i4 v5 i9 h10 Q) ?_ fun j8 => ?_
 ·rintro e h10 ⟨i9, hag, s⟩
  refine Run.env hag ?_; clear hag
  refine au 5 rfl ?_
  refine zt s rfl rfl rfl binI_lss_t binI_lss_f (fun s => ?_) fun s => ?_
  ·refine au 4 rfl ?_
   obtain ⟨A11, e12, hi0, hi1, s⟩ := s
   refine zg rfl (sem_indexAddrS A11 n2 c3 .i64 (i9) (congrArg (fun a => Value.slice a n2 c3) e12) rfl TF.slc_98 hi0 hi1 ?_)
   obtain ⟨i13, i14, hl, s⟩ := s
   refine zn hl rfl rfl TF.agg_106 TF.sz_106 rfl ?_
   refine au 1 rfl ?_
   refine zg rfl (sem_callV (v5) [(.agg #[(.int .i64 (i13)), (.int .i64 (i14))]), (.int .i64 (i4))] rfl rfl s (fun nx h' ha => ha.mono fun v h15 hv => ?_))
   obtain ⟨i16, rfl, s⟩ := hv
   refine au 5 rfl ?_
   exact zr (s.imp fun _ q => ⟨_, _, rfl, q⟩)
  ·refine au 13 rfl ?_
   exact zr (s.imp fun _ q => ⟨_, _, rfl, q⟩)
 refine au 1 rfl ?_
 obtain ⟨J23, m21, h0, s⟩ := s
 refine Run.of_fin (h0.imp fun h' h0 => ?_)
 refine Run.loop (σ := Int × Int × Nat) (fun x e h => J23 x.1 x.2.1 x.2.2 h ∧ Agree [(0, (.slice a1 n2 c3)), (1, (.int .i64 (i4))), (2, v5), (8, (.int .i64 ((n2 : Nat)))), (9, (.int .i64 (x.1))), (10, (.int .i64 (x.2.1)))] e) (fun x => x.2.2) ((0), ((n2 : Nat)), m21) ⟨h0, ⟨rfl, rfl, rfl, rfl, rfl, rfl, trivial⟩⟩ ?_; clear h0
 rintro ⟨i17, i18, m20⟩ e h19 ⟨hJ, hag⟩ ih22
 have s := s i17 i18 m20 h19 hJ; clear hJ
 refine Run.env hag ?_; clear hag
 refine au 5 rfl ?_
 refine zt s rfl rfl rfl binI_lss_t binI_lss_f (fun s => ?_) fun s => ?_
 ·refine au 9 rfl ?_
  refine zg rfl (sem_convI .i64 .u64 (IntKind.wrap .i64 ((i17) + (i18))) rfl TF.int_3 TF.int_144 ?_)
  obtain ⟨hi0, s⟩ := s
  refine zg rfl (sem_shr .u64 .u64 (IntKind.wrap .u64 (IntKind.wrap .i64 ((i17) + (i18)))) (1) rfl rfl hi0 ?_)
  refine zg rfl (sem_convI .u64 .i64 (Int.fdiv (IntKind.wrap .u64 (IntKind.wrap .i64 ((i17) + (i18)))) (2 ^ (min (Int.toNat (1)) (IntKind.bits .u64)))) rfl TF.int_144 TF.int_3 ?_)
  refine au 7 rfl ?_
  obtain ⟨A24, e25, hi0, hi1, s⟩ := s
  refine zg rfl (sem_indexAddrS A24 n2 c3 .i64 (IntKind.wrap .i64 (Int.fdiv (IntKind.wrap .u64 (IntKind.wrap .i64 ((i17) + (i18)))) (2 ^ (min (Int.toNat (1)) (IntKind.bits .u64))))) (congrArg (fun a => Value.slice a n2 c3) e25) rfl TF.slc_98 hi0 hi1 ?_)
  obtain ⟨i26, i27, hl, s⟩ := s
  refine zn hl rfl rfl TF.agg_106 TF.sz_106 rfl ?_
  refine au 1 rfl ?_
  refine zg rfl (sem_callV (v5) [(.agg #[(.int .i64 (i26)), (.int .i64 (i27))]), (.int .i64 (i4))] rfl rfl s (fun nx h' ha => ha.mono fun v h28 hv => ?_))
  obtain ⟨i29, rfl, s⟩ := hv
  refine zt s rfl rfl rfl binI_lss_t binI_lss_f (fun s => ?_) fun s => ?_
  ·refine au 8 rfl ?_
   exact Run.of_fin (s.imp fun h' ⟨m', hm, s⟩ => ih22 ((IntKind.wrap .i64 ((IntKind.wrap .i64 (Int.fdiv (IntKind.wrap .u64 (IntKind.wrap .i64 ((i17) + (i18)))) (2 ^ (min (Int.toNat (1)) (IntKind.bits .u64))))) + (1))), (i18), m') _ _ ⟨s, ⟨rfl, rfl, rfl, rfl, rfl, rfl, trivial⟩⟩ hm)
  ·refine au 7 rfl ?_
   exact Run.of_fin (s.imp fun h' ⟨m', hm, s⟩ => ih22 ((i17), (IntKind.wrap .i64 (Int.fdiv (IntKind.wrap .u64 (IntKind.wrap .i64 ((i17) + (i18)))) (2 ^ (min (Int.toNat (1)) (IntKind.bits .u64))))), m') _ _ ⟨s, ⟨rfl, rfl, rfl, rfl, rfl, rfl, trivial⟩⟩ hm)
 ·refine au 3 rfl ?_
  exact Run.of_fin (s.imp fun h' s => j8 _ _ ⟨(i17), ⟨rfl, rfl, rfl, rfl, rfl, trivial⟩, s⟩)
theorem C_draft_by_int.of {B : RO} {i1 : Int} {i2 : Int} {i3 : Int} {h : Heap} {Q : Int → Heap → Prop} (s : S_draft_by_int B i1 i2 i3 h Q) : C_draft_by_int B i1 i2 i3 h Q := by
 refine zspec Try.func49 [ResultVar.tmp 4] rfl rfl rfl rfl rfl ?_
 refine au 2 rfl ?_
 refine zbn s rfl rfl rfl fun k5 h6 s => ?_
 refine au 7 rfl ?_
 refine zl s rfl rfl TF.agg_3 fun i7 s => ?_
 refine au 1 rfl ?_
 refine zt s rfl rfl rfl binI_lss_t binI_lss_f (fun s => ?_) fun s => ?_
 ·refine au 7 rfl ?_
  exact zr (s.imp fun _ q => ⟨_, rfl, q⟩)
 ·refine au 6 rfl ?_
  refine zl s rfl rfl TF.agg_3 fun i8 s => ?_
  refine au 1 rfl ?_
  refine zt s rfl rfl rfl binI_gtr_t binI_gtr_f (fun s => ?_) fun s => ?_
  ·refine au 7 rfl ?_
   exact zr (s.imp fun _ q => ⟨_, rfl, q⟩)
  ·refine au 9 rfl ?_
   exact zr (s.imp fun _ q => ⟨_, rfl, q⟩)
theorem C_reads_Now_Of.of {B : RO} {l1 : List Value} {i2 : Int} {i3 : Int} {h : Heap} {Q : Int → Heap → Prop} (s : S_reads_Now_Of B l1 i2 i3 h Q) : C_reads_Now_Of B l1 i2 i3 h Q := by
 refine zspec Try.func52 [ResultVar.tmp 6] rfl rfl rfl rfl rfl ?_
 refine au 2 rfl ?_
 refine zg rfl (sem_boxNN l1 rfl (fun k5 hb1 hb2 h6 hb3 => ?_))
 have s := s k5 hb1 hb2 h6 hb3
 refine au 2 rfl ?_
 refine Run.seqJ (fun e h8 => Agree [(1, (.int .i64 (i2))), (2, (.int .i64 (i3))), (3, (.pointer (some ⟨k5, 0, none⟩)))] e ∧ S_reads_Now_Of_J1 B i2 i3 k5 h8 Q) ?_ fun j7 => ?_
 ·rintro e h8 ⟨hag, s⟩
  refine Run.env hag ?_; clear hag
  refine au 5 rfl ?_
  obtain ⟨hi0, hi1, s⟩ := s
  refine zg rfl (sem_indexAddrA ⟨k5, 0, none⟩ .i64 (i2) rfl rfl TF.arr_110 hi0 hi1 ?_)
  obtain ⟨hi0, hi1, s⟩ := s
  refine zg rfl (sem_indexAddrA (Addr.add ⟨k5, 0, none⟩ (Int.toNat (i2) * 8)) .i64 (i3) rfl rfl TF.arr_109 hi0 hi1 ?_)
  refine zl s rfl rfl TF.agg_3 fun i9 s => ?_
  refine au 2 rfl ?_
  exact zr (s.imp fun _ q => ⟨_, rfl, q⟩)
 refine au 3 rfl ?_
 refine zt s rfl rfl rfl binI_lss_t binI_lss_f (fun s => ?_) fun s => ?_
 ·refine au 18 rfl ?_
  exact zr (s.imp fun _ q => ⟨_, rfl, q⟩)
 ·refine au 2 rfl ?_
  refine zt s rfl rfl rfl binI_gtr_t binI_gtr_f (fun s => ?_) fun s => ?_
  ·refine au 15 rfl ?_
   exact zr (s.imp fun _ q => ⟨_, rfl, q⟩)
  ·refine au 3 rfl ?_
   refine zt s rfl rfl rfl binI_lss_t binI_lss_f (fun s => ?_) fun s => ?_
   ·refine au 11 rfl ?_
    exact zr (s.imp fun _ q => ⟨_, rfl, q⟩)
   ·refine au 3 rfl ?_
    refine zt s rfl rfl rfl binI_geq_t binI_geq_f (fun s => ?_) fun s => ?_
    ·refine au 7 rfl ?_
     exact zr (s.imp fun _ q => ⟨_, rfl, q⟩)
    ·refine au 4 rfl ?_
     exact Run.of_fin (s.imp fun h' s => j7 _ _ ⟨⟨rfl, rfl, rfl, trivial⟩, s⟩)
theorem C_cell_Row_int_Version.of {B : RO} {p1 : Option Addr} {i2 : Int} {h : Heap} {Q : Int → Heap → Prop} (s : S_cell_Row_int_Version B p1 i2 h Q) : C_cell_Row_int_Version B p1 i2 h Q := by
 refine zspec Try.func53 [ResultVar.tmp 4] rfl rfl rfl rfl rfl ?_
 refine au 8 rfl ?_
 refine zcall s rfl rfl TF.goes_10 ?_
 rintro _ h4 ⟨i5, i6, rfl, s⟩
 refine au 11 rfl ?_
 exact zr (s.imp fun _ q => ⟨_, rfl, q⟩)
theorem C_tome_Tome_Get.of {B : RO} {p1 : Option Addr} {i2 : Int} {h : Heap} {Q : Bool → ByteArray → Int → Heap → Prop} (s : S_tome_Tome_Get B p1 i2 h Q) : C_tome_Tome_Get B p1 i2 h Q := by
 refine zspec Try.func54 [ResultVar.cell 4 92, ResultVar.tmp 5] rfl rfl rfl rfl rfl ?_
 refine au 2 rfl ?_
 refine zal s rfl TF.zero_92 rfl fun k6 h7 s => ?_
 refine au 6 rfl ?_
 by_cases hb8 : p1 = none
 ·replace s := s.1 hb8
  refine zg rfl (sem_ptrNilT p1 (.inl rfl) true rfl rfl TF.ptr_34 hb8 rfl ?_)
  refine au 4 rfl ?_
  refine zg rfl (sem_buildSL [] [(.bool false), (.string ByteArray.empty)] TF.zero_92 TF.places_92 rfl rfl ?_)
  refine zsn s rfl rfl rfl TF.sz_92 rfl fun h9 s => ?_
  refine au 2 rfl ?_
  obtain ⟨b10, s11, hl0, s⟩ := s
  exact zr (⟨⟨k6, 0, none⟩, (.agg #[(.bool b10), (.string s11)]), rfl, loadHN TF.agg_92 TF.sz_92 hl0, s.imp fun _ q => ⟨_, _, _, rfl, q⟩⟩)
 ·replace s := s.2 hb8
  refine zg rfl (sem_ptrNilF p1 (.inl rfl) false rfl rfl TF.ptr_34 hb8 rfl ?_)
  refine au 6 rfl ?_
  refine znil s rfl rfl fun A12 s => ?_
  refine au 1 rfl ?_
  refine zl s rfl rfl TF.agg_89 fun p14 s => ?_
  refine au 1 rfl ?_
  refine zcall s rfl rfl TF.goes_60 ?_
  rintro _ h15 ⟨b16, s17, i18, rfl, s⟩
  refine au 2 rfl ?_
  refine zsn s rfl rfl rfl TF.sz_92 rfl fun h19 s => ?_
  refine au 2 rfl ?_
  obtain ⟨b20, s21, hl0, s⟩ := s
  exact zr (⟨⟨k6, 0, none⟩, (.agg #[(.bool b20), (.string s21)]), rfl, loadHN TF.agg_92 TF.sz_92 hl0, s.imp fun _ q => ⟨_, _, _, rfl, q⟩⟩)
theorem C_draft_Draft_file_File_All_1.of {B : RO} {v1 : Value} {A2 : Addr} {h : Heap} {Q : Heap → Prop} (s : S_draft_Draft_file_File_All_1 B v1 A2 h Q) : C_draft_Draft_file_File_All_1 B v1 A2 h Q := by
 refine zspec Try.func55 [] rfl rfl rfl rfl rfl ?_
 refine au 3 rfl ?_
 refine zl s rfl rfl TF.agg_116 fun p3 s => ?_
 by_cases hb4 : p3 = none
 ·replace s := s.1 hb4
  refine zg rfl (sem_ptrNilT p3 (.inl rfl) true rfl rfl TF.ptr_116 hb4 rfl ?_)
  refine au 2 rfl ?_
  exact zr (s.imp fun _ q => ⟨rfl, q⟩)
 ·replace s := s.2 hb4
  refine zg rfl (sem_ptrNilF p3 (.inl rfl) false rfl rfl TF.ptr_116 hb4 rfl ?_)
  refine au 5 rfl ?_
  refine zl s rfl rfl TF.agg_116 fun p5 s => ?_
  refine znil s rfl rfl fun A6 s => ?_
  refine au 1 rfl ?_
  refine Run.ldSl s fun a8 n9 c10 h11 hl s => ?_
  refine zg rfl (sem_load1 A6 ((.slice a8 n9 c10)) rfl TF.agg_126 hl ?_)
  refine zg rfl (sem_lenSl a8 n9 c10 rfl TF.sl_126 ?_)
  refine au 3 rfl ?_
  obtain ⟨J17, m15, h0, s⟩ := s
  refine Run.of_fin (h0.imp fun h' h0 => ?_)
  refine Run.loop (σ := Int × Nat) (fun x e h => J17 x.1 x.2 h ∧ Agree [(0, v1), (10, (.slice a8 n9 c10)), (11, (.int .i64 ((n9 : Nat)))), (12, (.int .i64 (x.1)))] e) (fun x => x.2) ((0), m15) ⟨h0, ⟨rfl, rfl, rfl, rfl, trivial⟩⟩ ?_; clear h0
  rintro ⟨i12, m14⟩ e h13 ⟨hJ, hag⟩ ih16
  have s := s i12 m14 h13 hJ; clear hJ
  refine Run.env hag ?_; clear hag
  refine au 2 rfl ?_
  refine zt s rfl rfl rfl binI_lss_t binI_lss_f (fun s => ?_) fun s => ?_
  ·refine au 8 rfl ?_
   obtain ⟨A18, e19, hi0, hi1, s⟩ := s
   refine zg rfl (sem_indexAddrS A18 n9 c10 .i64 (i12) (congrArg (fun a => Value.slice a n9 c10) e19) rfl TF.slc_126 hi0 hi1 ?_)
   obtain ⟨i20, b21, s22, hl, s⟩ := s
   refine zn hl rfl rfl TF.agg_142 TF.sz_142 rfl ?_
   refine zal s rfl TF.zero_142 rfl fun k23 h24 s => ?_
   refine zsn s rfl rfl rfl TF.sz_142 rfl fun h25 s => ?_
   refine au 5 rfl ?_
   refine zl s rfl rfl TF.agg_3 fun i26 s => ?_
   refine au 1 rfl ?_
   obtain ⟨b27, s28, hl, s⟩ := s
   refine zn hl rfl rfl TF.agg_92 TF.sz_92 rfl ?_
   refine zg rfl (sem_callV (v1) [(.int .i64 (i26)), (.agg #[(.bool b27), (.string s28)])] rfl rfl s (fun nx h' ha => ha.mono fun v h29 hv => ?_))
   obtain ⟨b30, rfl, s⟩ := hv
   cases b30
   ·replace s := s.2 rfl
    refine au 3 rfl ?_
    exact zr (s.imp fun _ q => ⟨rfl, q⟩)
   ·replace s := s.1 rfl
    refine au 9 rfl ?_
    exact Run.of_fin (s.imp fun h' ⟨m', hm, s⟩ => ih16 ((IntKind.wrap .i64 ((i12) + (1))), m') _ _ ⟨s, ⟨rfl, rfl, rfl, rfl, trivial⟩⟩ hm)
  ·refine au 4 rfl ?_
   exact zf (s.imp fun _ q => ⟨rfl, q⟩)
theorem C_file_Good.of {B : RO} {b1 : Bool} {s2 : ByteArray} {h : Heap} {Q : Bool → Heap → Prop} (s : S_file_Good B b1 s2 h Q) : C_file_Good B b1 s2 h Q := by
 refine zspec Try.func56 [ResultVar.tmp 2] rfl rfl rfl rfl rfl ?_
 refine au 2 rfl ?_
 refine zbn s rfl rfl rfl fun k4 h5 s => ?_
 refine au 5 rfl ?_
 refine zl s rfl rfl TF.agg_9 fun s6 s => ?_
 refine zg rfl (sem_lenStr s6 rfl TF.isStr_9 ?_)
 refine zt s rfl rfl rfl binI_leq_t binI_leq_f (fun s => ?_) fun s => ?_
 ·refine au 2 rfl ?_
  refine zl s rfl rfl TF.agg_4 fun b7 s => ?_
  cases b7
  ·replace s := s.2 rfl
   refine au 2 rfl ?_
   refine zl s rfl rfl TF.agg_9 fun s8 s => ?_
   refine zg rfl (sem_strEq s8 (ByteArray.mk #[]) rfl rfl ?_)
   refine au 4 rfl ?_
   exact zr (s.imp fun _ q => ⟨_, rfl, q⟩)
  ·replace s := s.1 rfl
   refine au 8 rfl ?_
   exact zr (s.imp fun _ q => ⟨_, rfl, q⟩)
 ·refine au 11 rfl ?_
  exact zr (s.imp fun _ q => ⟨_, rfl, q⟩)
theorem C_cell_Row_file_File_Set.of {B : RO} {p1 : Option Addr} {i2 : Int} {b3 : Bool} {s4 : ByteArray} {i5 : Int} {h : Heap} {Q : Bool → Heap → Prop} (s : S_cell_Row_file_File_Set B p1 i2 b3 s4 i5 h Q) : C_cell_Row_file_File_Set B p1 i2 b3 s4 i5 h Q := by
 refine zspec Try.func57 [ResultVar.tmp 8] rfl rfl rfl rfl rfl ?_
 refine au 2 rfl ?_
 refine zbn s rfl rfl rfl fun k7 h8 s => ?_
 refine au 7 rfl ?_
 refine zcall s rfl rfl TF.goes_61 ?_
 rintro _ h9 ⟨b10, rfl, s⟩
 cases b10
 ·replace s := s.2 rfl
  refine au 7 rfl ?_
  exact zr (s.imp fun _ q => ⟨_, rfl, q⟩)
 ·replace s := s.1 rfl
  refine au 5 rfl ?_
  refine Run.drawM (fun h' => h' = h9) [9] ⟨[0, 1, 2, 4, 0, 0, 0, 96, 255, 511], [1023, 1022, 1021, 1019, 1023, 1023, 1023, 927, 999, 639], [0, 1, 3, 7, 0, 0, 0, 96, 255, 511], 512⟩ (.q 0 (.q 1 (.q 2 (.q 3 (.q 4 (.q 5 (.q 6 (.q 7 (.q 8 (.x 9 .nil .no)))))))))) TF.mixed (by kernel_rfl) rfl ?_
  refine auT 1 rfl ?_
  obtain ⟨A11, e12, s⟩ := s
  refine zqe rfl (sem_nilCheck A11 (congrArg Value.pointer e12) ⟨rfl, rfl⟩) ?_
  refine auT 1 rfl ?_
  obtain ⟨a13, n14, c15, hl, s⟩ := s
  refine zqe rfl (sem_load1 A11 ((.slice a13 n14 c15)) rfl TF.agg_121 hl ⟨rfl, rfl⟩) ?_
  refine auT 1 rfl ?_
  obtain ⟨b16, s17, hl, s⟩ := s
  refine zqe rfl (sem_loadN ⟨k7, 0, none⟩ [(.bool b16), (.string s17)] rfl TF.agg_92 TF.sz_92 hl ⟨rfl, rfl⟩) ?_
  refine auT 1 rfl ?_
  refine zqe rfl (sem_buildSL [(0, (.agg #[(.bool b16), (.string s17)])), (1, (.int .i64 (i5)))] [(.bool b16), (.string s17), (.int .i64 (i5))] TF.zero_125 TF.places_125 rfl rfl ⟨rfl, rfl⟩) ?_
  obtain ⟨A18, e19, hi0, hi1, s⟩ := s
  refine zqe rfl (sem_indexAddrS A18 n14 c15 .i64 (i2) (congrArg (fun a => Value.slice a n14 c15) e19) rfl TF.slc_121 hi0 hi1 ⟨rfl, rfl⟩) ?_
  obtain ⟨h20, hst, s⟩ := s
  refine ⟨zo0 rfl (sem_storeN (Addr.add A18 (Int.toNat (i2) * 3)) [(.bool b16), (.string s17), (.int .i64 (i5))] h20 rfl rfl TF.sz_125 hst ?_), trivial⟩
  refine ⟨fun hz => Bool.noConfusion hz, ?_⟩
  refine au 4 rfl ?_
  exact zr (s.imp fun _ q => ⟨_, rfl, q⟩)
theorem C_reads_Set_place.of {B : RO} {p1 : Option Addr} {i2 : Int} {i3 : Int} {h : Heap} {Q : Int → Heap → Prop} (s : S_reads_Set_place B p1 i2 i3 h Q) : C_reads_Set_place B p1 i2 i3 h Q := by
 refine zspec Try.func58 [ResultVar.tmp 6] rfl rfl rfl rfl rfl ?_
 refine au 2 rfl ?_
 refine zb1 s rfl rfl rfl rfl fun k5 h6 s => ?_
 refine zb1 s rfl rfl rfl rfl fun k7 h8 s => ?_
 refine au 5 rfl ?_
 refine znil s rfl rfl fun A9 s => ?_
 refine au 1 rfl ?_
 refine Run.ldSl s fun a11 n12 c13 h14 hl s => ?_
 refine zg rfl (sem_load1 A9 ((.slice a11 n12 c13)) rfl TF.agg_95 hl ?_)
 refine au 1 rfl ?_
 refine zcall s rfl rfl TF.goes_62 ?_
 rintro _ h15 ⟨i16, rfl, s⟩
 refine au 2 rfl ?_
 exact zr (s.imp fun _ q => ⟨_, rfl, q⟩)
theorem C_cell_Row_file_File_Get.of {B : RO} {p1 : Option Addr} {i2 : Int} {h : Heap} {Q : Bool → ByteArray → Int → Heap → Prop} (s : S_cell_Row_file_File_Get B p1 i2 h Q) : C_cell_Row_file_File_Get B p1 i2 h Q := by
 refine zspec Try.func60 [ResultVar.cell 4 92, ResultVar.tmp 5] rfl rfl rfl rfl rfl ?_
 refine au 2 rfl ?_
 refine zal s rfl TF.zero_92 rfl fun k6 h7 s => ?_
 refine au 7 rfl ?_
 refine zcall s rfl rfl TF.goes_61 ?_
 rintro _ h8 ⟨b9, rfl, s⟩
 cases b9
 ·replace s := s.2 rfl
  refine au 5 rfl ?_
  refine zal s rfl TF.zero_92 rfl fun k10 h11 s => ?_
  refine au 3 rfl ?_
  obtain ⟨b12, s13, hl, s⟩ := s
  refine zn hl rfl rfl TF.agg_92 TF.sz_92 rfl ?_
  refine zsn s rfl rfl rfl TF.sz_92 rfl fun h14 s => ?_
  refine au 2 rfl ?_
  obtain ⟨b15, s16, hl0, s⟩ := s
  exact zr (⟨⟨k6, 0, none⟩, (.agg #[(.bool b15), (.string s16)]), rfl, loadHN TF.agg_92 TF.sz_92 hl0, s.imp fun _ q => ⟨_, _, _, rfl, q⟩⟩)
 ·replace s := s.1 rfl
  refine au 5 rfl ?_
  obtain ⟨A18, e19, s⟩ := s
  obtain ⟨a22, n23, c24, hl, s⟩ := s
  have f25 := hl
  obtain ⟨A27, e28, hi0, hi1, s⟩ := s
  have f30 := hi0; have f31 := hi1
  obtain ⟨b33, s34, hl, s⟩ := s
  have f35 := hl
  obtain ⟨A37, e38, s⟩ := s
  obtain ⟨a41, n42, c43, hl, s⟩ := s
  have f44 := hl
  obtain ⟨A46, e47, hi0, hi1, s⟩ := s
  have f49 := hi0; have f50 := hi1
  obtain ⟨i52, hl, s⟩ := s
  have f53 := hl
  refine Run.drawM (fun h' => cellH B h' A18 = some (.slice a22 n23 c24) ∧ CellsAt B h' (Addr.add A27 (Int.toNat (i2) * 3)) 0 [(.bool b33), (.string s34)] ∧ cellH B h' A37 = some (.slice a41 n42 c43) ∧ cellH B h' (Addr.add (Addr.add A46 (Int.toNat (i2) * 3)) 2) = some (.int .i64 (i52)) ∧ True) [] ⟨[0, 1, 2, 4, 0, 24, 32, 64, 0, 256, 512, 1024, 0, 6144, 8192, 16384, 255, 131071], [262143, 262142, 262141, 262139, 262143, 262119, 262111, 262079, 262143, 261887, 261631, 261119, 262143, 255999, 253951, 245759, 262015, 229375], [0, 0, 0, 0, 0, 0, 0, 0, 0, 0, 0, 0, 0, 0, 0, 0, 0, 0], 0⟩ (.q 0 (.q 1 (.q 2 (.q 3 (.q 4 (.q 5 (.q 6 (.q 7 (.q 8 (.q 9 (.q 10 (.q 11 (.q 12 (.q 13 (.q 14 (.q 15 (.x 16 (.q 17 .nil) .no))))))))))))))))) TF.mixed (by kernel_rfl) ⟨f25, f35, f44, f53, trivial⟩ ?_
  refine auT 1 rfl ?_
  refine zq rfl (fun _ hC => sem_nilCheck A18 (congrArg Value.pointer e19) ⟨rfl, rfl⟩) ?_
  refine auT 1 rfl ?_
  refine zq rfl (fun _ hC => sem_load1 A18 ((.slice a22 n23 c24)) rfl TF.agg_121 hC.1 ⟨rfl, rfl⟩) ?_
  refine auT 1 rfl ?_
  refine zq rfl (fun _ hC => sem_indexAddrS A27 n23 c24 .i64 (i2) (congrArg (fun a => Value.slice a n23 c24) e28) rfl TF.slc_121 f30 f31 ⟨rfl, rfl⟩) ?_
  refine auT 1 rfl ?_
  refine zq rfl (fun _ hC => sem_loadN (Addr.add A27 (Int.toNat (i2) * 3)) [(.bool b33), (.string s34)] rfl TF.agg_92 TF.sz_92 hC.2.1 ⟨rfl, rfl⟩) ?_
  refine auT 1 rfl ?_
  refine zq rfl (fun _ hC => sem_nilCheck A37 (congrArg Value.pointer e38) ⟨rfl, rfl⟩) ?_
  refine auT 1 rfl ?_
  refine zq rfl (fun _ hC => sem_load1 A37 ((.slice a41 n42 c43)) rfl TF.agg_121 hC.2.2.1 ⟨rfl, rfl⟩) ?_
  refine auT 1 rfl ?_
  refine zq rfl (fun _ hC => sem_indexAddrS A46 n42 c43 .i64 (i2) (congrArg (fun a => Value.slice a n42 c43) e47) rfl TF.slc_121 f49 f50 ⟨rfl, rfl⟩) ?_
  refine auT 1 rfl ?_
  refine zq rfl (fun _ hC => sem_load1 (Addr.add (Addr.add A46 (Int.toNat (i2) * 3)) 2) ((.int .i64 (i52))) rfl TF.agg_3 hC.2.2.2.1 ⟨rfl, rfl⟩) ?_
  obtain ⟨h54, hst, s⟩ := s
  refine ⟨zo0 rfl (sem_storeN ⟨k6, 0, none⟩ [(.bool b33), (.string s34)] h54 rfl rfl TF.sz_92 hst ?_), trivial⟩
  obtain ⟨g55, g56, g57, g58, s⟩ := s
  refine ⟨fun _ => ⟨g55, g56, g57, g58, trivial⟩, ?_⟩
  refine auT 1 rfl ?_
  obtain ⟨b59, s60, hl0, s⟩ := s
  exact zr (⟨⟨k6, 0, none⟩, (.agg #[(.bool b59), (.string s60)]), rfl, loadHN TF.agg_92 TF.sz_92 hl0, s.imp fun _ q => ⟨_, _, _, rfl, q⟩⟩)
theorem C_cell_Row_file_File_is.of {B : RO} {p1 : Option Addr} {i2 : Int} {h : Heap} {Q : Bool → Heap → Prop} (s : S_cell_Row_file_File_is B p1 i2 h Q) : C_cell_Row_file_File_is B p1 i2 h Q := by
 refine zspec Try.func61 [ResultVar.tmp 4] rfl rfl rfl rfl rfl ?_
 refine au 7 rfl ?_
 by_cases hb4 : p1 = none
 ·replace s := s.1 hb4
  refine zg rfl (sem_ptrNilT p1 (.inr rfl) false rfl rfl TF.ptr_89 hb4 rfl ?_)
  refine au 15 rfl ?_
  exact zr (s.imp fun _ q => ⟨_, rfl, q⟩)
 ·replace s := s.2 hb4
  refine zg rfl (sem_ptrNilF p1 (.inr rfl) true rfl rfl TF.ptr_89 hb4 rfl ?_)
  refine au 2 rfl ?_
  refine zt s rfl rfl rfl binI_geq_t binI_geq_f (fun s => ?_) fun s => ?_
  ·refine au 4 rfl ?_
   refine znil s rfl rfl fun A5 s => ?_
   refine au 1 rfl ?_
   refine Run.ldSl s fun a7 n8 c9 h10 hl s => ?_
   refine zg rfl (sem_load1 A5 ((.slice a7 n8 c9)) rfl TF.agg_121 hl ?_)
   refine zg rfl (sem_lenSl a7 n8 c9 rfl TF.sl_121 ?_)
   refine au 4 rfl ?_
   exact zr (s.imp fun _ q => ⟨_, rfl, q⟩)
  ·refine au 12 rfl ?_
   exact zr (s.imp fun _ q => ⟨_, rfl, q⟩)
theorem C_slices_IndexFunc_s_reads_Entry_reads_Entry.of {B : RO} {a1 : Option Addr} {n2 : Nat} {c3 : Nat} {v4 : Value} {h : Heap} {Q : Int → Heap → Prop} (s : S_slices_IndexFunc_s_reads_Entry_reads_Entry B a1 n2 c3 v4 h Q) : C_slices_IndexFunc_s_reads_Entry_reads_Entry B a1 n2 c3 v4 h Q := by
 refine zspec Try.func62 [ResultVar.tmp 4] rfl rfl rfl rfl rfl ?_
 refine au 8 rfl ?_
 refine zg rfl (sem_lenSl a1 n2 c3 rfl TF.sl_95 ?_)
 refine au 3 rfl ?_
 obtain ⟨J11, m9, h0, s⟩ := s
 refine Run.of_fin (h0.imp fun h' h0 => ?_)
 refine Run.loop (σ := Int × Nat) (fun x e h => J11 x.1 x.2 h ∧ Agree [(0, (.slice a1 n2 c3)), (1, v4), (7, (.int .i64 ((n2 : Nat)))), (8, (.int .i64 (x.1)))] e) (fun x => x.2) ((0), m9) ⟨h0, ⟨rfl, rfl, rfl, rfl, trivial⟩⟩ ?_; clear h0
 rintro ⟨i6, m8⟩ e h7 ⟨hJ, hag⟩ ih10
 have s := s i6 m8 h7 hJ; clear hJ
 refine Run.env hag ?_; clear hag
 refine au 2 rfl ?_
 refine zt s rfl rfl rfl binI_lss_t binI_lss_f (fun s => ?_) fun s => ?_
 ·refine au 16 rfl ?_
  obtain ⟨A12, e13, hi0, hi1, s⟩ := s
  refine zg rfl (sem_indexAddrS A12 n2 c3 .i64 (i6) (congrArg (fun a => Value.slice a n2 c3) e13) rfl TF.slc_95 hi0 hi1 ?_)
  obtain ⟨i14, i15, i16, hl, s⟩ := s
  refine zn hl rfl rfl TF.agg_136 TF.sz_136 rfl ?_
  refine zg rfl (sem_callV (v4) [(.agg #[(.int .i64 (i14)), (.int .i64 (i15)), (.int .i64 (i16))])] rfl rfl s (fun nx h' ha => ha.mono fun v h17 hv => ?_))
  obtain ⟨b18, rfl, s⟩ := hv
  cases b18
  ·replace s := s.2 rfl
   refine au 8 rfl ?_
   exact Run.of_fin (s.imp fun h' ⟨m', hm, s⟩ => ih10 ((IntKind.wrap .i64 ((i6) + (1))), m') _ _ ⟨s, ⟨rfl, rfl, rfl, rfl, trivial⟩⟩ hm)
  ·replace s := s.1 rfl
   refine au 7 rfl ?_
   exact zr (s.imp fun _ q => ⟨_, rfl, q⟩)
 ·refine au 8 rfl ?_
  exact zr (s.imp fun _ q => ⟨_, rfl, q⟩)
theorem C_reads_Set_place_1.of {B : RO} {i1 : Int} {i2 : Int} {i3 : Int} {A4 : Addr} {A5 : Addr} {h : Heap} {Q : Bool → Heap → Prop} (s : S_reads_Set_place_1 B i1 i2 i3 A4 A5 h Q) : C_reads_Set_place_1 B i1 i2 i3 A4 A5 h Q := by
 refine zspec Try.func63 [ResultVar.tmp 4] rfl rfl rfl rfl rfl ?_
 refine au 2 rfl ?_
 refine zbn s rfl rfl rfl fun k7 h8 s => ?_
 refine au 5 rfl ?_
 refine zl s rfl rfl TF.agg_85 fun i9 s => ?_
 refine zl s rfl rfl TF.agg_85 fun i10 s => ?_
 refine zt s rfl rfl rfl binI_eql_t binI_eql_f (fun s => ?_) fun s => ?_
 ·refine au 2 rfl ?_
  refine zl s rfl rfl TF.agg_3 fun i11 s => ?_
  refine zl s rfl rfl TF.agg_3 fun i12 s => ?_
  refine au 4 rfl ?_
  exact zr (s.imp fun _ q => ⟨_, rfl, q⟩)
 ·refine au 8 rfl ?_
  exact zr (s.imp fun _ q => ⟨_, rfl, q⟩)
end Go.Proofs.Ytgldgabefiialaa.H
namespace Go.Proofs.Ytgldgabefiialaa.H
open Go
set_option linter.unusedVariables false
section
variable {P : Program} {B : RO} {h0 h h' : Heap} {L : List (Option (Nat × AObj))} {r : Option (Nat × AObj)} {e : TypeId} {sz : Nat} {xs : List Value} {α : Type} {cells : α → List Value} {l : List α} {a : Option Addr} {m c : Nat}
theorem Keep.pushS (E : Keep B h0 L h) (q : Nat) {t tx : TypeId} {bz n : Nat} {zs ys : List Value} {x : Value} (hq : L[q]? = some r) (R : Row r (.slice a m c) e sz xs) (ht : slcB P t = some (e, sz, bz)) (hz : zeroB P e = some zs) (hzs : zs.length = sz) (hsz : 0 < sz) (hbz : 0 < bz) (hst : slT P tx = true)
    (hx : Src B h x sz n ys) (hb : (xs.length + ys.length) * bz ≤ 1099511627776) {K : Value → Heap → Prop}
    (hK : ∀ a' m' c' r' h'', Row r' (.slice a' m' c') e sz (xs ++ ys) → Keep B h0 (L.set q r') h'' → K (.slice a' m' c') h'') {ty : TypeId} : semH P B (Builtin.append_ #[t, tx] ty #[.slice a m c, x]) h K := by
  have tf := slT_facts hst
  refine semH_append (n := n) (ys := ys) ht hz hzs hsz hbz tf.1 tf.2 (E.sl q hq R) hx hb ?_
  intro v' h'' ap
  obtain ⟨r', R', E'⟩ := E.appd q hq R ap
  obtain ⟨a', m', c', rfl⟩ := R'.slice
  exact hK _ _ _ _ _ R' E'
theorem Row.cut (R : Row r (.slice a m c) e sz xs) {n : Nat} (hn : n ≤ m) : Row r (.slice a n c) e sz (xs.take (n * sz)) := by
  rcases R with ⟨e0, e1, e2⟩ | ⟨k, m', c', nn, js, e0, e1, e3, e4, e5⟩
  · cases e1
    have : n = 0 := by omega
    subst this
    exact .inl ⟨e0, rfl, by rw [e2]; simp⟩
  · cases e1
    have h1 : n * sz ≤ m * sz := Nat.mul_le_mul_right _ hn
    refine .inr ⟨k, n, c, nn, xs.drop (n * sz) ++ js, ?_, rfl, by rw [List.length_take]; omega, by omega, e5⟩
    rw [← List.append_assoc, List.take_append_drop]; exact e0
end
end Go.Proofs.Ytgldgabefiialaa.H
namespace Go.Proofs.Ytgldgabefiialaa.H
open Go
set_option linter.unusedVariables false
theorem flatMap_setR {α : Type} {cells : α → List Value} (x : α) : ∀ (l : List α) (i : Nat) (hi : i < l.length), (l.set i x).flatMap cells = (l.take i).flatMap cells ++ cells x ++ (l.drop (i + 1)).flatMap cells
  | [], i, hi => by simp at hi
  | y :: l, 0, _ => by simp
  | y :: l, i + 1, hi => by
    simp only [List.set_cons_succ, List.flatMap_cons, List.take_succ_cons, List.drop_succ_cons]
    rw [flatMap_setR x l i (by simpa using hi)]
    simp [List.append_assoc]
theorem flatMap_splitR {α : Type} {cells : α → List Value} (l : List α) (i : Nat) (hi : i < l.length) : l.flatMap cells = (l.take i).flatMap cells ++ (cells l[i] ++ (l.drop (i + 1)).flatMap cells) := by
  conv => lhs; rw [← List.take_append_drop i l, List.drop_eq_getElem_cons hi]
  rw [List.flatMap_append, List.flatMap_cons]
section
variable {P : Program} {B : RO} {h0 h h' : Heap} {L : List (Option (Nat × AObj))} {r : Option (Nat × AObj)} {e : TypeId} {sz : Nat} {α : Type} {cells : α → List Value} {l : List α} {a : Option Addr} {m c : Nat}
theorem Keep.rowSet (E : Keep B h0 L h) (q : Nat) (hq : L[q]? = some r) (R : Row r (.slice a m c) e sz (l.flatMap cells)) (hc : ∀ x, (cells x).length = sz) (hsz : 0 < sz) (i : Nat) (hi : i < l.length) (x : α) (ho : ∀ y ∈ cells x, isOne y = true) :
    ∃ A h' r', a = some A ∧ StoresAt (A.add (i * sz)) h 0 (cells x) h' ∧ Row r' (.slice a m c) e sz ((l.set i x).flatMap cells) ∧ Keep B h0 (L.set q r') h' := by
  have hfl := flatMap_length hc l
  rcases R with ⟨_, _, e2⟩ | ⟨k, m', c', nn, js, rfl, e1, e3, e4, e5⟩
  · rw [e2] at hfl
    have : l.length * sz = 0 := hfl.symm
    rcases Nat.mul_eq_zero.1 this with h | h <;> omega
  · cases e1
    have hb := E.at q hq
    have hlen := flatMap_length hc (l.take i)
    rw [List.length_take, Nat.min_eq_left (by omega)] at hlen
    have hbb := hb
    rw [flatMap_splitR l i hi, List.append_assoc, List.append_assoc] at hbb
    have htot : l.length * sz ≤ nn := by
      have : m * sz ≤ c * sz := Nat.mul_le_mul_right _ e4
      omega
    have hii : i * sz + sz ≤ l.length * sz := by
      have : (i + 1) * sz ≤ l.length * sz := Nat.mul_le_mul_right _ hi
      rw [Nat.add_mul, Nat.one_mul] at this; exact this
    obtain ⟨h2, s1, _, s3⟩ := StoresAt.over (cells x) h (i * sz) 0 _ _ ho hbb (by rw [hlen]; omega) (by rw [hc]; omega)
    have hne : cells x ≠ [] := fun e0 => by have := hc x; rw [e0] at this; simp at this; omega
    have s3 := s3 hne
    have hdrop : (cells l[i] ++ ((l.drop (i + 1)).flatMap cells ++ js)).drop (cells x).length = (l.drop (i + 1)).flatMap cells ++ js := by
      rw [hc, ← hc l[i], List.drop_left]
    rw [hdrop, ← List.append_assoc, ← flatMap_setR (cells := cells) x l i hi] at s3
    have hset : ((l.set i x).flatMap cells).length = (l.flatMap cells).length := by
      rw [flatMap_length hc, flatMap_length hc, List.length_set]
    have E2 := E.put (o' := .vec e (plains ((l.set i x).flatMap cells ++ js)) nn) q hq
    rw [← s3] at E2
    refine ⟨_, h2, _, rfl, ?_, .inr ⟨k, m, c, nn, js, rfl, rfl, by rw [hset]; exact e3, e4, e5⟩, E2⟩
    rw [addr_more, Nat.zero_add]; exact s1
end
end Go.Proofs.Ytgldgabefiialaa.H
namespace Go.Proofs.Ytgldgabefiialaa.H
open Go
set_option linter.unusedVariables false
theorem w64 {n : Int} (h : -9223372036854775808 ≤ n) (h' : n ≤ 9223372036854775807) : IntKind.wrap .i64 n = n := IntWalk.i64_in n ⟨h, h'⟩
theorem wu64 (n : Int) : IntKind.wrap .u64 n = n % 18446744073709551616 := by simp [IntKind.wrap, IntKind.bits, IntKind.signed]
def natB (n : Nat) : List UInt8 := if n < 128 then [UInt8.ofNat n] else UInt8.ofNat (n % 128 + 128) :: natB (n / 128)
termination_by n
decreasing_by omega
theorem natB_lo {n : Nat} (h : n < 128) : natB n = [UInt8.ofNat n] := by rw [natB, if_pos h]
theorem natB_hi {n : Nat} (h : ¬ n < 128) : natB n = UInt8.ofNat (n % 128 + 128) :: natB (n / 128) := by rw [natB, if_neg h]
theorem natB_pos (n : Nat) : 0 < (natB n).length := by
  rw [natB]; split <;> simp
def natI (i : Int) : List UInt8 := if i < 0 then [] else natB i.toNat
def zig (i : Int) : Nat := if i < 0 then (-2 * i - 1).toNat else (2 * i).toNat
theorem two1 : (2 : Int) ^ (min (Int.toNat (1)) (IntKind.bits .u64)) = 2 := by decide
def bl (s : ByteArray) : List UInt8 := s.data.toList
def ba (l : List UInt8) : ByteArray := ⟨l.toArray⟩
theorem bl_ba (l : List UInt8) : bl (ba l) = l := by simp [bl, ba]
theorem bl_length (s : ByteArray) : (bl s).length = s.size := by simp [bl]
theorem ba_size (l : List UInt8) : (ba l).size = l.length := by rw [← bl_length, bl_ba]
end Go.Proofs.Ytgldgabefiialaa.H
namespace Go.Proofs.Ytgldgabefiialaa.H
open Go
set_option linter.unusedVariables false
set_option maxRecDepth 100000
section
variable {P : Program} {B : RO} {h0 h h' : Heap} {L : List (Option (Nat × AObj))} {r : Option (Nat × AObj)} {e : TypeId} {sz : Nat} {xs : List Value} {α : Type} {cells : α → List Value} {l : List α} {a : Option Addr} {m c : Nat}
theorem semH_appendZ {t tx ty : TypeId} {bz : Nat} {zs : List Value} {n : Nat} {ki : IntKind} {K : Value → Heap → Prop} (ht : slcB P t = some (e, sz, bz)) (hz : zeroB P e = some zs) (hzs : zs.length = sz) (hsz : 0 < sz) (hbz : 0 < bz) (hix : intB P tx = some ki)
    (hv : SlRow h (.slice a m c) e sz xs) (hgrow : c < m + n) (h0 : 0 < n) (hb : (m + n) * bz ≤ 1099511627776)
    (hk : ∀ b nc nn ys js, h b = none → B b = none → ys.length = n * sz → m + n ≤ nc → nc * sz ≤ nn → K (.slice (some ⟨b, 0, none⟩) (m + n) nc) (h.set b (.vec e (plains (xs ++ ys ++ js)) nn))) : semH P B (Builtin.append_ #[t, tx] ty #[.slice a m c, .int .i64 (n : Nat)]) h K := by
  have hn1 : n * bz ≤ 1099511627776 := Nat.le_trans (Nat.mul_le_mul_right _ (by omega)) hb
  have hn2 : n ≤ 1099511627776 := Nat.le_trans (Nat.le_mul_of_pos_right _ hbz) hn1
  have hmn : m + n ≤ 1099511627776 := Nat.le_trans (Nat.le_mul_of_pos_right _ hbz) hb
  unfold slcB at ht
  split at ht
  · rename_i e' hu
    cases hin : P.info? e' with
    | none => rw [hin] at ht; cases ht
    | some inf =>
      rw [hin] at ht
      simp only [Option.map_some, Option.some.injEq, Prod.mk.injEq] at ht
      obtain ⟨rfl, rfl, rfl⟩ := ht
      unfold Builtin.append_
      simp only [List.getElem?_toArray, List.getElem?_cons_zero, List.getElem?_cons_succ]
      rw [semH_und hu]
      dsimp only
      rw [semH_sz (n := inf.size) (by simp [szB, hin])]
      have htx : ∃ k', P.underlying tx = some (.int k') := by
        unfold intB at hix
        split at hix
        · rename_i k' hk'; exact ⟨k', hk'⟩
        · cases hix
      obtain ⟨k', hk'⟩ := htx
      rw [semH_und hk']
      have hw : IntKind.i64.wrap (n : Int) = n := IntWalk.i64_in n ⟨by omega, by omega⟩
      have hsmall : (n : Int) * (inf.bytes : Int) ≤ 1099511627776 := by
        have : ((n * inf.bytes : Nat) : Int) ≤ 1099511627776 := Int.ofNat_le.2 hn1
        rw [Int.natCast_mul] at this
        exact this
      simp only [pure_bind, if_true, asInt, asIntOf, hw]
      rw [if_neg (by omega), semH_info hin, if_neg (by show ¬ (_ > (2 : Int) ^ 48); omega)]
      simp only [Bool.not_true, Bool.false_eq_true, if_false, Int.toNat_natCast]
      rw [if_neg (by omega), semH_info hin]
      have hcap : Builtin.nextslicecap (m + n) c * inf.bytes ≤ 281474976710656 := by
        have h1 := nextcap_le (m + n) c (by omega)
        have h2 : Builtin.nextslicecap (m + n) c * inf.bytes ≤ (2 * (m + n) + 200) * inf.bytes := Nat.mul_le_mul_right _ h1
        have h3 : inf.bytes ≤ (m + n) * inf.bytes := Nat.le_mul_of_pos_left _ (by omega)
        have h4 : (2 * (m + n) + 200) * inf.bytes = 2 * ((m + n) * inf.bytes) + 200 * inf.bytes := by rw [Nat.add_mul, Nat.mul_assoc]
        omega
      have hmx : IntKind.i64.max = 9223372036854775807 := by decide
      rw [if_neg (by rw [hmx]; omega), semH_info hin, if_neg (by show ¬ (_ > 2 ^ 48); omega)]
      refine semH_choose rfl fun q => ?_
      have hcut : m + n ≤ (Question.appendCap (m + n) c e').cut q := by simp [Question.cut]
      generalize (Question.appendCap (m + n) c e').cut q = nc at hcut
      rw [semH_info hin]
      refine semH_askRoom ?_
      have hold : ∀ {α : Type} {f : Array Value → Sem α} {K : α → Heap → Prop}, semH P B (f xs.toArray) h K → semH P B (Builtin.firstCells inf.size m (.slice a m c) >>= f) h K := by
        intro α f K k
        rcases hv with ⟨h1, h2⟩ | ⟨k', m', c', nn, js, h1, h2, h3, h4, h5⟩
        · cases h1
          subst h2
          exact k
        · cases h1
          rw [semH_bind]
          show semH P B (loadCellsFrom ⟨k', 0, none⟩ 0 (m * inf.size) #[]) h _
          rw [h3]
          refine semH_loadCells xs 0 #[] (CellsAt.of_vec xs 0 h2 (fun j y hj => ?_)) ?_
          · simp only [Nat.zero_add]
            exact plains_get_some (by rw [List.getElem?_append_left (List.getElem?_eq_some_iff.1 hj).1]; exact hj)
          · simpa using k
      refine hold ?_
      have hns : ¬ (n * inf.size = 0) := by
        intro hh
        rcases Nat.mul_eq_zero.1 hh with h | h <;> omega
      rw [if_neg hns, bind_assoc]
      refine semH_zero hz fun z hzc => ?_
      have hzc' : z.cells.size = inf.size := by rw [← hzs, ← hzc]; simp
      simp only [pure_bind]
      refine semH_zero hz fun z' hzc2 => ?_
      have hzc2' : z'.cells.size = inf.size := by rw [← hzs, ← hzc2]; simp
      have hxl : xs.length = m * inf.size := by
        rcases hv with ⟨h1, h2⟩ | ⟨k', m', c', nn, js, h1, h2, h3, h4, h5⟩
        · cases h1; subst h2; simp
        · cases h1; exact h3.symm
      refine semH_newRow fun b hb1 hb2 => ?_
      have e1 : (xs.toArray ++ Builtin.zeroCells z.cells n ++ Builtin.zeroCells z'.cells (nc - (m + n))).toList = xs ++ (Builtin.zeroCells z.cells n).toList ++ (Builtin.zeroCells z'.cells (nc - (m + n))).toList := by simp
      have e2 : (xs.toArray ++ Builtin.zeroCells z.cells n ++ Builtin.zeroCells z'.cells (nc - (m + n))).size = m * inf.size + n * inf.size + (nc - (m + n)) * inf.size := by simp [zeroCells_size, hzc', hzc2', hxl, Nat.add_assoc]
      have e3 : nc * inf.size ≤ m * inf.size + n * inf.size + (nc - (m + n)) * inf.size := by
        rw [← Nat.add_mul, ← Nat.add_mul]
        exact Nat.mul_le_mul_right _ (by omega)
      have hyl : (Builtin.zeroCells z.cells n).toList.length = n * inf.size := by simp [zeroCells_size, hzc']
      rw [e1, e2]
      exact hk _ _ _ _ _ hb1 hb2 hyl hcut e3
  · cases ht
theorem semH_copySl {t tx ty : TypeId} {bz nS cS dLen cD : Nat} {A D : Addr} {ys : List Value} {K : Value → Heap → Prop} (ht : slcB P t = some (e, sz, bz)) (hc : CellsAt B h A 0 ys) (hl : ys.length = min nS dLen * sz) (st : StoresAt D h 0 ys h') (hk : K (.int .i64 ((min nS dLen : Nat) : Int)) h') :
    semH P B (Builtin.copy_ #[t, tx] ty #[.slice (some D) dLen cD, .slice (some A) nS cS]) h K := by
  unfold slcB at ht
  split at ht
  · rename_i e' hu
    cases hin : P.info? e' with
    | none => rw [hin] at ht; cases ht
    | some inf =>
      rw [hin] at ht
      simp only [Option.map_some, Option.some.injEq, Prod.mk.injEq] at ht
      obtain ⟨rfl, rfl, rfl⟩ := ht
      unfold Builtin.copy_
      simp only [List.getElem?_toArray, List.getElem?_cons_zero, List.getElem?_cons_succ]
      rw [semH_und hu]
      dsimp only
      have hlen : Builtin.lenOf (.slice (some A) nS cS) = pure nS := rfl
      rw [hlen, pure_bind, semH_sz (n := inf.size) (by simp [szB, hin])]
      rw [semH_bind]
      show semH P B (loadCellsFrom A 0 (min nS dLen * inf.size) #[]) h _
      rw [← hl]
      refine semH_loadCells ys 0 #[] hc ?_
      simp only [Array.empty_append]
      rw [semH_bind]
      exact semH_storeCells ys 0 st hk
  · cases ht
theorem semH_overlaps {t tb : TypeId} {bz la ca lb cb ka kb oa ob na nb : Nat} {fa fb : List Fld} {ea eb : TypeId} {K : Value → Heap → Prop} (ht : slcB P t = some (e, sz, bz)) (ha : h ka = some (.vec ea fa na)) (hb : h kb = some (.vec eb fb nb)) (hne : ka ≠ kb) (h5 : ea ≠ 5 ∧ eb ≠ 5) (hn : na ≠ 0 ∧ nb ≠ 0) (hk : K (.bool false) h) :
    semH P B (Extern.SlicesOverlaps.overlaps #[t, t] #[tb] #[.slice (some ⟨ka, oa, none⟩) la ca, .slice (some ⟨kb, ob, none⟩) lb cb]) h K := by
  unfold slcB at ht
  split at ht
  · rename_i e' hu
    cases hin : P.info? e' with
    | none => rw [hin] at ht; cases ht
    | some inf =>
      rw [hin] at ht
      simp only [Option.map_some, Option.some.injEq, Prod.mk.injEq] at ht
      obtain ⟨rfl, rfl, rfl⟩ := ht
      have fz : ∀ (o : Nat), frozenH B h ⟨ka, o, none⟩ = some false := fun o => by
        unfold frozenH; simp [ha, h5.1]
      have fz2 : ∀ (o : Nat), frozenH B h ⟨kb, o, none⟩ = some false := fun o => by
        unfold frozenH; simp [hb, h5.2]
      have sh : shapeH B h ka = some (some (ea, na)) := by unfold shapeH; simp [ha]
      have sh2 : shapeH B h kb = some (some (eb, nb)) := by unfold shapeH; simp [hb]
      have hbn : (ka != kb) = true := by simpa using hne
      have hbn' : (ka == kb) = false := by simpa using hne
      show semH P B (α := Value) (do
        let .slice elem ← underlying t | stuck "slices.overlaps: slice type expected"
        let size ← sizeOf elem
        if la = 0 ∨ lb = 0 ∨ size = 0 then pure (Value.bool false)
        else if ka != kb && (← frozen ⟨ka, oa, none⟩) && (← frozen ⟨kb, ob, none⟩) then unsupported .addressObserved
        else do
          if ka != kb then do
            noView ⟨ka, oa, none⟩; noView ⟨kb, ob, none⟩
            if ← mayBeOne ⟨ka, oa, none⟩ ⟨kb, ob, none⟩ then return Value.bool ((← choose (.extern "sameAddr.stringBytes" 2)) == 1)
          pure (Value.bool (ka == kb && oa < ob + lb * size && ob < oa + la * size))) h K
      rw [semH_und hu]
      dsimp only
      rw [semH_sz (n := inf.size) (by simp [szB, hin])]
      split
      · exact hk
      · have frz : ∀ {α : Type} {A : Addr} {f : Bool → Sem α} {K : α → Heap → Prop}, frozenH B h A = some false → semH P B (f false) h K → semH P B (frozen A >>= f) h K := fun {α A f K} e k => by
          rw [semH_bind]
          show semH P B (.frozen A .pure) h _
          intro b hb
          rw [hb false e]; exact k
        have shp : ∀ {α : Type} {q : Nat} {s : Option (TypeId × Nat)} {f : Option (TypeId × Nat) → Sem α} {K : α → Heap → Prop}, shapeH B h q = some s → semH P B (f s) h K → semH P B (shape q >>= f) h K := fun {α q s f K} e k => by
          rw [semH_bind]
          exact ⟨s, e, k⟩
        have nv : ∀ {α : Type} {q o : Nat} {s : TypeId × Nat} {f : Unit → Sem α} {K : α → Heap → Prop}, shapeH B h q = some (some s) → semH P B (f ()) h K → semH P B (noView ⟨q, o, none⟩ >>= f) h K := fun {α q o s f K} e k => by
          unfold noView viewAt
          simp only [bind_assoc]
          refine shp e ?_
          exact k
        have sg : ∀ {α : Type} {q o : Nat} {s : TypeId × Nat} {f : Bool → Sem α} {K : α → Heap → Prop}, shapeH B h q = some (some s) → (∀ o, frozenH B h ⟨q, o, none⟩ = some false) → semH P B (f false) h K → semH P B (stringish ⟨q, o, none⟩ >>= f) h K := fun {α q o s f K} e e2 k => by
          unfold stringish
          simp only [bind_assoc]
          refine frz (e2 _) ?_
          simp only [Bool.false_eq_true, if_false, bind_assoc]
          refine shp e ?_
          exact frz (e2 _) k
        refine frz (fz _) (frz (fz2 _) ?_)
        simp only [hbn, hbn', Bool.and_false, Bool.false_eq_true, if_false]
        refine nv sh (nv sh2 ?_)
        unfold mayBeOne
        simp only [bind_assoc]
        refine sg sh fz (sg sh2 fz2 (shp sh (shp sh2 ?_)))
        exact hk
  · cases ht
end
end Go.Proofs.Ytgldgabefiialaa.H
namespace Go.Proofs.Ytgldgabefiialaa.H
open Go
set_option linter.unusedVariables false
set_option maxRecDepth 100000
section
variable {P : Program} {B : RO} {h0 h h' : Heap} {L : List (Option (Nat × AObj))} {r : Option (Nat × AObj)} {e : TypeId} {sz : Nat} {xs : List Value} {a : Option Addr} {m c : Nat}
theorem optAddZ (a : Option Addr) (n k : Nat) : (if n = 0 then a else Option.map (fun x => Addr.add x (0 * k)) a) = a := by
  split
  · rfl
  · cases a
    · rfl
    · show some (Addr.add _ (0 * k)) = _
      rw [Nat.zero_mul]; rfl
theorem up_app {L : List (Option (Nat × AObj))} {j : Nat} {x : Option (Nat × AObj)} (y : List (Option (Nat × AObj))) (hj : L[j]? = some x) : (L ++ y)[j]? = some x := by
  rw [List.getElem?_append_left (List.getElem?_eq_some_iff.1 hj).1]; exact hj
theorem Keep.remap {L' : List (Option (Nat × AObj))} (E : Keep B h0 L h) (f : Nat → Nat) (hf : ∀ (i : Nat) (y : Nat × AObj), L'[i]? = some (some y) → L[f i]? = some (some y)) (hi : ∀ i j, i < L'.length → j < L'.length → f i = f j → i = j) : Keep B h0 L' h :=
  ⟨E.le, E.nw, fun i k o e => E.z _ k o (hf i _ e), fun i k o e => E.get _ k o (hf i _ e), fun i j k o o' e e' => hi i j (List.getElem?_eq_some_iff.1 e).1 (List.getElem?_eq_some_iff.1 e').1 (E.nd _ _ _ _ _ (hf i _ e) (hf j _ e'))⟩
theorem Keep.moveLast {x : Option (Nat × AObj)} (E : Keep B h0 (L ++ [x]) h) (q : Nat) : Keep B h0 (L.set q x) h := by
  let f : Nat → Nat := fun i => if i = q then L.length else i
  have key : ∀ (i : Nat) (y : Nat × AObj), (L.set q x)[i]? = some (some y) → (L ++ [x])[f i]? = some (some y) ∧ i < L.length := fun i y hi => by
    have hl := (List.getElem?_eq_some_iff.1 hi).1
    rw [List.length_set] at hl
    by_cases h : i = q
    · subst h
      rw [List.getElem?_set_self hl] at hi
      simp [f]; exact ⟨Option.some.inj hi, hl⟩
    · rw [List.getElem?_set_ne (Ne.symm h)] at hi
      simp only [f, if_neg h]
      rw [List.getElem?_append_left hl]; exact ⟨hi, hl⟩
  refine ⟨E.le, E.nw, fun i k o e => E.z _ k o (key i _ e).1, fun i k o e => E.get _ k o (key i _ e).1, fun i j k o o' e e' => ?_⟩
  obtain ⟨a1, a2⟩ := key i _ e
  obtain ⟨b1, b2⟩ := key j _ e'
  have := E.nd _ _ _ _ _ a1 b1
  simp only [f] at this
  by_cases h1 : i = q <;> by_cases h2 : j = q
  · rw [h1, h2]
  · rw [if_pos h1, if_neg h2] at this; omega
  · rw [if_neg h1, if_pos h2] at this; omega
  · rw [if_neg h1, if_neg h2] at this; exact this
theorem Keep.storesV (E : Keep B h0 L h) (i : Nat) {k nn : Nat} {t : TypeId} {fs gs : List Value} (hi : L[i]? = some (some (k, .vec t (plains (fs ++ gs)) nn))) (ys : List Value) (ho : ∀ y ∈ ys, isOne y = true) (o : Nat) (hf : fs.length = o) (hn : o + ys.length ≤ nn) :
    ∃ h', StoresAt ⟨k, o, none⟩ h 0 ys h' ∧ Keep B h0 (L.set i (some (k, .vec t (plains (fs ++ ys ++ gs.drop ys.length)) nn))) h' := by
  obtain ⟨h', s1, s2, s3⟩ := StoresAt.over ys h o 0 fs gs ho (E.at i hi) (by omega) (by omega)
  refine ⟨h', s1, ?_⟩
  by_cases hy : ys = []
  · rw [s2 hy, hy]
    have : L.set i (some (k, .vec t (plains (fs ++ [] ++ gs.drop ([] : List Value).length)) nn)) = L := by
      obtain ⟨hl, e⟩ := List.getElem?_eq_some_iff.1 hi
      rw [List.append_nil, List.length_nil, List.drop_zero, ← e]; exact List.set_getElem_self hl
    rw [this]; exact E
  · rw [s3 hy]; exact E.put i hi
theorem Keep.storesLast {k nn : Nat} {t : TypeId} {fs gs : List Value} (E : Keep B h0 (L ++ [some (k, .vec t (plains (fs ++ gs)) nn)]) h) (ys : List Value) (ho : ∀ y ∈ ys, isOne y = true) (o : Nat) (hf : fs.length = o) (hn : o + ys.length ≤ nn) :
    ∃ h', StoresAt ⟨k, o, none⟩ h 0 ys h' ∧ Keep B h0 (L ++ [some (k, .vec t (plains (fs ++ ys ++ gs.drop ys.length)) nn)]) h' := by
  obtain ⟨h', s, E'⟩ := E.storesV L.length (by rw [List.getElem?_append_right (Nat.le_refl _), Nat.sub_self]; rfl) ys ho o hf hn
  rw [List.set_append_right _ _ (Nat.le_refl _), Nat.sub_self] at E'
  exact ⟨h', s, E'⟩
theorem Keep.cellsV (E : Keep B h0 L h) (i : Nat) {k nn : Nat} {t : TypeId} {fs ys gs : List Value} (hi : L[i]? = some (some (k, .vec t (plains (fs ++ ys ++ gs)) nn))) (o : Nat) (hf : fs.length = o) : CellsAt B h ⟨k, o, none⟩ 0 ys :=
  CellsAt.of_vec ys 0 (E.at i hi) fun j y hj => by
    have hl := (List.getElem?_eq_some_iff.1 hj).1
    rw [plains_get, Nat.add_zero, List.append_assoc, List.getElem?_append_right (by omega), show o + j - fs.length = j by omega, List.getElem?_append_left hl, hj]
    rfl
def InsP (P : Program) (ts sz tb ti : Nat) (rot : RO → Option Addr → Nat → Nat → Int → Heap → (Heap → Prop) → Prop) (B : RO) (a1 : Option Addr) (n2 : Nat) (c3 : Nat) (i4 : Int) (a5 : Option Addr) (n6 : Nat) (c7 : Nat) (h : Heap) (Q : Option Addr → Nat → Nat → Heap → Prop) : Prop :=
 0 ≤ (i4 : Int) ∧ (i4 : Int) ≤ ((n2 : Nat) : Int) ∧ ((n2 : Nat) : Int) ≤ (c3 : Nat) ∧
 (((n6 : Nat) : Int) = 0 →
 Fin B h (Q a1 n2 c3)) ∧ (¬ (((n6 : Nat) : Int) = 0) →
 ((i4 : Int) = (n2 : Nat) →
 semH P B (Builtin.append_ #[ts, ts] ts #[(Value.slice a1 n2 c3), (Value.slice a5 n6 c7)]) h (fun v h13 => ∃ a14 : Option Addr, ∃ n15 : Nat, ∃ c16 : Nat, v = (Value.slice a14 n15 c16) ∧
 Fin B h13 (Q a14 n15 c16))) ∧ (¬ ((i4 : Int) = (n2 : Nat)) →
 ((IntKind.wrap .i64 (((n2 : Nat)) + ((n6 : Nat))) : Int) > ((c3 : Nat)) →
 0 ≤ (0 : Int) ∧ (0 : Int) ≤ (i4 : Int) ∧ (i4 : Int) ≤ (c3 : Nat) ∧
 semH P B (Builtin.append_ #[ts, ti] ts #[(Value.slice (if c3 = Int.toNat (0) then a1 else Option.map (·.add (Int.toNat (0) * sz)) a1) (Int.toNat (i4) - Int.toNat (0)) (c3 - Int.toNat (0))), (Value.int .i64 (IntKind.wrap .i64 ((IntKind.wrap .i64 (((n2 : Nat)) + ((n6 : Nat)))) - (i4))))]) h (fun v h18 => ∃ a19 : Option Addr, ∃ n20 : Nat, ∃ c21 : Nat, v = (Value.slice a19 n20 c21) ∧
 0 ≤ (i4 : Int) ∧ (i4 : Int) ≤ ((n20 : Nat) : Int) ∧ ((n20 : Nat) : Int) ≤ (c21 : Nat) ∧
 semH P B (Builtin.copy_ #[ts, ts] ti #[(Value.slice (if c21 = Int.toNat (i4) then a19 else Option.map (·.add (Int.toNat (i4) * sz)) a19) (Int.toNat ((n20 : Nat)) - Int.toNat (i4)) (c21 - Int.toNat (i4))), (Value.slice a5 n6 c7)]) h18 (fun v h22 => ∃ i23 : Int, v = (Value.int .i64 (i23)) ∧
 0 ≤ (IntKind.wrap .i64 ((i4) + ((n6 : Nat))) : Int) ∧ (IntKind.wrap .i64 ((i4) + ((n6 : Nat))) : Int) ≤ ((n20 : Nat) : Int) ∧ ((n20 : Nat) : Int) ≤ (c21 : Nat) ∧
 0 ≤ (i4 : Int) ∧ (i4 : Int) ≤ ((n2 : Nat) : Int) ∧ ((n2 : Nat) : Int) ≤ (c3 : Nat) ∧
 semH P B (Builtin.copy_ #[ts, ts] ti #[(Value.slice (if c21 = Int.toNat (IntKind.wrap .i64 ((i4) + ((n6 : Nat)))) then a19 else Option.map (·.add (Int.toNat (IntKind.wrap .i64 ((i4) + ((n6 : Nat)))) * sz)) a19) (Int.toNat ((n20 : Nat)) - Int.toNat (IntKind.wrap .i64 ((i4) + ((n6 : Nat))))) (c21 - Int.toNat (IntKind.wrap .i64 ((i4) + ((n6 : Nat)))))), (Value.slice (if c3 = Int.toNat (i4) then a1 else Option.map (·.add (Int.toNat (i4) * sz)) a1) (Int.toNat ((n2 : Nat)) - Int.toNat (i4)) (c3 - Int.toNat (i4)))]) h22 (fun v h24 => ∃ i25 : Int, v = (Value.int .i64 (i25)) ∧
 Fin B h24 (Q a19 n20 c21))))) ∧ (¬ ((IntKind.wrap .i64 (((n2 : Nat)) + ((n6 : Nat))) : Int) > ((c3 : Nat))) →
 0 ≤ (0 : Int) ∧ (0 : Int) ≤ (IntKind.wrap .i64 (((n2 : Nat)) + ((n6 : Nat))) : Int) ∧ (IntKind.wrap .i64 (((n2 : Nat)) + ((n6 : Nat))) : Int) ≤ (c3 : Nat) ∧
 0 ≤ (IntKind.wrap .i64 ((i4) + ((n6 : Nat))) : Int) ∧ (IntKind.wrap .i64 ((i4) + ((n6 : Nat))) : Int) ≤ (((Int.toNat (IntKind.wrap .i64 (((n2 : Nat)) + ((n6 : Nat)))) - Int.toNat (0)) : Nat) : Int) ∧ (((Int.toNat (IntKind.wrap .i64 (((n2 : Nat)) + ((n6 : Nat)))) - Int.toNat (0)) : Nat) : Int) ≤ ((c3 - Int.toNat (0)) : Nat) ∧
 semH P B (Extern.SlicesOverlaps.overlaps #[ts, ts] #[tb] #[(Value.slice a5 n6 c7), (Value.slice (if (c3 - Int.toNat (0)) = Int.toNat (IntKind.wrap .i64 ((i4) + ((n6 : Nat)))) then (if c3 = Int.toNat (0) then a1 else Option.map (·.add (Int.toNat (0) * sz)) a1) else Option.map (·.add (Int.toNat (IntKind.wrap .i64 ((i4) + ((n6 : Nat)))) * sz)) (if c3 = Int.toNat (0) then a1 else Option.map (·.add (Int.toNat (0) * sz)) a1)) (Int.toNat (((Int.toNat (IntKind.wrap .i64 (((n2 : Nat)) + ((n6 : Nat)))) - Int.toNat (0)) : Nat)) - Int.toNat (IntKind.wrap .i64 ((i4) + ((n6 : Nat))))) ((c3 - Int.toNat (0)) - Int.toNat (IntKind.wrap .i64 ((i4) + ((n6 : Nat))))))]) h (fun v h26 => ∃ b27 : Bool, v = (Value.bool b27) ∧
 (b27 = true →
 0 ≤ ((n2 : Nat) : Int) ∧ ((n2 : Nat) : Int) ≤ (((Int.toNat (IntKind.wrap .i64 (((n2 : Nat)) + ((n6 : Nat)))) - Int.toNat (0)) : Nat) : Int) ∧ (((Int.toNat (IntKind.wrap .i64 (((n2 : Nat)) + ((n6 : Nat)))) - Int.toNat (0)) : Nat) : Int) ≤ ((c3 - Int.toNat (0)) : Nat) ∧
 semH P B (Builtin.copy_ #[ts, ts] ti #[(Value.slice (if (c3 - Int.toNat (0)) = Int.toNat ((n2 : Nat)) then (if c3 = Int.toNat (0) then a1 else Option.map (·.add (Int.toNat (0) * sz)) a1) else Option.map (·.add (Int.toNat ((n2 : Nat)) * sz)) (if c3 = Int.toNat (0) then a1 else Option.map (·.add (Int.toNat (0) * sz)) a1)) (Int.toNat (((Int.toNat (IntKind.wrap .i64 (((n2 : Nat)) + ((n6 : Nat)))) - Int.toNat (0)) : Nat)) - Int.toNat ((n2 : Nat))) ((c3 - Int.toNat (0)) - Int.toNat ((n2 : Nat)))), (Value.slice a5 n6 c7)]) h26 (fun v h32 => ∃ i33 : Int, v = (Value.int .i64 (i33)) ∧
 0 ≤ (i4 : Int) ∧ (i4 : Int) ≤ (((Int.toNat (IntKind.wrap .i64 (((n2 : Nat)) + ((n6 : Nat)))) - Int.toNat (0)) : Nat) : Int) ∧ (((Int.toNat (IntKind.wrap .i64 (((n2 : Nat)) + ((n6 : Nat)))) - Int.toNat (0)) : Nat) : Int) ≤ ((c3 - Int.toNat (0)) : Nat) ∧
 rot B (if (c3 - Int.toNat (0)) = Int.toNat (i4) then (if c3 = Int.toNat (0) then a1 else Option.map (·.add (Int.toNat (0) * sz)) a1) else Option.map (·.add (Int.toNat (i4) * sz)) (if c3 = Int.toNat (0) then a1 else Option.map (·.add (Int.toNat (0) * sz)) a1)) (Int.toNat (((Int.toNat (IntKind.wrap .i64 (((n2 : Nat)) + ((n6 : Nat)))) - Int.toNat (0)) : Nat)) - Int.toNat (i4)) ((c3 - Int.toNat (0)) - Int.toNat (i4)) ((n6 : Nat)) h32 (fun h34 =>
 Fin B h34 (Q (if c3 = Int.toNat (0) then a1 else Option.map (·.add (Int.toNat (0) * sz)) a1) (Int.toNat (IntKind.wrap .i64 (((n2 : Nat)) + ((n6 : Nat)))) - Int.toNat (0)) (c3 - Int.toNat (0)))))) ∧ (b27 = false →
 0 ≤ (IntKind.wrap .i64 ((i4) + ((n6 : Nat))) : Int) ∧ (IntKind.wrap .i64 ((i4) + ((n6 : Nat))) : Int) ≤ (((Int.toNat (IntKind.wrap .i64 (((n2 : Nat)) + ((n6 : Nat)))) - Int.toNat (0)) : Nat) : Int) ∧ (((Int.toNat (IntKind.wrap .i64 (((n2 : Nat)) + ((n6 : Nat)))) - Int.toNat (0)) : Nat) : Int) ≤ ((c3 - Int.toNat (0)) : Nat) ∧
 0 ≤ (i4 : Int) ∧ (i4 : Int) ≤ (((Int.toNat (IntKind.wrap .i64 (((n2 : Nat)) + ((n6 : Nat)))) - Int.toNat (0)) : Nat) : Int) ∧ (((Int.toNat (IntKind.wrap .i64 (((n2 : Nat)) + ((n6 : Nat)))) - Int.toNat (0)) : Nat) : Int) ≤ ((c3 - Int.toNat (0)) : Nat) ∧
 semH P B (Builtin.copy_ #[ts, ts] ti #[(Value.slice (if (c3 - Int.toNat (0)) = Int.toNat (IntKind.wrap .i64 ((i4) + ((n6 : Nat)))) then (if c3 = Int.toNat (0) then a1 else Option.map (·.add (Int.toNat (0) * sz)) a1) else Option.map (·.add (Int.toNat (IntKind.wrap .i64 ((i4) + ((n6 : Nat)))) * sz)) (if c3 = Int.toNat (0) then a1 else Option.map (·.add (Int.toNat (0) * sz)) a1)) (Int.toNat (((Int.toNat (IntKind.wrap .i64 (((n2 : Nat)) + ((n6 : Nat)))) - Int.toNat (0)) : Nat)) - Int.toNat (IntKind.wrap .i64 ((i4) + ((n6 : Nat))))) ((c3 - Int.toNat (0)) - Int.toNat (IntKind.wrap .i64 ((i4) + ((n6 : Nat)))))), (Value.slice (if (c3 - Int.toNat (0)) = Int.toNat (i4) then (if c3 = Int.toNat (0) then a1 else Option.map (·.add (Int.toNat (0) * sz)) a1) else Option.map (·.add (Int.toNat (i4) * sz)) (if c3 = Int.toNat (0) then a1 else Option.map (·.add (Int.toNat (0) * sz)) a1)) (Int.toNat (((Int.toNat (IntKind.wrap .i64 (((n2 : Nat)) + ((n6 : Nat)))) - Int.toNat (0)) : Nat)) - Int.toNat (i4)) ((c3 - Int.toNat (0)) - Int.toNat (i4)))]) h26 (fun v h28 => ∃ i29 : Int, v = (Value.int .i64 (i29)) ∧
 0 ≤ (i4 : Int) ∧ (i4 : Int) ≤ (((Int.toNat (IntKind.wrap .i64 (((n2 : Nat)) + ((n6 : Nat)))) - Int.toNat (0)) : Nat) : Int) ∧ (((Int.toNat (IntKind.wrap .i64 (((n2 : Nat)) + ((n6 : Nat)))) - Int.toNat (0)) : Nat) : Int) ≤ ((c3 - Int.toNat (0)) : Nat) ∧
 semH P B (Builtin.copy_ #[ts, ts] ti #[(Value.slice (if (c3 - Int.toNat (0)) = Int.toNat (i4) then (if c3 = Int.toNat (0) then a1 else Option.map (·.add (Int.toNat (0) * sz)) a1) else Option.map (·.add (Int.toNat (i4) * sz)) (if c3 = Int.toNat (0) then a1 else Option.map (·.add (Int.toNat (0) * sz)) a1)) (Int.toNat (((Int.toNat (IntKind.wrap .i64 (((n2 : Nat)) + ((n6 : Nat)))) - Int.toNat (0)) : Nat)) - Int.toNat (i4)) ((c3 - Int.toNat (0)) - Int.toNat (i4))), (Value.slice a5 n6 c7)]) h28 (fun v h30 => ∃ i31 : Int, v = (Value.int .i64 (i31)) ∧
 Fin B h30 (Q (if c3 = Int.toNat (0) then a1 else Option.map (·.add (Int.toNat (0) * sz)) a1) (Int.toNat (IntKind.wrap .i64 (((n2 : Nat)) + ((n6 : Nat)))) - Int.toNat (0)) (c3 - Int.toNat (0))))))))))
theorem insP_wp {ts tb ti bz kx c7 : Nat} {ki : IntKind} {zs ys : List Value} {rot : RO → Option Addr → Nat → Nat → Int → Heap → (Heap → Prop) → Prop} {Q : Option Addr → Nat → Nat → Heap → Prop}
    (ht : slcB P ts = some (e, sz, bz)) (hz : zeroB P e = some zs) (hzs : zs.length = sz) (hsz : 0 < sz) (hbz : 0 < bz) (hst : slT P ts = true) (hti : intB P ti = some ki) (h5 : e ≠ 5)
    (E : Keep B h0 L h) (q : Nat) (hq : L[q]? = some r) (R : Row r (.slice a m c) e sz xs) (hxo : ∀ y ∈ xs, isOne y = true) (j : Nat) (hj : L[j]? = some (some (kx, .vec e (plains ys) sz))) (hys : ys.length = sz) (hone : ∀ y ∈ ys, isOne y = true) (hjq : j ≠ q) (i : Nat) (hi : i ≤ m) (hb : (xs.length + sz) * bz ≤ 1099511627776)
    (hQ : ∀ a' c' r' h', Row r' (.slice a' (m + 1) c') e sz (xs.take (i * sz) ++ ys ++ xs.drop (i * sz)) → Keep B h0 (L.set q r') h' → Q a' (m + 1) c' h') : InsP P ts sz tb ti rot B a m c (i : Nat) (some ⟨kx, 0, none⟩) 1 c7 h Q := by
  have hmx := Row.len R
  have hcap := Row.cap R
  have hm1 : m ≤ xs.length := by rw [← hmx]; exact Nat.le_mul_of_pos_right _ hsz
  have hlim : xs.length + sz ≤ 1099511627776 := Nat.le_trans (Nat.le_mul_of_pos_right _ hbz) hb
  have hw1 : IntKind.wrap .i64 (((m : Nat) : Int) + ((1 : Nat) : Int)) = ((m + 1 : Nat) : Int) := by rw [w64 (by omega) (by omega)]; omega
  have hw2 : IntKind.wrap .i64 (((i : Nat) : Int) + ((1 : Nat) : Int)) = ((i + 1 : Nat) : Int) := by rw [w64 (by omega) (by omega)]; omega
  have hw3 : IntKind.wrap .i64 (((m + 1 : Nat) : Int) - ((i : Nat) : Int)) = ((m + 1 - i : Nat) : Int) := by rw [w64 (by omega) (by omega)]; omega
  have him : i * sz ≤ m * sz := Nat.mul_le_mul_right _ hi
  have hsrc : ∀ {L' : List (Option (Nat × AObj))} {h1 : Heap}, Keep B h0 L' h1 → L'[j]? = some (some (kx, .vec e (plains ys) sz)) → CellsAt B h1 ⟨kx, 0, none⟩ 0 ys := fun E1 hj1 => E1.cellsV (fs := []) (gs := []) j (by rw [List.append_nil]; exact hj1) 0 rfl
  unfold InsP
  simp only [hw1, hw2, hw3, Int.toNat_natCast, Int.toNat_zero, Nat.sub_zero, optAddZ]
  refine ⟨by omega, by omega, by omega, fun e0 => absurd e0 (by decide), fun _ => ⟨fun hin => ?_, fun hin => ⟨fun hgr => ?_, fun hroom => ?_⟩⟩⟩
  · refine E.pushS q (n := 1) (ys := ys) hq R ht hz hzs hsz hbz hst ⟨by omega, hone, .inl ⟨_, _, rfl, hsrc E hj⟩⟩ (by rw [hys]; exact hb) fun a' m' c' r' h'' R' E' => ?_
    have hm' := Row.len R'
    have : m' = m + 1 := by
      have h1 : m' * sz = (m + 1) * sz := by rw [hm', List.length_append, hys, Nat.add_mul, hmx, Nat.one_mul]
      exact Nat.eq_of_mul_eq_mul_right hsz h1
    subst this
    have hie : i = m := by omega
    refine ⟨_, _, _, rfl, Fin.of (hQ _ _ _ _ ?_ E')⟩
    rw [hie, hmx, List.take_length, List.drop_length, List.append_nil]; exact R'
  · have hil : i < m := by omega
    have Rc := R.cut (n := i) hi
    refine ⟨by omega, by omega, by omega, semH_appendZ (n := m + 1 - i) (m := i) ht hz hzs hsz hbz hti (E.sl q hq Rc) (by omega) (by omega) ?_ fun b nc nn zz js hb1 hb2 hzl hnc hnn => ?_⟩
    · refine Nat.le_trans (Nat.mul_le_mul_right _ ?_) hb
      omega
    have him1 : (i + 1) * sz ≤ m * sz := Nat.mul_le_mul_right _ hil
    have e1 : (i + 1) * sz = i * sz + sz := by rw [Nat.add_mul, Nat.one_mul]
    have e2 : (m + 1 - i) * sz + i * sz = m * sz + sz := by rw [← Nat.add_mul, show m + 1 - i + i = m + 1 by omega, Nat.add_mul, Nat.one_mul]
    have hnc2 : (i + (m + 1 - i)) * sz ≤ nc * sz := Nat.mul_le_mul_right _ hnc
    rw [Nat.add_mul] at hnc2
    have htl : (xs.take (i * sz)).length = i * sz := by rw [List.length_take]; omega
    have E1 := E.new (o := .vec e (plains (xs.take (i * sz) ++ (zz ++ js))) nn) hb1 hb2
    rw [List.append_assoc]
    refine ⟨_, _, _, rfl, by omega, by omega, by omega, ?_⟩
    rw [if_neg (by omega), Option.map_some, addr_more, Nat.zero_add]
    obtain ⟨h22, st, E2⟩ := E1.storesLast ys hone (i * sz) htl (by omega)
    refine semH_copySl ht (hsrc E1 (by rw [List.getElem?_append_left (List.getElem?_eq_some_iff.1 hj).1]; exact hj)) (by rw [Nat.min_eq_left (by omega)]; omega) st ⟨_, rfl, by omega, by omega, by omega, by omega, by omega, by omega, ?_⟩
    rcases R with ⟨_, e3, e4⟩ | ⟨k, m', c', nk, jk, rfl, e3, e4, e5, e6⟩
    · cases e3; omega
    cases e3
    rw [if_neg (by omega), Option.map_some, addr_more, Nat.zero_add, if_neg (by omega), Option.map_some, addr_more, Nat.zero_add]
    have hql : q < L.length := (List.getElem?_eq_some_iff.1 hq).1
    have hdl : (xs.drop (i * sz)).length = (m - i) * sz := by rw [List.length_drop, Nat.sub_mul]; omega
    have hc2 : CellsAt B h22 ⟨k, i * sz, none⟩ 0 (xs.drop (i * sz)) := E2.cellsV (fs := xs.take (i * sz)) (gs := jk) q (by rw [List.getElem?_append_left hql, hq, List.take_append_drop]) (i * sz) htl
    obtain ⟨h24, st2, E3⟩ := E2.storesLast (xs.drop (i * sz)) (fun y hy => hxo y (List.mem_of_mem_drop hy)) ((i + 1) * sz) (by rw [List.length_append, htl, hys]; omega) (by rw [List.length_drop]; omega)
    refine semH_copySl ht hc2 (by rw [hdl, Nat.min_eq_left (by omega)]) st2 ⟨_, rfl, Fin.of ?_⟩
    have e7 : i + (m + 1 - i) = m + 1 := by omega
    rw [e7]
    refine hQ _ _ _ _ (.inr ⟨b, m + 1, nc, nn, _, rfl, rfl, ?_, by omega, hnn⟩) (E3.moveLast q)
    rw [List.length_append, List.length_append, htl, hys, List.length_drop, Nat.add_mul, Nat.one_mul]; omega
  · have hil : i < m := by omega
    have hmc : m + 1 ≤ c := by omega
    rcases R with ⟨_, e3, e4⟩ | ⟨k, m', c', nk, jk, rfl, e3, e4, e5, e6⟩
    · cases e3; omega
    cases e3
    have him1 : (i + 1) * sz ≤ m * sz := Nat.mul_le_mul_right _ hil
    have e1 : (i + 1) * sz = i * sz + sz := by rw [Nat.add_mul, Nat.one_mul]
    have hmc2 : (m + 1) * sz ≤ c * sz := Nat.mul_le_mul_right _ hmc
    rw [Nat.add_mul, Nat.one_mul] at hmc2
    have htl : (xs.take (i * sz)).length = i * sz := by rw [List.length_take]; omega
    have htl1 : (xs.take ((i + 1) * sz)).length = (i + 1) * sz := by rw [List.length_take]; omega
    have hql : q < L.length := (List.getElem?_eq_some_iff.1 hq).1
    refine ⟨by omega, by omega, by omega, by omega, by omega, by omega, ?_⟩
    have ni1 : ¬ c = i + 1 := by omega
    have ni : ¬ c = i := by omega
    simp only [if_neg ni1, if_neg ni, Option.map_some, addr_more, Nat.zero_add]
    refine semH_overlaps ht (E.at j hj) (E.at q hq) (fun e0 => hjq (E.nd j q kx _ _ hj (by rw [e0]; exact hq))) ⟨h5, h5⟩ ⟨by omega, by omega⟩ ⟨_, rfl, fun e0 => (by cases e0), fun _ => ⟨by omega, by omega, by omega, by omega, by omega, by omega, ?_⟩⟩
    have hdl : (xs.drop (i * sz)).length = (m - i) * sz := by rw [List.length_drop, Nat.sub_mul]; omega
    have hc2 : CellsAt B h ⟨k, i * sz, none⟩ 0 (xs.drop (i * sz)) := E.cellsV (fs := xs.take (i * sz)) (gs := jk) q (by rw [hq, List.take_append_drop]) (i * sz) htl
    obtain ⟨h28, st, E2⟩ := E.storesV q (fs := xs.take ((i + 1) * sz)) (gs := xs.drop ((i + 1) * sz) ++ jk) (by rw [hq, ← List.append_assoc, List.take_append_drop]) (xs.drop (i * sz)) (fun y hy => hxo y (List.mem_of_mem_drop hy)) ((i + 1) * sz) htl1 (by rw [List.length_drop]; omega)
    refine semH_copySl ht hc2 (by rw [hdl, Nat.min_eq_right (by omega)]; congr 1; omega) st ⟨_, rfl, by omega, by omega, by omega, ?_⟩
    have e8 : xs.take ((i + 1) * sz) = xs.take (i * sz) ++ (xs.drop (i * sz)).take sz := by rw [e1, List.take_add]
    generalize hrest : (xs.drop ((i + 1) * sz) ++ jk).drop (xs.drop (i * sz)).length = rest at E2
    obtain ⟨h30, st2, E3⟩ := E2.storesV q (k := k) (nn := nk) (t := e) (fs := xs.take (i * sz)) (gs := (xs.drop (i * sz)).take sz ++ (xs.drop (i * sz) ++ rest)) (by rw [List.getElem?_set_self hql, e8]; simp only [List.append_assoc]) ys hone (i * sz) htl (by omega)
    refine semH_copySl ht (hsrc E2 (by rw [List.getElem?_set_ne (Ne.symm hjq)]; exact hj)) (by rw [Nat.min_eq_left (by omega)]; omega) st2 ⟨_, rfl, Fin.of ?_⟩
    rw [List.set_set] at E3
    have e9 : ((xs.drop (i * sz)).take sz ++ (xs.drop (i * sz) ++ rest)).drop ys.length = xs.drop (i * sz) ++ rest := by
      rw [List.drop_left']
      rw [List.length_take, List.length_drop, hys]; omega
    rw [e9, ← List.append_assoc] at E3
    refine hQ _ _ _ _ (.inr ⟨k, m + 1, c, nk, rest, rfl, rfl, ?_, hmc, e6⟩) E3
    rw [List.length_append, List.length_append, htl, hys, List.length_drop, Nat.add_mul, Nat.one_mul]; omega
end
end Go.Proofs.Ytgldgabefiialaa.H
namespace Go.Proofs.Ytgldgabefiialaa.H
open Go
set_option linter.unusedVariables false
section
variable {V : Type} {l m : List (Int × V)} {i j : Int} {v : V} {p : Nat} {x : Int × V}
def insD : List (Int × V) → Int → V → List (Int × V)
  | [], i, v => [(i, v)]
  | y :: t, i, v => if y.1 < i then y :: insD t i v else if y.1 = i then (i, v) :: t else (i, v) :: y :: t
def SortD (l : List (Int × V)) : Prop := l.Pairwise fun x y => x.1 < y.1
def atD (l : List (Int × V)) (i : Int) : Option V := (l.find? fun x => x.1 == i).map (·.2)
structure PosD (l : List (Int × V)) (i : Int) (p : Nat) : Prop where
  le : p ≤ l.length
  lo : ∀ (q : Nat) (x : Int × V), q < p → l[q]? = some x → x.1 < i
  hi : ∀ (q : Nat) (x : Int × V), p ≤ q → l[q]? = some x → i ≤ x.1
def foundD (l : List (Int × V)) (p : Nat) (i : Int) : Bool := match l[p]? with
  | some x => x.1 == i
  | none => false
theorem PosD.tail {y : Int × V} (k : PosD (y :: l) i (p + 1)) : PosD l i p :=
  ⟨by have := k.le; simp at this; exact this, fun q x hq hx => k.lo (q + 1) x (by omega) (by simpa using hx), fun q x hq hx => k.hi (q + 1) x (by omega) (by simpa using hx)⟩
theorem insD_new : ∀ {l : List (Int × V)} {p : Nat}, PosD l i p → foundD l p i = false → insD l i v = l.take p ++ (i, v) :: l.drop p
  | [], p, k, _ => by
    have := k.le; simp at this; subst this; rfl
  | y :: t, 0, k, hf => by
    have h1 := k.hi 0 y (Nat.le_refl _) rfl
    have h2 : y.1 ≠ i := by simpa [foundD] using hf
    rw [insD, if_neg (by omega), if_neg h2]; rfl
  | y :: t, p + 1, k, hf => by
    have h1 := k.lo 0 y (by omega) rfl
    rw [insD, if_pos h1, insD_new k.tail (by simpa [foundD] using hf)]; rfl
theorem insD_old : ∀ {l : List (Int × V)} {p : Nat}, PosD l i p → foundD l p i = true → insD l i v = l.set p (i, v)
  | [], p, k, hf => by simp [foundD] at hf
  | y :: t, 0, k, hf => by
    have h2 : y.1 = i := by simpa [foundD] using hf
    rw [insD, if_neg (by omega), if_pos h2]; rfl
  | y :: t, p + 1, k, hf => by
    have h1 := k.lo 0 y (by omega) rfl
    rw [insD, if_pos h1, insD_old k.tail (by simpa [foundD] using hf)]; rfl
theorem foundD_some (hf : foundD l p i = true) : ∃ x, l[p]? = some x ∧ x.1 = i := by
  unfold foundD at hf
  split at hf
  · rename_i x hx; exact ⟨x, hx, by simpa using hf⟩
  · cases hf
theorem atD_old : ∀ {l : List (Int × V)} {p : Nat} {x : Int × V}, PosD l i p → l[p]? = some x → x.1 = i → atD l i = some x.2
  | [], p, x, _, h, _ => by simp at h
  | y :: t, 0, x, k, h, e => by
    simp at h; subst h
    simp [atD, e]
  | y :: t, p + 1, x, k, h, e => by
    have h1 := k.lo 0 y (by omega) rfl
    have := atD_old k.tail (by simpa using h) e
    have hn : (y.1 == i) = false := by simp; omega
    simp only [atD, List.find?_cons, hn]
    exact this
theorem atD_new : ∀ {l : List (Int × V)} {p : Nat}, SortD l → PosD l i p → foundD l p i = false → atD l i = none
  | [], p, _, _, _ => rfl
  | y :: t, 0, s, k, hf => by
    have h1 := k.hi 0 y (Nat.le_refl _) rfl
    have h2 : y.1 ≠ i := by simpa [foundD] using hf
    rw [SortD, List.pairwise_cons] at s
    unfold atD
    rw [Option.map_eq_none_iff, List.find?_eq_none]
    intro z hz
    rcases List.mem_cons.1 hz with rfl | hz
    · simpa using h2
    · have := s.1 z hz
      simp; omega
  | y :: t, p + 1, s, k, hf => by
    have h1 := k.lo 0 y (by omega) rfl
    rw [SortD, List.pairwise_cons] at s
    have := atD_new s.2 k.tail (by simpa [foundD] using hf)
    have hn : (y.1 == i) = false := by simp; omega
    simp only [atD, List.find?_cons, hn]
    exact this
theorem insD_mem : ∀ {l : List (Int × V)}, x ∈ insD l i v → x = (i, v) ∨ x ∈ l
  | [], h => by simp [insD] at h; exact .inl h
  | y :: t, h => by
    unfold insD at h
    split at h
    · rcases List.mem_cons.1 h with rfl | h
      · exact .inr (by simp)
      · rcases insD_mem h with h | h
        · exact .inl h
        · exact .inr (by simp [h])
    · split at h
      · rcases List.mem_cons.1 h with rfl | h
        · exact .inl rfl
        · exact .inr (by simp [h])
      · rcases List.mem_cons.1 h with rfl | h
        · exact .inl rfl
        · exact .inr h
theorem SortD.ins : ∀ {l : List (Int × V)}, SortD l → SortD (insD l i v)
  | [], _ => by simp [insD, SortD]
  | y :: t, s => by
    have s' := s
    rw [SortD, List.pairwise_cons] at s
    unfold insD
    split
    · rename_i h
      refine List.pairwise_cons.2 ⟨fun z hz => ?_, SortD.ins s.2⟩
      rcases insD_mem hz with rfl | hz
      · exact h
      · exact s.1 z hz
    · split
      · rename_i h
        refine List.pairwise_cons.2 ⟨fun z hz => ?_, s.2⟩
        have := s.1 z hz
        simp only; omega
      · rename_i h1 h2
        refine List.pairwise_cons.2 ⟨fun z hz => ?_, s'⟩
        rcases List.mem_cons.1 hz with rfl | hz
        · simp only; omega
        · have := s.1 z hz
          simp only; omega
theorem SortD.get (s : SortD l) {p q : Nat} {x y : Int × V} (h : q < p) (hx : l[q]? = some x) (hy : l[p]? = some y) : x.1 < y.1 := by
  obtain ⟨h1, rfl⟩ := List.getElem?_eq_some_iff.1 hx
  obtain ⟨h2, rfl⟩ := List.getElem?_eq_some_iff.1 hy
  exact List.pairwise_iff_getElem.1 s q p h1 h2 h
end
end Go.Proofs.Ytgldgabefiialaa.H
namespace Go.Proofs.Ytgldgabefiialaa.H
open Go
set_option linter.unusedVariables false
set_option maxRecDepth 100000
def entC_int (x : Int × Int) : List Value := [.int .i64 x.1, .int .i64 x.2]
theorem entC_int_len (x : Int × Int) : (entC_int x).length = 2 := rfl
theorem entC_int_one (x : Int × Int) : ∀ y ∈ entC_int x, isOne y = true := fun y hy => by simp [entC_int] at hy; rcases hy with rfl | rfl <;> rfl
theorem TK.slc_ent_int : slcB PG TY.s_draft_entry_int = some (TY.draft_entry_int, 2, 16) := by kernel_rfl
theorem TK.zero_ent_int : zeroB PG TY.draft_entry_int = some [.int .i64 0, .int .i64 0] := by kernel_rfl
theorem TK.sl_ent_int : slT PG TY.s_draft_entry_int = true := by kernel_rfl
theorem TK.int_ent_int : intB PG TY.int = some .i64 := by kernel_rfl
def DRow_int (r : Option (Nat × AObj)) (v : Value) (l : List (Int × Int)) : Prop := Row r v TY.draft_entry_int 2 (l.flatMap entC_int)
def drO_int (v : Value) : AObj := .vec TY.draft_Draft_int (plains [v]) 1
structure DAt_int (L : List (Option (Nat × AObj))) (i k : Nat) (v : Value) (r : Option (Nat × AObj)) : Prop where
  p : L[i]? = some (some (k, drO_int v))
  q : L[i + 1]? = some r
section
variable {B : RO} {h0 h h' : Heap} {L : List (Option (Nat × AObj))} {r : Option (Nat × AObj)} {i k : Nat} {a : Option Addr} {m c : Nat} {v : Value} {l : List (Int × Int)}
theorem by_int_wp {x : Int × Int} {n : Int} {Q : Int → Heap → Prop} (hQ : Q (if x.1 < n then -1 else if n < x.1 then 1 else 0) h) : C_draft_by_int B x.1 (x.2) n h Q := by
  refine C_draft_by_int.of ?_
  unfold S_draft_by_int
  intro k5 a5 b5 h6 e6
  have E := (Keep.nil B h).made a5 b5 e6
  refine ⟨_, E.cell 0 rfl rfl, fun h1 => Fin.ent E.back (Fin.of ?_), fun h1 => ⟨_, E.cell 0 rfl rfl, fun h2 => Fin.ent E.back (Fin.of ?_), fun h2 => Fin.ent E.back (Fin.of ?_)⟩⟩
  · rw [if_pos h1] at hQ; exact hQ
  · rw [if_neg h1, if_pos h2] at hQ; exact hQ
  · rw [if_neg h1, if_neg (fun h => h2 h)] at hQ; exact hQ
theorem bsearch_int_wp {n : Int} {Q : Int → Bool → Heap → Prop} (hr : Reads B h a 2 entC_int l) (s : SortD l) (hl : l.length ≤ 1000000) (hQ : ∀ p, PosD l n p → Q (p : Nat) (foundD l p n) h) : C_slices_BinarySearchFunc_s_draft_entry_int_draft_entry_int_int B a l.length c n (Value.func (.func FN.draft_by_int) #[] #[]) h Q := by
  refine C_slices_BinarySearchFunc_s_draft_entry_int_draft_entry_int_int.of ?_
  unfold S_slices_BinarySearchFunc_s_draft_entry_int_draft_entry_int_int
  refine ⟨fun i j m h' => ∃ lo hi : Nat, i = lo ∧ j = hi ∧ m = hi - lo ∧ lo ≤ hi ∧ hi ≤ l.length ∧ (∀ (q : Nat) (x : Int × Int), q < lo → l[q]? = some x → x.1 < n) ∧ (∀ (q : Nat) (x : Int × Int), hi ≤ q → l[q]? = some x → n ≤ x.1) ∧ h = h', l.length, Fin.of ⟨0, l.length, rfl, rfl, rfl, by omega, Nat.le_refl _, fun q x hq => by omega, fun q x hq hx => by have := (List.getElem?_eq_some_iff.1 hx).1; omega, rfl⟩, ?_⟩
  rintro _ _ _ _ ⟨lo, hi, rfl, rfl, rfl, hlh, hhl, hlo, hhi, rfl⟩
  refine ⟨fun hlt => ⟨by decide, ?_⟩, fun hge => Fin.of ?_⟩
  · have hmid : IntKind.wrap .i64 (Int.fdiv (IntKind.wrap .u64 (IntKind.wrap .i64 (((lo : Nat) : Int) + ((hi : Nat) : Int)))) (2 ^ (min (Int.toNat (1)) (IntKind.bits .u64)))) = (((lo + hi) / 2 : Nat) : Int) := by
      have e1 : IntKind.wrap .i64 (((lo : Nat) : Int) + ((hi : Nat) : Int)) = ((lo + hi : Nat) : Int) := by rw [w64 (by omega) (by omega)]; omega
      have e2 : IntKind.wrap .u64 ((lo + hi : Nat) : Int) = ((lo + hi : Nat) : Int) := by rw [wu64]; omega
      rw [e1, e2, two1, Int.fdiv_eq_ediv_of_nonneg _ (by decide), w64 (by omega) (by omega)]; omega
    rw [hmid]
    have hml : (lo + hi) / 2 < l.length := by omega
    have hx := List.getElem?_eq_getElem hml
    have hb : lo ≤ (lo + hi) / 2 ∧ (lo + hi) / 2 < hi := by omega
    generalize (lo + hi) / 2 = mid at hml hx hb
    generalize l[mid] = x at hx
    obtain ⟨A, e1, _, e4⟩ := hr mid x hx
    have hw : IntKind.wrap .i64 (((mid : Nat) : Int) + 1) = ((mid + 1 : Nat) : Int) := by rw [w64 (by omega) (by omega)]; omega
    rw [hw]
    refine ⟨A, e1, by omega, by omega, x.1, x.2, e4, ?_⟩
    refine CallV.func TG.draft_by_int (by_int_wp (x := x) ⟨fun h1 => Fin.of ⟨hi - (mid + 1), by omega, mid + 1, hi, rfl, rfl, rfl, by omega, hhl, fun q y hq hy => ?_, hhi, rfl⟩, fun h1 => Fin.of ⟨mid - lo, by omega, lo, mid, rfl, rfl, rfl, by omega, by omega, hlo, fun q y hq hy => ?_, rfl⟩⟩)
    · have hx1 : x.1 < n := by
        by_cases h2 : x.1 < n
        · exact h2
        · rw [if_neg h2] at h1; split at h1 <;> omega
      by_cases h : q = mid
      · subst h; rw [hx] at hy; cases hy; exact hx1
      · have := s.get (show q < mid by omega) hy hx; omega
    · have hx1 : n ≤ x.1 := by
        by_cases h2 : x.1 < n
        · rw [if_pos h2] at h1; omega
        · omega
      by_cases h : q = mid
      · subst h; rw [hx] at hy; cases hy; exact hx1
      · have := s.get (show mid < q by omega) hx hy; omega
  · have : lo = hi := by omega
    subst this
    have K : PosD l n lo := ⟨hhl, hlo, hhi⟩
    have hq := hQ lo K
    unfold S_slices_BinarySearchFunc_s_draft_entry_int_draft_entry_int_int_J1
    refine ⟨fun hlt2 => ?_, fun hge2 => Fin.of ?_⟩
    · have hml : lo < l.length := by omega
      have hx := List.getElem?_eq_getElem hml
      generalize l[lo] = x at hx
      obtain ⟨A, e1, _, e4⟩ := hr lo x hx
      have hf : foundD l lo n = (x.1 == n) := by rw [foundD, hx]
      rw [hf] at hq
      refine ⟨A, e1, by omega, by omega, x.1, x.2, e4, ?_⟩
      refine CallV.func TG.draft_by_int (by_int_wp (x := x) (Fin.of ?_))
      have : (((if x.1 < n then -1 else if n < x.1 then 1 else 0 : Int)) == (0 : Int)) = (x.1 == n) := by
        rw [Bool.eq_iff_iff, beq_iff_eq, beq_iff_eq]
        split
        · omega
        · split <;> omega
      rw [this]; exact hq
    · have hf : foundD l lo n = false := by rw [foundD, List.getElem?_eq_none (by omega)]
      rw [hf] at hq; exact hq
theorem DRow_int.len (R : DRow_int r (.slice a m c) l) : m = l.length := (Row.rd (B := fun _ => none) R entC_int_len (by omega)).1
theorem find_int_wp {n : Int} {Q : Int → Bool → Heap → Prop} (E : Keep B h0 L h) (A : DAt_int L i k v r) (R : DRow_int r v l) (s : SortD l) (hl : l.length ≤ 1000000) (hQ : ∀ p, PosD l n p → Q (p : Nat) (foundD l p n) h) : C_draft_Draft_int_find B (some ⟨k, 0, none⟩) n h Q := by
  refine C_draft_Draft_int_find.of ?_
  unfold S_draft_Draft_int_find
  obtain ⟨a, m, c, rfl⟩ := Row.slice R
  obtain ⟨rfl, hrd⟩ := Row.rd (B := B) R entC_int_len (by omega)
  exact ⟨_, rfl, .inl ⟨a, _, c, E.cell i A.p rfl, bsearch_int_wp (hrd h fun k o e => E.at (i + 1) (by rw [A.q, e])) s hl fun p K => Fin.of (hQ p K)⟩⟩
theorem get_int_wp {n : Int} {Q : Int → Bool → Heap → Prop} (E : Keep B h0 L h) (A : DAt_int L i k v r) (R : DRow_int r v l) (s : SortD l) (hl : l.length ≤ 1000000) (hQ : Q ((atD l n).getD 0) (atD l n).isSome h) : C_draft_Draft_int_Get B (some ⟨k, 0, none⟩) n h Q := by
  refine C_draft_Draft_int_Get.of ?_
  unfold S_draft_Draft_int_Get
  refine ⟨fun e => (by cases e), fun _ => find_int_wp E A R s hl fun p K => ⟨fun hf => ?_, fun hf => Fin.of ?_⟩⟩
  · obtain ⟨x, hx, rfl⟩ := foundD_some hf
    have hpl := (List.getElem?_eq_some_iff.1 hx).1
    rw [atD_old K hx rfl] at hQ
    obtain ⟨a, m, c, rfl⟩ := Row.slice R
    obtain ⟨rfl, hrd⟩ := Row.rd (B := B) R entC_int_len (by omega)
    obtain ⟨A', e1, _, e4⟩ := hrd h (fun k o e => E.at (i + 1) (by rw [A.q, e])) p x hx
    refine ⟨_, rfl, .inl ⟨a, _, c, E.cell i A.p rfl, A', e1, by omega, by omega, x.2, ?_, Fin.of hQ⟩⟩
    exact e4.2.1
  · rw [atD_new s K hf] at hQ; exact hQ
theorem ins_int_eq {a5 : Option Addr} {n n6 c7 : Nat} {i : Int} {Q : Option Addr → Nat → Nat → Heap → Prop} : S_slices_Insert_s_draft_entry_int_draft_entry_int B a n c i a5 n6 c7 h Q = InsP PG TY.s_draft_entry_int 2 TY.bool TY.int (fun B => C_slices_rotateRight_draft_entry_int B) B a n c i a5 n6 c7 h Q := by
  unfold S_slices_Insert_s_draft_entry_int_draft_entry_int InsP
  congr
theorem put_int_wp {n : Int} {x : Int} {Q : Bool → Heap → Prop} (E : Keep B h0 L h) (A : DAt_int L i k v r) (R : DRow_int r v l) (s : SortD l) (hl : l.length ≤ 100000) (hQ : ∀ v' r' h', DRow_int r' v' (insD l n x) → Keep B h0 ((L.set i (some (k, drO_int v'))).set (i + 1) r') h' → Q true h') : C_draft_Draft_int_Put B (some ⟨k, 0, none⟩) n x h Q := by
  refine C_draft_Draft_int_Put.of ?_
  unfold S_draft_Draft_int_Put
  have hil : i < L.length := (List.getElem?_eq_some_iff.1 A.p).1
  have hil1 : i + 1 < L.length := (List.getElem?_eq_some_iff.1 A.q).1
  refine ⟨fun e => (by cases e), fun _ => find_int_wp E A R s (by omega) fun p K => ⟨fun hf => ?_, fun hf => ?_⟩⟩
  · obtain ⟨y, hy, rfl⟩ := foundD_some hf
    have hpl := (List.getElem?_eq_some_iff.1 hy).1
    have hi := insD_old (v := x) K hf
    obtain ⟨a, m, c, rfl⟩ := Row.slice R
    have hm := DRow_int.len R
    subst hm
    have hfl := flatMap_length entC_int_len l
    rcases R with ⟨_, e1, e2⟩ | ⟨kr, m', c', nn, js, e0, e1, e3, e4, e5⟩
    · rw [e2] at hfl; simp at hfl; omega
    · cases e1
      have hq := A.q
      rw [e0] at hq
      have hsp := flatMap_splitR (cells := entC_int) l p hpl
      have hly : l[p] = y := by rw [List.getElem?_eq_getElem hpl] at hy; exact Option.some.inj hy
      have htl : ((l.take p).flatMap entC_int).length = p * 2 := by rw [flatMap_length entC_int_len, List.length_take]; omega
      have hle : (l.length : Nat) * 2 ≤ nn := Nat.le_trans (Nat.mul_le_mul_right _ e4) e5
      obtain ⟨h32, st, E2⟩ := E.storesV (i + 1) (k := kr) (nn := nn) (t := TY.draft_entry_int) (fs := (l.take p).flatMap entC_int ++ [.int .i64 y.1]) (gs := [.int .i64 y.2] ++ ((l.drop (p + 1)).flatMap entC_int ++ js)) (by
        rw [hq, hsp, hly]; simp [entC_int, List.append_assoc]) [.int .i64 x] (by simp [isOne]) (p * 2 + 1) (by rw [List.length_append, htl]; rfl) (by simp; omega)
      refine ⟨_, rfl, .inl ⟨_, _, _, E.cell i A.p rfl, _, rfl, by omega, by omega, ?_⟩⟩
      rw [addr_more, addr_more, Nat.zero_add, Int.toNat_natCast]
      have hs : L.set i (some (k, drO_int (.slice (some ⟨kr, 0, none⟩) l.length c))) = L := by
        obtain ⟨hl, e⟩ := List.getElem?_eq_some_iff.1 A.p
        rw [← e]; exact List.set_getElem_self hl
      have hfin : Q true h32 := by
        refine hQ (.slice (some ⟨kr, 0, none⟩) l.length c) _ h32 (.inr ⟨kr, l.length, c, nn, js, rfl, rfl, ?_, e4, e5⟩) ?_
        · rw [hi, flatMap_length entC_int_len, List.length_set]
        · rw [hs, hi, flatMap_setR _ _ _ hpl]
          refine cast ?_ E2
          congr 6
          simp [entC_int, List.append_assoc]
      obtain ⟨_, h33, s1, s2⟩ := st
      cases s2
      exact ⟨_, s1, Fin.of hfin⟩
  · have hi := insD_new (v := x) K hf
    obtain ⟨a, m, c, rfl⟩ := Row.slice R
    have hm := DRow_int.len R
    subst hm
    have hfl := flatMap_length entC_int_len l
    refine ⟨_, rfl, .inl ⟨a, _, c, E.cell i A.p rfl, fun k15 a15 b15 h16 e16 => ?_⟩⟩
    have E1 := E.made a15 b15 e16
    refine C_slices_Insert_s_draft_entry_int_draft_entry_int.of ?_
    rw [ins_int_eq]
    refine insP_wp TK.slc_ent_int TK.zero_ent_int rfl (by omega) (by omega) TK.sl_ent_int TK.int_ent_int (by decide) E1 (i + 1) (up_app _ A.q) R ?_ L.length (kx := k15) (ys := entC_int (n, x)) (by rw [List.getElem?_append_right (Nat.le_refl _), Nat.sub_self]; rfl) rfl (entC_int_one _) (by omega) p K.le (by rw [hfl]; omega) ?_
    · intro y hy
      obtain ⟨z, _, hz⟩ := List.mem_flatMap.1 hy
      exact entC_int_one z y hz
    · intro a' c' r' h17 R' E2
      rw [List.set_append_left _ _ hil1] at E2
      have E3 := E2.pop
      have hp3 : (L.set (i + 1) r')[i]? = some (some (k, drO_int (.slice a l.length c))) := by rw [List.getElem?_set_ne (by omega)]; exact A.p
      obtain ⟨es, E4⟩ := E3.store i 0 (.slice a' (l.length + 1) c') hp3 rfl
      refine ⟨_, rfl, _, es, Fin.of (hQ (.slice a' (l.length + 1) c') r' _ ?_ ?_)⟩
      · rw [hi]
        unfold DRow_int
        have e1 : (l.flatMap entC_int).take (p * 2) = (l.take p).flatMap entC_int := take_flatMap entC_int_len l p
        have e2 : (l.flatMap entC_int).drop (p * 2) = (l.drop p).flatMap entC_int := by
          have h2 : l.flatMap entC_int = (l.take p).flatMap entC_int ++ (l.drop p).flatMap entC_int := by rw [← List.flatMap_append, List.take_append_drop]
          rw [h2, List.drop_left']
          rw [flatMap_length entC_int_len, List.length_take, Nat.min_eq_left K.le]
        rw [e1, e2] at R'
        rw [List.flatMap_append, List.flatMap_cons, ← List.append_assoc]
        exact R'
      · rw [List.set_comm _ _ (by omega)] at E4
        exact E4
end
end Go.Proofs.Ytgldgabefiialaa.H
namespace Go.Proofs.Ytgldgabefiialaa.H
open Go
set_option linter.unusedVariables false
set_option maxRecDepth 100000
def entC_file_File (x : Int × (Bool × ByteArray)) : List Value := [.int .i64 x.1, .bool x.2.1, .string x.2.2]
theorem entC_file_File_len (x : Int × (Bool × ByteArray)) : (entC_file_File x).length = 3 := rfl
def DRow_file_File (r : Option (Nat × AObj)) (v : Value) (l : List (Int × (Bool × ByteArray))) : Prop := Row r v TY.draft_entry_file_File 3 (l.flatMap entC_file_File)
def drO_file_File (v : Value) : AObj := .vec TY.draft_Draft_file_File (plains [v]) 1
structure DAt_file_File (L : List (Option (Nat × AObj))) (i k : Nat) (v : Value) (r : Option (Nat × AObj)) : Prop where
  p : L[i]? = some (some (k, drO_file_File v))
  q : L[i + 1]? = some r
section
variable {B : RO} {h0 h h' : Heap} {L : List (Option (Nat × AObj))} {r : Option (Nat × AObj)} {i k : Nat} {a : Option Addr} {m c : Nat} {v : Value} {l : List (Int × (Bool × ByteArray))}
theorem DRow_file_File.len (R : DRow_file_File r (.slice a m c) l) : m = l.length := (Row.rd (B := fun _ => none) R entC_file_File_len (by omega)).1
end
end Go.Proofs.Ytgldgabefiialaa.H
namespace Go.Proofs.Ytgldgabefiialaa.H
open Go
set_option linter.unusedVariables false
set_option maxRecDepth 100000
section
variable {P : Program} {B : RO} {h0 h h' : Heap} {L : List (Option (Nat × AObj))} {r : Option (Nat × AObj)} {e : TypeId} {sz : Nat} {xs : List Value} {a : Option Addr} {m c : Nat}
theorem Keep.picks (E : Keep B h0 L h) (is : List Nat) (hn : is.Nodup) : Keep B h0 (is.map fun i => L.getD i none) h := by
  refine E.remap (fun j => is.getD j 0) (fun j y hj => ?_) (fun i j hi hj e => ?_)
  · rw [List.getElem?_map] at hj
    obtain ⟨i, hi, e⟩ := Option.map_eq_some_iff.1 hj
    have : is.getD j 0 = i := by rw [List.getD_eq_getElem?_getD, hi]; rfl
    rw [this]
    rw [List.getD_eq_getElem?_getD] at e
    cases hL : L[i]? with
    | none => rw [hL] at e; cases e
    | some z => rw [hL] at e; exact congrArg some e
  · rw [List.length_map] at hi hj
    rw [List.getD_eq_getElem?_getD, List.getD_eq_getElem?_getD, List.getElem?_eq_getElem hi, List.getElem?_eq_getElem hj] at e
    have e : is[i] = is[j] := e
    have hp := List.pairwise_iff_getElem.1 hn
    rcases Nat.lt_trichotomy i j with h | h | h
    · exact absurd e (hp i j hi hj h)
    · exact h
    · exact absurd e.symm (hp j i hj hi h)
theorem Keep.dropMid {M N : List (Option (Nat × AObj))} (E : Keep B h0 (L ++ (M ++ N)) h) : Keep B h0 (L ++ N) h := by
  refine E.remap (fun i => if i < L.length then i else i + M.length) (fun i z hi => ?_) (fun i j hi hj e => ?_)
  · by_cases h1 : i < L.length
    · rw [List.getElem?_append_left h1] at hi
      rw [if_pos h1, List.getElem?_append_left h1]; exact hi
    · rw [List.getElem?_append_right (by omega)] at hi
      rw [if_neg h1, List.getElem?_append_right (by omega), List.getElem?_append_right (by omega)]
      rw [show i + M.length - L.length - M.length = i - L.length by omega]; exact hi
  · have e : (if i < L.length then i else i + M.length) = (if j < L.length then j else j + M.length) := e
    split at e <;> split at e <;> omega
end
end Go.Proofs.Ytgldgabefiialaa.H
namespace Go.Proofs.Ytgldgabefiialaa.H
open Go Go.RowKit
set_option linter.unusedVariables false
set_option maxRecDepth 100000
abbrev DFL := List (Int × (Bool × ByteArray))
section
variable {B : RO} {h0 h h' : Heap} {L : List (Option (Nat × AObj))} {r : Option (Nat × AObj)} {i k k3 : Nat} {a : Option Addr} {m c : Nat} {v : Value} {l : DFL} {n : Int}
def fdallF (k3 : Nat) : Value := Value.func (.func FN.draft_Draft_file_File_All_1) #[] #[(Value.pointer (some ⟨k3, 0, none⟩))]
def encDF (x : Int × (Bool × ByteArray)) : List Value := [.int .i64 x.1, .agg #[.bool x.2.1, .string x.2.2]]
def fdG (k3 k : Nat) (v : Value) (r : Option (Nat × AObj)) (h : Heap) : Prop :=
  h k3 = some (.vec TY.p_draft_Draft_file_File [.plain (.pointer (some ⟨k, 0, none⟩))] 1) ∧ h k = some (drO_file_File v) ∧ ∀ k o, r = some (k, o) → h k = some o
theorem fdG_ins {k3 kk : Nat} {v : Value} {r : Option (Nat × AObj)} : Ins (fdG k3 kk v r) := by
  rintro h k o hk ⟨g1, g2, g3⟩
  exact ⟨Heap.get_new hk g1, Heap.get_new hk g2, fun k' o' e => Heap.get_new hk (g3 k' o' e)⟩
theorem fdall_wp {p : Option Addr} {Q : Value → Heap → Prop} (hQ : ∀ k, h k = none → B k = none → Q (fdallF k) (h.set k (.vec TY.p_draft_Draft_file_File [.plain (.pointer p)] 1))) : C_draft_Draft_file_File_All B p h Q := by
  refine C_draft_Draft_file_File_All.of ?_
  unfold S_draft_Draft_file_File_All
  intro k a1 b1 h4 e4
  subst e4
  exact Fin.of (hQ k a1 b1)
theorem fdall_iter (R : DRow_file_File r v l) (hlen : l.length ≤ 100000) : Iter PG B (fdallF k3) (l.map encDF) (fdG k3 k v r) := by
  refine ⟨_, _, _, rfl, TG.draft_Draft_file_File_All_1, fun y J X h hy hG h0 hcall => ?_⟩
  have main : C_draft_Draft_file_File_All_1 B y ⟨k3, 0, none⟩ h (fun h' => Fin B h' (fun h'' => J (l.map encDF).length h'' ∨ X h'')) := by
    refine C_draft_Draft_file_File_All_1.of ?_
    unfold S_draft_Draft_file_File_All_1
    obtain ⟨a, m, c, rfl⟩ := Row.slice R
    obtain ⟨rfl, hrd⟩ := Row.rd (B := B) R entC_file_File_len (by omega)
    obtain ⟨g1, g2, g3⟩ := hG 0 h h0
    refine ⟨_, cellH_vec g1 rfl, fun e => (by cases e), fun _ => ⟨_, cellH_vec g1 rfl, _, rfl, .inl ⟨a, _, c, cellH_vec g2 rfl, ?_⟩⟩⟩
    refine ⟨fun i m' h' => ∃ j : Nat, j ≤ l.length ∧ i = j ∧ m' = l.length - j ∧ J j h', l.length, Fin.of ⟨0, by omega, rfl, by omega, h0⟩, ?_⟩
    rintro _ _ h13 ⟨j, hj, rfl, rfl, hJ⟩
    obtain ⟨g1, g2, g3⟩ := hG j h13 hJ
    refine ⟨fun hlt => ?_, fun hge => Fin.of ?_⟩
    · have hj' : j < l.length := by omega
      have hx := List.getElem?_eq_getElem hj'
      generalize l[j] = x at hx
      obtain ⟨A, e, _, q⟩ := hrd h13 g3 j _ hx
      refine ⟨A, e, by omega, hlt, x.1, x.2.1, x.2.2, q, fun k24 a24 b24 h25 e25 => ?_⟩
      obtain ⟨g25, l25, -⟩ := Heap.made a24 e25
      refine ⟨_, stores_whole g25 rfl (by simp) (by simp [isOne]) (by simp), ?_⟩
      generalize e26 : h25.set k24 _ = h26
      obtain ⟨g26, -, -⟩ := Heap.put e26
      refine ⟨_, cellH_vec g26 rfl, _, _, ⟨cellH_vec g26 rfl, cellH_vec g26 rfl, trivial⟩, ?_⟩
      have w : Wk B h13 h26 := by
        rw [← e26, e25, Heap.set_set]; exact Wk.new a24 b24
      have hc := hcall j h13 (encDF x) (by rw [List.getElem?_map, hx]; rfl) hJ
      refine CallV.mono ?_ (hc.weaken w)
      rintro v h27 ⟨h28, t1, h29, t2, hor⟩
      rcases hor with ⟨rfl, hJ'⟩ | ⟨rfl, hX⟩
      · refine ⟨true, rfl, fun _ => ⟨h29, t1.trans t2, l.length - (j + 1), by omega, j + 1, by omega, ?_, rfl, hJ'⟩, fun e => by cases e⟩
        rw [w64 (by omega) (by omega)]; omega
      · exact ⟨false, rfl, fun e => (by cases e), fun _ => ⟨h29, t1.trans t2, Fin.of (.inr hX)⟩⟩
    · have : j = l.length := by omega
      subst this
      refine Fin.of (.inl ?_)
      rw [List.length_map]
      exact hJ
  exact Spec.mono main fun v h' q => q.2
end
end Go.Proofs.Ytgldgabefiialaa.H
namespace Go.Proofs.Ytgldgabefiialaa.H
open Go
set_option linter.unusedVariables false
set_option maxRecDepth 100000
abbrev FileS := Bool × ByteArray
def slotF (x : FileS × Int) : List Value := [.bool x.1.1, .string x.1.2, .int .i64 x.2]
theorem slotF_len (x : FileS × Int) : (slotF x).length = 3 := rfl
theorem slotF_one (x : FileS × Int) : ∀ y ∈ slotF x, isOne y = true := fun y hy => by simp [slotF] at hy; rcases hy with rfl | rfl | rfl <;> rfl
theorem TK.slc_fslot : slcB PG TY.s_cell_slot_file_File = some (TY.cell_slot_file_File, 3, 32) := by kernel_rfl
theorem TK.zero_fslot : zeroB PG TY.cell_slot_file_File = some [.bool false, .string ByteArray.empty, .int .i64 0] := by kernel_rfl
theorem TK.sl_fslot : slT PG TY.s_cell_slot_file_File = true := by kernel_rfl
def FRow (r : Option (Nat × AObj)) (v : Value) (l : List (FileS × Int)) : Prop := Row r v TY.cell_slot_file_File 3 (l.flatMap slotF)
def frO (v : Value) : AObj := .vec TY.cell_Row_file_File (plains [v]) 1
def tomO (kR : Nat) : AObj := .vec TY.tome_Tome (plains [.pointer (some ⟨kR, 0, none⟩)]) 1
def fileAt (l : List (FileS × Int)) (i : Int) : FileS × Int := if 0 ≤ i then (l[i.toNat]?).getD ((false, ByteArray.empty), 0) else ((false, ByteArray.empty), 0)
theorem fileAt_in {l : List (FileS × Int)} {i : Int} (h0 : 0 ≤ i) (h1 : i.toNat < l.length) : fileAt l i = l[i.toNat] := by
  rw [fileAt, if_pos h0, List.getElem?_eq_getElem h1]; rfl
theorem fileAt_out {l : List (FileS × Int)} {i : Int} (hn : ¬ (0 ≤ i ∧ i < (l.length : Int))) : fileAt l i = ((false, ByteArray.empty), 0) := by
  unfold fileAt
  split
  · rw [List.getElem?_eq_none (by omega)]; rfl
  · rfl
section
variable {B : RO} {h0 h h' : Heap} {L : List (Option (Nat × AObj))} {r : Option (Nat × AObj)} {i kT kR : Nat} {v : Value} {l : List (FileS × Int)}
theorem fnew_wp {n : Int} {b : Bool} {s : ByteArray} {Q : Option Addr → Heap → Prop} (hn : n ≤ 1000)
    (hQ : ∀ k v r h', FRow r v (List.replicate n.toNat ((b, s), 0)) → Keep B h [some (k, frO v), r] h' → Q (some ⟨k, 0, none⟩) h') : C_cell_New_file_File B n b s h Q := by
  refine C_cell_New_file_File.of ?_
  unfold S_cell_New_file_File
  intro k5 a5 b5 h6 e6 k7 a7 b7 h8 e8
  have E := ((Keep.nil B h).made a5 b5 e6).made a7 b7 e8
  refine ⟨fun i m h' => ∃ (j : Nat) (v : Value) (r : Option (Nat × AObj)), (j : Int) ≤ max n 0 ∧ i = j ∧ m = n.toNat - j ∧ FRow r v (List.replicate j ((b, s), 0)) ∧ Keep B h [some (k5, .vec TY.file_File (plains [.bool b, .string s]) 2), some (k7, frO v), r] h', n.toNat, Fin.of ⟨0, _, none, by omega, rfl, by omega, Row.nil _ _, E.gap⟩, ?_⟩
  clear E e8 e6
  rintro _ _ h10 ⟨j, v, r, hj, rfl, rfl, R, E⟩
  refine ⟨fun hlt => ?_, fun hge => Fin.of ?_⟩
  · obtain ⟨a20, n21, c22, rfl⟩ := Row.slice R
    have hfl := flatMap_length slotF_len (List.replicate j ((b, s), (0 : Int)))
    rw [List.length_replicate] at hfl
    refine ⟨a20, n21, c22, E.cell 1 rfl rfl, _, _, ⟨E.cell 0 rfl rfl, E.cell 0 rfl rfl, trivial⟩, fun k28 a28 b28 h29 e29 => ?_⟩
    have E1 := E.made a28 b28 e29
    refine ⟨E1.cell 1 rfl rfl, ⟨E1.cell 0 rfl rfl, E1.cell 0 rfl rfl, trivial⟩, ?_⟩
    refine E.push1 2 rfl R TK.slc_fslot TK.zero_fslot rfl (by omega) (by omega) TK.sl_fslot rfl (by simp [isOne]) (by rw [hfl]; simp; omega) a28 b28 e29 fun a' m' c' r' h' R' E' => ?_
    obtain ⟨es, E2⟩ := E'.store 1 0 (.slice a' m' c') rfl rfl
    refine ⟨a', m', c', rfl, E'.cell 1 rfl rfl, ⟨E'.cell 0 rfl rfl, E'.cell 0 rfl rfl, trivial⟩, _, es, Fin.of ⟨n.toNat - (j + 1), by omega, j + 1, _, r', by omega, ?_, rfl, ?_, E2⟩⟩
    · rw [w64 (by omega) (by omega)]; omega
    · unfold FRow
      rw [List.replicate_succ', List.flatMap_append]
      exact R'
  · have : j = n.toNat := by omega
    subst this
    exact hQ _ _ _ _ R (E.sub2 1 2 rfl rfl)
structure FAt (L : List (Option (Nat × AObj))) (i : Nat) (kR : Nat) (v : Value) (r : Option (Nat × AObj)) : Prop where
  p : L[i]? = some (some (kR, frO v))
  q : L[i + 1]? = some r
theorem fis_wp {n : Int} {Q : Bool → Heap → Prop} (E : Keep B h0 L h) (A : FAt L i kR v r) (R : FRow r v l) (hQ : Q (decide (0 ≤ n ∧ n < (l.length : Int))) h) : C_cell_Row_file_File_is B (some ⟨kR, 0, none⟩) n h Q := by
  refine C_cell_Row_file_File_is.of ?_
  unfold S_cell_Row_file_File_is
  obtain ⟨a, m, c, rfl⟩ := Row.slice R
  obtain ⟨rfl, -⟩ := Row.rd (B := B) R slotF_len (by omega)
  refine ⟨fun e => (by cases e), fun _ => ⟨fun h1 => ⟨_, rfl, .inl ⟨a, _, c, E.cell i A.p rfl, Fin.of ?_⟩⟩, fun h1 => Fin.of ?_⟩⟩
  · have : decide (n < (l.length : Int)) = decide (0 ≤ n ∧ n < (l.length : Int)) := by rw [decide_eq_decide]; exact ⟨fun x => ⟨by omega, x⟩, fun x => x.2⟩
    rw [this]; exact hQ
  · rw [decide_eq_false (by omega)] at hQ; exact hQ
theorem fset_wp {n ver : Int} {b : Bool} {s : ByteArray} {Q : Bool → Heap → Prop} (E : Keep B h0 L h) (A : FAt L i kR v r) (R : FRow r v l)
    (hF : ¬ (0 ≤ n ∧ n < (l.length : Int)) → ∀ h', Keep B h0 L h' → Q false h') (hT : 0 ≤ n → n.toNat < l.length → ∀ r' h', FRow r' v (l.set n.toNat ((b, s), ver)) → Keep B h0 (L.set (i + 1) r') h' → Q true h') : C_cell_Row_file_File_Set B (some ⟨kR, 0, none⟩) n b s ver h Q := by
  refine C_cell_Row_file_File_Set.of ?_
  unfold S_cell_Row_file_File_Set
  intro k7 a7 b7 h8 e8
  have E1 := E.made a7 b7 e8
  let o7 : AObj := .vec TY.file_File (plains [.bool b, .string s]) 2
  have A1 : FAt (L ++ [some (k7, o7)]) i kR v r := ⟨up_app _ A.p, up_app _ A.q⟩
  have E1 : Keep B h0 (L ++ [some (k7, o7)]) h8 := E1
  refine fis_wp E1 A1 R ⟨fun hD => ?_, fun hD => Fin.of (hF (by simpa using hD) _ E1.pop)⟩
  rw [decide_eq_true_eq] at hD
  obtain ⟨a, m, c, rfl⟩ := Row.slice R
  obtain ⟨rfl, -⟩ := Row.rd (B := B) R slotF_len (by omega)
  obtain ⟨A18, h20, r', e1, st, R', E2⟩ := E1.rowSet (i + 1) A1.q R slotF_len (by omega) n.toNat (by omega) ((b, s), ver) (slotF_one _)
  have g := E1.last
  refine ⟨_, rfl, a, _, c, E1.cell i A1.p rfl, _, _, ⟨cellH_vec g rfl, cellH_vec g rfl, trivial⟩, A18, e1, hD.1, hD.2, h20, st, Fin.of (hT hD.1 (by omega) r' h20 R' ?_)⟩
  rw [List.set_append_left _ _ (List.getElem?_eq_some_iff.1 A.q).1] at E2
  exact E2.pop
theorem fget_wp {n : Int} {Q : Bool → ByteArray → Int → Heap → Prop} (E : Keep B h0 L h) (A : FAt L i kR v r) (R : FRow r v l)
    (hQ : ∀ h', Keep B h0 L h' → Q (fileAt l n).1.1 (fileAt l n).1.2 (fileAt l n).2 h') : C_cell_Row_file_File_Get B (some ⟨kR, 0, none⟩) n h Q := by
  refine C_cell_Row_file_File_Get.of ?_
  unfold S_cell_Row_file_File_Get
  intro k6 a6 b6 h7 e7
  have E1 := E.made a6 b6 e7
  have g := E1.last
  have A1 : FAt (L ++ [some (k6, AObj.vec TY.file_File (plains [.bool false, .string ByteArray.empty]) 2)]) i kR v r := ⟨up_app _ A.p, up_app _ A.q⟩
  refine fis_wp E1 A1 R ⟨fun hD => ?_, fun hD => ?_⟩
  · rw [decide_eq_true_eq] at hD
    obtain ⟨a, m, c, rfl⟩ := Row.slice R
    obtain ⟨rfl, hrd⟩ := Row.rd (B := B) R slotF_len (by omega)
    have hi : n.toNat < l.length := by omega
    obtain ⟨A27, e1, _, q1, q2, q3, _⟩ := hrd h7 (fun k o e => E1.at (i + 1) (by rw [A1.q, e])) n.toNat _ (List.getElem?_eq_getElem hi)
    have hf := hQ
    rw [fileAt_in hD.1 hi] at hf
    have q3' : cellH B h7 (Addr.add (Addr.add A27 (n.toNat * 3)) 2) = some (.int .i64 l[n.toNat].2) := q3
    refine ⟨_, rfl, a, _, c, E1.cell i A1.p rfl, A27, e1, hD.1, hD.2, _, _, ⟨q1, q2, trivial⟩, _, rfl, a, _, c, E1.cell i A1.p rfl, A27, e1, hD.1, hD.2, _, q3', ?_⟩
    refine ⟨_, stores_whole g rfl (by simp) (by simp [isOne]) (by simp), ?_⟩
    have E2 := E1.putLast (.vec TY.file_File (plains [.bool l[n.toNat].1.1, .string l[n.toNat].1.2]) 2)
    have A2 : FAt (L ++ [some (k6, AObj.vec TY.file_File (plains [.bool l[n.toNat].1.1, .string l[n.toNat].1.2]) 2)]) i kR (.slice a l.length c) r := ⟨up_app _ A.p, up_app _ A.q⟩
    obtain ⟨A', e1', _, t1, t2, t3, _⟩ := hrd _ (fun k o e => E2.at (i + 1) (by rw [A2.q, e])) n.toNat _ (List.getElem?_eq_getElem hi)
    rw [e1] at e1'
    cases e1'
    refine ⟨E2.cell i A2.p rfl, ⟨t1, t2, trivial⟩, E2.cell i A2.p rfl, t3, _, _, ⟨cellH_vec E2.last rfl, cellH_vec E2.last rfl, trivial⟩, Fin.of (hf _ E2.pop)⟩
  · rw [decide_eq_false_iff_not] at hD
    rw [fileAt_out hD] at hQ
    intro k10 a10 b10 h11 e11
    have E2 := E1.made a10 b10 e11
    have g2 := E2.last
    refine ⟨_, _, ⟨cellH_vec g2 rfl, cellH_vec g2 rfl, trivial⟩, ?_⟩
    have g6 : h11 k6 = some (.vec TY.file_File (plains [.bool false, .string ByteArray.empty]) 2) := E2.at L.length (by rw [List.append_assoc, List.getElem?_append_right (Nat.le_refl _), Nat.sub_self]; rfl)
    refine ⟨_, stores_whole g6 rfl (by simp) (by simp [isOne]) (by simp), ?_⟩
    have E3 : Keep B h0 L (h11.set k6 (.vec TY.file_File (plains [.bool false, .string ByteArray.empty]) 2)) := by
      rw [Heap.set_self _ _ _ g6]
      exact E2.pop.pop
    exact ⟨_, _, ⟨cellH_vec (Heap.set_same _ _ _) rfl, cellH_vec (Heap.set_same _ _ _) rfl, trivial⟩, Fin.of (hQ _ E3)⟩
structure TomeAt (L : List (Option (Nat × AObj))) (i kT kR : Nat) (v : Value) (r : Option (Nat × AObj)) : Prop where
  p : L[i]? = some (some (kT, tomO kR))
  f : FAt L (i + 1) kR v r
def tomE (kT kR : Nat) (v : Value) (r : Option (Nat × AObj)) : List (Option (Nat × AObj)) := [some (kT, tomO kR), some (kR, frO v), r]
def goodF (b : Bool) (s : ByteArray) : Bool := decide (s.size ≤ 32) && (b || decide (s = ByteArray.mk #[]))
theorem goodF_wp {b : Bool} {s : ByteArray} {Q : Bool → Heap → Prop} (hQ : ∀ h', Wk B h h' → Q (goodF b s) h') : C_file_Good B b s h Q := by
  refine C_file_Good.of ?_
  unfold S_file_Good
  intro k4 a4 b4 h5 e5
  have w : Wk B h h5 := by rw [e5]; exact Wk.new a4 b4
  have g : h5 k4 = some (.vec TY.file_File (plains [.bool b, .string s]) 2) := by rw [e5]; exact Heap.set_same _ _ _
  have hq := hQ h5 w
  unfold goodF at hq
  refine ⟨_, cellH_vec g rfl, fun h1 => ⟨_, cellH_vec g rfl, fun hb => Fin.of ?_, fun hb => ⟨_, cellH_vec g rfl, Fin.of ?_⟩⟩, fun h1 => Fin.of ?_⟩
  · subst hb
    rw [decide_eq_true (by omega)] at hq; exact hq
  · subst hb
    rw [decide_eq_true (by omega)] at hq; exact hq
  · rw [decide_eq_false (by omega)] at hq; exact hq
def setB (l : List (FileS × Int)) (n : Int) (b : Bool) (s : ByteArray) : Bool := goodF b s && decide (0 ≤ n ∧ n < (l.length : Int))
def setF (l : List (FileS × Int)) (n : Int) (b : Bool) (s : ByteArray) (ver : Int) : List (FileS × Int) := if setB l n b s = true then l.set n.toNat ((b, s), ver) else l
theorem setF_len (l : List (FileS × Int)) (n : Int) (b : Bool) (s : ByteArray) (ver : Int) : (setF l n b s ver).length = l.length := by unfold setF; split <;> simp
theorem tset_wp {n ver : Int} {b : Bool} {s : ByteArray} {Q : Bool → Heap → Prop} (E : Keep B h0 L h) (A : TomeAt L i kT kR v r) (R : FRow r v l)
    (hQ : ∀ r' h', FRow r' v (setF l n b s ver) → Keep B h0 (L.set (i + 2) r') h' → Q (setB l n b s) h') : C_tome_Tome_Set B (some ⟨kT, 0, none⟩) n b s ver h Q := by
  refine C_tome_Tome_Set.of ?_
  unfold S_tome_Tome_Set
  intro k7 a7 b7 h8 e8
  have E1 := E.made a7 b7 e8
  have g7 := E1.last
  have no : setB l n b s = false → ∀ h', Keep B h0 L h' → Q false h' := fun hn h' E' => by
    have h1 : setF l n b s ver = l := by rw [setF, hn]; rfl
    have h2 : L.set (i + 2) r = L := by
      obtain ⟨hl, rfl⟩ := List.getElem?_eq_some_iff.1 A.f.q
      exact List.set_getElem_self hl
    have := hQ r h' (by rw [h1]; exact R) (by rw [h2]; exact E')
    rw [hn] at this; exact this
  refine ⟨fun e => (by cases e), fun _ => ⟨_, _, ⟨cellH_vec g7 rfl, cellH_vec g7 rfl, trivial⟩, goodF_wp fun h18 w => ?_⟩⟩
  have E2 := E1.wk w
  have g := E2.last
  refine ⟨fun hg => ?_, fun hg => ?_⟩
  · have A2 : FAt (L ++ [some (k7, AObj.vec TY.file_File (plains [.bool b, .string s]) 2)]) (i + 1) kR v r := ⟨up_app _ A.f.p, up_app _ A.f.q⟩
    have hset : C_cell_Row_file_File_Set B (some ⟨kR, 0, none⟩) n b s ver h18 (fun b28 h27 => CellsAt B h27 ⟨k7, 0, none⟩ 0 [.bool b, .string s] ∧ Fin B h27 (Q b28)) := by
      refine fset_wp E2 A2 R (fun hn h' E' => ⟨⟨cellH_vec E'.last rfl, cellH_vec E'.last rfl, trivial⟩, Fin.of (no ?_ h' E'.pop)⟩) fun h1 h2 r' h' R' E' => ?_
      · rw [setB, decide_eq_false hn, Bool.and_false]
      · rw [List.set_append_left _ _ (List.getElem?_eq_some_iff.1 A.f.q).1] at E'
        have hb : setB l n b s = true := by rw [setB, hg, decide_eq_true ⟨h1, by omega⟩]; rfl
        have := hQ r' h' (by rw [setF, if_pos hb]; exact R') E'.pop
        rw [hb] at this
        exact ⟨⟨cellH_vec E'.last rfl, cellH_vec E'.last rfl, trivial⟩, Fin.of this⟩
    refine ⟨⟨cellH_vec g rfl, cellH_vec g rfl, trivial⟩, _, rfl, ⟨_, E2.cell i (up_app _ A.p) rfl, _, _, ⟨cellH_vec g rfl, cellH_vec g rfl, trivial⟩, hset⟩, ⟨_, _, ⟨cellH_vec g rfl, cellH_vec g rfl, trivial⟩, _, E2.cell i (up_app _ A.p) rfl, hset⟩⟩
  · have hn : setB l n b s = false := by rw [setB, hg]; rfl
    exact ⟨⟨cellH_vec g rfl, cellH_vec g rfl, trivial⟩, Fin.of (no hn _ E2.pop), Fin.of (no hn _ E2.pop)⟩
theorem tget_wp {n : Int} {Q : Bool → ByteArray → Int → Heap → Prop} (E : Keep B h0 L h) (A : TomeAt L i kT kR v r) (R : FRow r v l)
    (hQ : ∀ h', Keep B h0 L h' → Q (fileAt l n).1.1 (fileAt l n).1.2 (fileAt l n).2 h') : C_tome_Tome_Get B (some ⟨kT, 0, none⟩) n h Q := by
  refine C_tome_Tome_Get.of ?_
  unfold S_tome_Tome_Get
  intro k6 a6 b6 h7 e7
  have E1 := E.made a6 b6 e7
  refine ⟨fun e => (by cases e), fun _ => ⟨_, rfl, _, E1.cell i (up_app _ A.p) rfl, ?_⟩⟩
  refine fget_wp E1 ⟨up_app _ A.f.p, up_app _ A.f.q⟩ R fun h15 E2 => ?_
  refine ⟨_, stores_whole E2.last rfl (by simp) (by simp [isOne]) (by simp), ?_⟩
  have E3 := E2.putLast (.vec TY.file_File (plains [.bool (fileAt l n).1.1, .string (fileAt l n).1.2]) 2)
  exact ⟨_, _, ⟨cellH_vec E3.last rfl, cellH_vec E3.last rfl, trivial⟩, Fin.of (hQ _ E3.pop)⟩
theorem tnew_wp {Q : Option Addr → Heap → Prop} (hQ : ∀ kT kR v r h', FRow r v (List.replicate 6 ((false, ByteArray.empty), 0)) → Keep B h (tomE kT kR v r) h' → Q (some ⟨kT, 0, none⟩) h') : C_tome_New B h Q := by
  refine C_tome_New.of ?_
  unfold S_tome_New
  refine fnew_wp (by decide) fun kR v r h2 R E => ?_
  intro k4 a4 b4 h5 e5
  have E1 := E.made a4 b4 e5
  exact Fin.of (hQ k4 kR v r h5 R (E1.sub3 2 0 1 rfl rfl rfl))
end
end Go.Proofs.Ytgldgabefiialaa.H
namespace Go.Proofs.Ytgldgabefiialaa.H
open Go
set_option linter.unusedVariables false
set_option maxRecDepth 100000
theorem TK.str : isStr PG TY.string = true := by kernel_rfl
section
variable {B : RO} {h : Heap}
end
end Go.Proofs.Ytgldgabefiialaa.H
namespace Go.Proofs.Ytgldgabefiialaa.H
open Go
set_option linter.unusedVariables false
set_option maxRecDepth 100000
theorem NilOK.one {y : Value} (h : NilOK y) : isOne y = true := by
  rcases h with ⟨g, a, b, rfl⟩ | ⟨l, a, b, rfl⟩ <;> rfl
section
variable {B : RO} {h0 h h' : Heap} {L : List (Option (Nat × AObj))} {r : Option (Nat × AObj)} {i kT kR k3 m c : Nat} {a : Option Addr} {v : Value} {l : List (FileS × Int)}
end
end Go.Proofs.Ytgldgabefiialaa.H
namespace Go.Proofs.Ytgldgabefiialaa.H
open Go
set_option linter.unusedVariables false
set_option maxRecDepth 100000
structure TomeOk (l : List (FileS × Int)) : Prop where
  n6 : l.length = 6
  good : ∀ x ∈ l, goodF x.1.1 x.1.2 = true
theorem TomeOk.size {l : List (FileS × Int)} (k : TomeOk l) : ∀ x ∈ l, x.1.2.size ≤ 32 := fun x hx => by
  have := k.good x hx
  unfold goodF at this
  simp only [Bool.and_eq_true, decide_eq_true_eq] at this
  exact this.1
theorem TomeOk.zero : TomeOk (List.replicate 6 ((false, ByteArray.empty), 0)) := ⟨rfl, fun x hx => by
  rw [List.mem_replicate] at hx
  rw [hx.2]; decide⟩
theorem TomeOk.set {l : List (FileS × Int)} (k : TomeOk l) (n : Int) (b : Bool) (s : ByteArray) (ver : Int) : TomeOk (setF l n b s ver) := by
  refine ⟨by rw [setF_len]; exact k.n6, fun x hx => ?_⟩
  unfold setF at hx
  split at hx
  · rename_i h
    unfold setB at h
    rw [Bool.and_eq_true] at h
    rcases List.mem_or_eq_of_mem_set hx with h1 | h1
    · exact k.good x h1
    · rw [h1]; exact h.1
  · exact k.good x hx
section
variable {B : RO} {h0 h h' : Heap} {L : List (Option (Nat × AObj))} {r : Option (Nat × AObj)} {i kT kR : Nat} {v : Value} {l : List (FileS × Int)}
end
end Go.Proofs.Ytgldgabefiialaa.H
namespace Go.Proofs.Ytgldgabefiialaa.H
open Go Go.RowKit
set_option linter.unusedVariables false
set_option maxRecDepth 100000
structure FSetR where
  i : Int
  b : Bool
  s : ByteArray
  v : Int
def FSetR.cells (x : FSetR) : List Value := [.int .i64 x.i, .bool x.b, .string x.s, .int .i64 x.v]
abbrev FL := List (FileS × Int)
def apF (l : FL) (x : FSetR) : FL := setF l x.i x.b x.s x.v
theorem TomeOk.foldl {l : FL} (k : TomeOk l) (sets : List FSetR) : TomeOk (sets.foldl apF l) := by
  induction sets generalizing l with
  | nil => exact k
  | cons x t ih => exact ih (k.set x.i x.b x.s x.v)
section
variable {B : RO} {h0 h h' : Heap} {a : Option Addr} {c : Nat} {list : List FSetR} {Q : Bool → Heap → Prop} {kA kA' kB kB' : Nat} {va vb : Value} {ra rb : Option (Nat × AObj)}
end
end Go.Proofs.Ytgldgabefiialaa.H
namespace Go.Proofs.Ytgldgabefiialaa.H
open Go
set_option linter.unusedVariables false
set_option maxRecDepth 100000
section
variable {B : RO} {h : Heap}
structure Item where
  kind : Int
  n : Int
  s : ByteArray
def Item.cells (x : Item) : List Value := [.int .i64 x.kind, .int .i64 x.n, .string x.s]
def Item.ok (x : Item) : Prop := -9223372036854775808 ≤ x.n ∧ x.n ≤ 9223372036854775807
def Item.bytes (x : Item) : List UInt8 :=
  if x.kind = 0 then natI x.n else if x.kind = 1 then natB (zig x.n) else if x.kind = 2 then bl x.s else if x.kind = 3 then natB x.s.size ++ bl x.s else []
end
end Go.Proofs.Ytgldgabefiialaa.H
namespace Go.Proofs.Ytgldgabefiialaa.H
open Go Go.RowKit
set_option linter.unusedVariables false
set_option maxRecDepth 100000
section
variable {B : RO} {h0 h h' : Heap} {L M : List (Option (Nat × AObj))} {j k n : Nat} {o o' : AObj}
theorem upM (j : Nat) {x : Option (Nat × AObj)} (hj : M[j]? = some x) : (L ++ M)[L.length + j]? = some x := by
  rw [List.getElem?_append_right (by omega), show L.length + j - L.length = j by omega]; exact hj
theorem Keep.gM (E : Keep B h0 (L ++ M) h) (j : Nat) (hj : M[j]? = some (some (k, o))) : h k = some o := E.at (L.length + j) (upM j hj)
theorem Keep.cM (E : Keep B h0 (L ++ M) h) (j : Nat) {i n : Nat} {t : TypeId} {fs : List Fld} {v : Value} (hj : M[j]? = some (some (k, .vec t fs n))) (hi : fs[i]? = some (.plain v)) : cellH B h ⟨k, i, none⟩ = some v := cellH_vec (E.gM j hj) hi
theorem Keep.start (E : Keep B h0 L h) : Keep B h0 (L ++ []) h := by rw [List.append_nil]; exact E
theorem Keep.nM (E : Keep B h0 (L ++ M) h) (hk : h k = none) (hb : B k = none) (e : h' = h.set k o) : Keep B h0 (L ++ (M ++ [some (k, o)])) h' := by
  rw [← List.append_assoc]; exact E.made hk hb e
theorem Keep.pM (E : Keep B h0 (L ++ M) h) (j : Nat) (hj : M[j]? = some (some (k, o))) : Keep B h0 (L ++ M.set j (some (k, o'))) (h.set k o') := by
  have := E.put (o' := o') (L.length + j) (upM j hj)
  rwa [List.set_append_right _ _ (by omega), show L.length + j - L.length = j by omega] at this
theorem setM (j : Nat) (x : Option (Nat × AObj)) : (L ++ M).set (L.length + j) x = L ++ M.set j x := by
  rw [List.set_append_right _ _ (by omega), show L.length + j - L.length = j by omega]
theorem Keep.tM (E : Keep B h0 (L ++ M) h) (n : Nat) : Keep B h0 (L ++ M.take n) h := by
  have := E.take (L.length + n)
  rwa [List.take_length_add_append] at this
theorem Keep.zM (E : Keep B h0 (L ++ M) h) : Keep B h0 L h := E.popL
theorem Keep.vM (E : Keep B h0 (L ++ M) h) (j : Nat) {k nn : Nat} {t : TypeId} {fs gs : List Value} (hj : M[j]? = some (some (k, .vec t (plains (fs ++ gs)) nn))) (ys : List Value) (ho : ∀ y ∈ ys, isOne y = true) (o : Nat) (hf : fs.length = o) (hn : o + ys.length ≤ nn) :
    ∃ h', StoresAt ⟨k, o, none⟩ h 0 ys h' ∧ Keep B h0 (L ++ M.set j (some (k, .vec t (plains (fs ++ ys ++ gs.drop ys.length)) nn))) h' := by
  obtain ⟨h', s1, E1⟩ := E.storesV (L.length + j) (upM j hj) ys ho o hf hn
  rw [setM] at E1
  exact ⟨h', s1, E1⟩
theorem Keep.sM (E : Keep B h0 (L ++ M) h) (is : List Nat) (hn : is.Nodup) : Keep B h0 (L ++ is.map fun i => M.getD i none) h := by
  refine E.remap (fun i => if i < L.length then i else L.length + is.getD (i - L.length) 0) (fun i y hy => ?_) (fun i j hi hj e => ?_)
  · by_cases h1 : i < L.length
    · simp only [if_pos h1]
      rw [List.getElem?_append_left h1] at hy
      rw [List.getElem?_append_left h1]; exact hy
    · simp only [if_neg h1]
      rw [List.getElem?_append_right (by omega), List.getElem?_map] at hy
      cases hq : is[i - L.length]? with
      | none => rw [hq] at hy; cases hy
      | some q =>
        rw [hq] at hy
        simp only [Option.map_some, Option.some.injEq] at hy
        rw [List.getD_eq_getElem?_getD] at hy ⊢
        rw [hq]
        simp only [Option.getD_some]
        cases hm : M[q]? with
        | none => rw [hm] at hy; cases hy
        | some z => rw [hm] at hy; simp only [Option.getD_some] at hy; subst hy; exact upM q hm
  · rw [List.length_append, List.length_map] at hi hj
    have e : (if i < L.length then i else L.length + is.getD (i - L.length) 0) = (if j < L.length then j else L.length + is.getD (j - L.length) 0) := e
    split at e <;> split at e
    · exact e
    · omega
    · omega
    · rename_i h1 h2
      rw [List.getD_eq_getElem?_getD, List.getD_eq_getElem?_getD, List.getElem?_eq_getElem (by omega), List.getElem?_eq_getElem (by omega)] at e
      simp only [Option.getD_some] at e
      have e2 : is[i - L.length]'(by omega) = is[j - L.length]'(by omega) := by omega
      have hp := List.pairwise_iff_getElem.1 hn
      rcases Nat.lt_trichotomy (i - L.length) (j - L.length) with h | h | h
      · exact absurd e2 (hp _ _ (by omega) (by omega) h)
      · omega
      · exact absurd e2.symm (hp _ _ (by omega) (by omega) h)
end
end Go.Proofs.Ytgldgabefiialaa.H
namespace Go.Proofs.Ytgldgabefiialaa.H
open Go Go.RowKit
set_option linter.unusedVariables false
set_option maxRecDepth 100000
def shtO (kf : Nat) : AObj := .vec TY.sheet_Sheet (plains [.pointer (some ⟨kf, 0, none⟩)]) 1
def fO (f : FileS) : AObj := .vec TY.file_File (plains [.bool f.1, .string f.2]) 2
structure ShI where
  kT : Nat
  kR : Nat
  vt : Value
  rt : Option (Nat × AObj)
  ks : Nat
  kf : Nat
def ShI.m (x : ShI) (vd : Value) (rd : Option (Nat × AObj)) : List (Option (Nat × AObj)) := [some (x.kT, tomO x.kR), some (x.kR, frO x.vt), x.rt, some (x.ks, shtO x.kf), some (x.kf, drO_file_File vd), rd]
def getS (l : FL) (d : DFL) (n : Int) : FileS × Bool := match atD d n with
  | some f => (f, true)
  | none => ((fileAt l n).1, false)
theorem getS_some {l : FL} {d : DFL} {n : Int} {f : FileS} (h : atD d n = some f) : getS l d n = (f, true) := by rw [getS, h]
theorem getS_none {l : FL} {d : DFL} {n : Int} (h : atD d n = none) : getS l d n = ((fileAt l n).1, false) := by rw [getS, h]
def putS (l : FL) (d : DFL) (n : Int) (f : FileS) : DFL := if (getS l d n).1 = f then d else insD d n f
section
variable {B : RO} {h0 h h' : Heap} {L : List (Option (Nat × AObj))} {r rd : Option (Nat × AObj)} {i k : Nat} {a : Option Addr} {m c : Nat} {v vd : Value} {l : FL} {d : DFL} {n : Int} {x : ShI} {f : FileS}
end
end Go.Proofs.Ytgldgabefiialaa.H
namespace Go.Proofs.Ytgldgabefiialaa.H
open Go Go.RowKit
set_option linter.unusedVariables false
set_option maxRecDepth 100000
def padT (n : Nat) (l : List UInt8) : List UInt8 := l ++ List.replicate (n - l.length) 0
theorem padT_len (n : Nat) (l : List UInt8) : (padT n l).length = max l.length n := by simp [padT]; omega
def putT (l : List UInt8) (k : Nat) (c : UInt8) : List UInt8 := (padT (k + 1) l).set k c
def putF (f : FileS) (at' : Int) (c : UInt8) : FileS := if 0 ≤ at' ∧ at' < 32 then (true, ba (putT (bl f.2) at'.toNat c)) else f
def cutT (l : List UInt8) (n : Nat) : List UInt8 := (padT n l).take n
def cutF (f : FileS) (n : Int) : FileS := if f.1 = true ∧ 0 ≤ n ∧ n ≤ 32 then (true, ba (cutT (bl f.2) n.toNat)) else f
theorem cutT_len (l : List UInt8) (n : Nat) : (cutT l n).length = n := by unfold cutT; rw [List.length_take, padT_len]; omega
theorem putT_len (l : List UInt8) (k : Nat) (c : UInt8) : (putT l k c).length = max l.length (k + 1) := by unfold putT; rw [List.length_set, padT_len]
section
variable {B : RO} {h h0 : Heap} {L : List (Option (Nat × AObj))} {b : Bool} {s : ByteArray}
end
end Go.Proofs.Ytgldgabefiialaa.H
namespace Go.Proofs.Ytgldgabefiialaa.H
open Go
set_option linter.unusedVariables false
noncomputable def wordOf (l : List UInt8) : Option (Nat × List UInt8) :=
  open Classical in if h : ∃ p : Nat × List UInt8, l = natB p.1 ++ p.2 ∧ p.1 < 18446744073709551616 then some (Classical.choose h) else none
theorem wordOf_none {l : List UInt8} (h : ∀ n r, l = natB n ++ r → ¬ n < 18446744073709551616) : wordOf l = none := by
  unfold wordOf
  rw [dif_neg]
  rintro ⟨p, h1, h2⟩
  exact h _ _ h1 h2
theorem natB_cons_lo {m : Nat} {b : UInt8} {r t : List UInt8} (hb : b.toNat < 128) : b :: t = natB m ++ r ↔ m = b.toNat ∧ t = r := by
  by_cases hm : m < 128
  · rw [natB_lo hm]
    simp only [List.cons_append, List.nil_append, List.cons.injEq]
    constructor
    · rintro ⟨h1, h2⟩
      refine ⟨?_, h2⟩
      rw [h1, UInt8.toNat_ofNat']; omega
    · rintro ⟨h1, h2⟩
      refine ⟨?_, h2⟩
      rw [h1]; simp
  · rw [natB_hi hm]
    constructor
    · intro h
      simp only [List.cons_append, List.cons.injEq] at h
      rw [h.1, UInt8.toNat_ofNat'] at hb
      omega
    · intro h; omega
def Half (l : List UInt8) (k acc : Nat) (rest : List UInt8) : Prop :=
  acc < 2 ^ (7 * k) ∧ rest.length + k = l.length ∧ ∀ n r, l = natB n ++ r ↔ rest = natB (n / 2 ^ (7 * k)) ++ r ∧ n % 2 ^ (7 * k) = acc ∧ (0 < k → 2 ^ (7 * k) ≤ n)
theorem Half.zero (l : List UInt8) : Half l 0 0 l := ⟨by simp, rfl, fun n r => by simp [Nat.mod_one]⟩
theorem Half.done {l t : List UInt8} {k acc : Nat} {b : UInt8} (h : Half l k acc (b :: t)) (hb : b.toNat < 128) (h0 : 0 < k → b.toNat ≠ 0) : l = natB (acc + b.toNat * 2 ^ (7 * k)) ++ t := by
  obtain ⟨h1, h2, h3⟩ := h
  have hpos : 0 < 2 ^ (7 * k) := Nat.two_pow_pos _
  refine (h3 _ _).2 ⟨(natB_cons_lo hb).2 ⟨?_, rfl⟩, ?_, fun hk => ?_⟩
  · rw [Nat.add_mul_div_right _ _ hpos, Nat.div_eq_of_lt h1, Nat.zero_add]
  · rw [Nat.add_mul_mod_self_right, Nat.mod_eq_of_lt h1]
  · have := h0 hk
    have : 1 * 2 ^ (7 * k) ≤ b.toNat * 2 ^ (7 * k) := Nat.mul_le_mul_right _ (by omega)
    omega
theorem Half.empty {l : List UInt8} {k acc : Nat} (h : Half l k acc []) : wordOf l = none := by
  refine wordOf_none fun n r e => ?_
  have := ((h.2.2 n r).1 e).1
  have h2 := natB_pos (n / 2 ^ (7 * k))
  have h3 := congrArg List.length this
  simp only [List.length_nil, List.length_append] at h3
  omega
end Go.Proofs.Ytgldgabefiialaa.H
namespace Go.Proofs.Ytgldgabefiialaa.H
open Go Go.RowKit
set_option linter.unusedVariables false
set_option maxRecDepth 100000
def inR (n : Int) : Bool := decide (0 ≤ n ∧ n < 6)
theorem inR_t {n : Int} (h : inR n = true) : 0 ≤ n ∧ n < 6 := of_decide_eq_true h
def upS (l : FL) (d : DFL) (n : Int) (f : FileS) : DFL := if inR n = true then putS l d n f else d
def f0 : FileS := (false, ByteArray.empty)
structure SOk (l : FL) (d : DFL) : Prop where
  s : SortD d
  k : ∀ x ∈ d, (0 ≤ x.1 ∧ x.1 < 6) ∧ goodF x.2.1 x.2.2 = true
  l6 : l.length = 6
  g : ∀ y ∈ l, goodF y.1.1 y.1.2 = true
theorem sort_len6 : ∀ (d : DFL) (a : Nat), SortD d → (∀ x ∈ d, (a : Int) ≤ x.1 ∧ x.1 < 6) → d.length ≤ 6 - a := by
  intro d
  induction d with
  | nil => intro a _ _; simp
  | cons x d ih =>
    intro a s h
    obtain ⟨h1, h2⟩ := h x (by simp)
    obtain ⟨s1, s2⟩ := List.pairwise_cons.1 s
    have := ih (a + 1) s2 (fun y hy => ⟨by have := s1 y hy; omega, (h y (by simp [hy])).2⟩)
    simp only [List.length_cons]; omega
theorem SOk.len {l : FL} {d : DFL} (o : SOk l d) : d.length ≤ 6 := sort_len6 d 0 o.s fun x hx => (o.k x hx).1
theorem atD_mem {d : DFL} {n : Int} {f : FileS} (h : atD d n = some f) : ∃ x ∈ d, x.1 = n ∧ x.2 = f := by
  unfold atD at h
  cases hf : d.find? (fun x => x.1 == n) with
  | none => rw [hf] at h; cases h
  | some x =>
    rw [hf] at h
    have h1 := List.find?_some hf
    exact ⟨x, List.mem_of_find?_eq_some hf, by simpa using h1, by simpa using h⟩
theorem SOk.fat {l : FL} {d : DFL} (o : SOk l d) (n : Int) : goodF (fileAt l n).1.1 (fileAt l n).1.2 = true := by
  by_cases h : 0 ≤ n ∧ n < (l.length : Int)
  · rw [fileAt_in h.1 (by omega)]; exact o.g _ (List.getElem_mem _)
  · rw [fileAt_out h]; rfl
theorem SOk.good {l : FL} {d : DFL} (o : SOk l d) (n : Int) : goodF (getS l d n).1.1 (getS l d n).1.2 = true := by
  cases h : atD d n with
  | none => rw [getS_none h]; exact o.fat n
  | some f =>
    rw [getS_some h]
    obtain ⟨x, hx, _, rfl⟩ := atD_mem h
    exact (o.k x hx).2
theorem goodF_size {b : Bool} {s : ByteArray} (h : goodF b s = true) : s.size ≤ 32 := by unfold goodF at h; simp at h; exact h.1
theorem goodF_put {f : FileS} (h : goodF f.1 f.2 = true) (n : Int) (c : UInt8) : goodF (putF f n c).1 (putF f n c).2 = true := by
  unfold putF
  split
  · rename_i hn
    have := goodF_size h
    unfold goodF
    rw [ba_size, putT_len, bl_length, decide_eq_true (by omega)]; rfl
  · exact h
theorem goodF_cut {f : FileS} (h : goodF f.1 f.2 = true) (n : Int) : goodF (cutF f n).1 (cutF f n).2 = true := by
  unfold cutF
  split
  · rename_i hn
    unfold goodF
    rw [ba_size, cutT_len, decide_eq_true (by omega)]; rfl
  · exact h
theorem goodF_make {f : FileS} (h : goodF f.1 f.2 = true) : goodF true f.2 = true := by
  have := goodF_size h
  unfold goodF; rw [decide_eq_true this]; rfl
theorem SOk.up {l : FL} {d : DFL} (o : SOk l d) {n : Int} {f : FileS} (g : goodF f.1 f.2 = true) : SOk l (upS l d n f) := by
  unfold upS putS
  split
  · rename_i hn
    have hn := inR_t hn
    split
    · exact o
    · refine ⟨o.s.ins, fun x hx => ?_, o.l6, o.g⟩
      rcases insD_mem hx with rfl | hx
      · exact ⟨hn, g⟩
      · exact o.k x hx
  · exact o
def renS (l : FL) (d : DFL) (a b : Int) : DFL := if (inR a && inR b && (getS l d a).1.1 && decide (a ≠ b)) = true then putS l (putS l d b (getS l d a).1) a f0 else d
theorem SOk.ren {l : FL} {d : DFL} (o : SOk l d) (a b : Int) : SOk l (renS l d a b) := by
  unfold renS
  split
  · rename_i h
    simp only [Bool.and_eq_true] at h
    have h1 := o.up (n := b) (o.good a)
    have h2 := h1.up (n := a) (f := f0) rfl
    unfold upS at h1 h2
    rw [if_pos h.1.1.2] at h1 h2
    rw [if_pos h.1.1.1] at h2
    exact h2
  · exact o
section
variable {B : RO} {h0 h h' : Heap} {L : List (Option (Nat × AObj))} {r rd : Option (Nat × AObj)} {v vd : Value} {l z : FL} {d : DFL} {n : Int} {x : ShI} {f : FileS}
theorem Keep.nP {M : List (Option (Nat × AObj))} {k : Nat} {o : AObj} (E : Keep B h0 (L ++ M) h) (hk : h k = none) (hb : B k = none) (e : h' = h.set k o) : Keep B h0 ((L ++ [some (k, o)]) ++ M) h' := by
  refine (E.made hk hb e).remap (fun j => if j < L.length then j else if j = L.length then L.length + M.length else j - 1) (fun j y hy => ?_) (fun i j hi hj e => ?_)
  · by_cases h1 : j < L.length
    · simp only [if_pos h1]
      rw [List.append_assoc, List.getElem?_append_left h1] at hy
      rw [List.append_assoc, List.getElem?_append_left h1]; exact hy
    · simp only [if_neg h1]
      by_cases h2 : j = L.length
      · simp only [if_pos h2]
        subst h2
        rw [List.append_assoc, List.getElem?_append_right (Nat.le_refl _), Nat.sub_self] at hy
        rw [List.getElem?_append_right (by rw [List.length_append]; omega), List.length_append, Nat.sub_self]; exact hy
      · simp only [if_neg h2]
        rw [List.append_assoc, List.getElem?_append_right (by omega), List.getElem?_append_right (by simp only [List.length_cons, List.length_nil]; omega)] at hy
        refine up_app _ ?_
        rw [List.getElem?_append_right (by omega), show j - 1 - L.length = j - L.length - [some (k, o)].length by simp only [List.length_cons, List.length_nil]; omega]; exact hy
  · simp only [List.length_append, List.length_cons, List.length_nil] at hi hj
    split at e <;> split at e <;> (try split at e) <;> (try split at e) <;> omega
theorem Keep.dP {M : List (Option (Nat × AObj))} {y : Option (Nat × AObj)} (E : Keep B h0 ((L ++ [y]) ++ M) h) : Keep B h0 (L ++ M) h := by
  rw [List.append_assoc] at E; exact E.dropMid
end
end Go.Proofs.Ytgldgabefiialaa.H
namespace Go.Proofs.Ytgldgabefiialaa.H
open Go Go.RowKit
set_option linter.unusedVariables false
set_option maxRecDepth 100000
structure SCall where
  k : Int
  a : Int
  b : Int
  c : UInt8
def SCall.cells (x : SCall) : List Value := [.int .i64 x.k, .int .i64 x.a, .int .i64 x.b, .int .u8 ((x.c.toNat : Nat) : Int)]
theorem SCall.len (x : SCall) : x.cells.length = 4 := rfl
def opD (l : FL) (d : DFL) (x : SCall) : DFL :=
  if x.k = 0 then upS l d x.a (putF (getS l d x.a).1 x.b x.c)
  else if x.k = 1 then upS l d x.a (cutF (getS l d x.a).1 x.b)
  else if x.k = 2 then upS l d x.a (true, (getS l d x.a).1.2)
  else if x.k = 3 then upS l d x.a f0
  else if x.k = 4 then renS l d x.a x.b
  else d
theorem SOk.op {l : FL} {d : DFL} (o : SOk l d) (x : SCall) : SOk l (opD l d x) := by
  unfold opD
  split
  · exact o.up (goodF_put (o.good x.a) _ _)
  · split
    · exact o.up (goodF_cut (o.good x.a) _)
    · split
      · exact o.up (f := (true, (getS l d x.a).1.2)) (goodF_make (f := (getS l d x.a).1) (o.good x.a))
      · split
        · exact o.up rfl
        · split
          · exact o.ren _ _
          · exact o
def opsD (l : FL) (d : DFL) (xs : List SCall) : DFL := xs.foldl (opD l) d
theorem SOk.ops {l : FL} {d : DFL} (o : SOk l d) : ∀ xs : List SCall, SOk l (opsD l d xs) := by
  intro xs
  induction xs generalizing d with
  | nil => exact o
  | cons x xs ih => exact ih (o.op x)
section
variable {B : RO} {h0 h h' : Heap} {L : List (Option (Nat × AObj))} {r rd : Option (Nat × AObj)} {v vd : Value} {l z : FL} {d : DFL} {n : Int} {x : ShI} {f : FileS} {q kd : Nat}
end
end Go.Proofs.Ytgldgabefiialaa.H
namespace Go.Proofs.Ytgldgabefiialaa.H
open Go Go.RowKit
set_option linter.unusedVariables false
set_option maxRecDepth 100000
def apD (ver : Int) (l : FL) (d : DFL) : FL := d.foldl (fun l x => setF l x.1 x.2.1 x.2.2 ver) l
theorem apD_len (ver : Int) : ∀ (d : DFL) (l : FL), (apD ver l d).length = l.length := by
  intro d
  induction d with
  | nil => intro l; rfl
  | cons x d ih => intro l; exact (ih _).trans (setF_len _ _ _ _ _)
theorem apD_take {ver : Int} {l : FL} {d : DFL} {j : Nat} {x : Int × FileS} (h : d[j]? = some x) : apD ver l (d.take (j + 1)) = setF (apD ver l (d.take j)) x.1 x.2.1 x.2.2 ver := by
  obtain ⟨h1, rfl⟩ := List.getElem?_eq_some_iff.1 h
  rw [List.take_succ_eq_append_getElem h1, apD, List.foldl_append]; rfl
section
variable {B : RO} {h0 h h' : Heap} {L : List (Option (Nat × AObj))} {r rd : Option (Nat × AObj)} {v vd : Value} {l z : FL} {d : DFL} {n ver : Int} {x : ShI} {f : FileS} {q kd c : Nat} {a : Option Addr} {xs : List SCall}
def ShI.w (x : ShI) (r : Option (Nat × AObj)) : ShI := { x with rt := r }
theorem sdraft_wp {Q : Option Addr → Heap → Prop} (E : Keep B h0 (L ++ x.m vd rd) h) (hQ : Q (some ⟨x.kf, 0, none⟩) h) : C_sheet_Sheet_Draft B (some ⟨x.ks, 0, none⟩) h Q := by
  refine C_sheet_Sheet_Draft.of ?_
  unfold S_sheet_Sheet_Draft
  exact ⟨fun e => (by cases e), fun _ => ⟨_, rfl, _, E.cM 3 rfl (i := 0) rfl, Fin.of hQ⟩⟩
theorem sover_wp {Q : Int → Heap → Prop} (E : Keep B h0 (L ++ x.m vd rd) h) (R : FRow x.rt x.vt l) (Rd : DRow_file_File rd vd d) (o : SOk l d)
    (hQ : ∀ r' h', FRow r' x.vt (apD ver l d) → Keep B h0 (L ++ (x.w r').m vd rd) h' → Q (d.length : Nat) h') : C_sheet_Sheet_Over B (some ⟨x.ks, 0, none⟩) (some ⟨x.kT, 0, none⟩) ver h Q := by
  have hl := o.len
  refine C_sheet_Sheet_Over.of ?_
  unfold S_sheet_Sheet_Over
  intro k5 a5 b5 h6 e6 k7 a7 b7 h8 e8 k9 a9 b9 h10 e10
  have E1 := ((E.nM a5 b5 e6).nM a7 b7 e8).nM a9 b9 e10
  refine ⟨_, storeH_vec (E1.gM 8 rfl) rfl, ?_⟩
  have E2 := E1.pM (o' := .vec TY.int (plains [.int .i64 0]) 1) 8 rfl
  refine sdraft_wp (x := x) (vd := vd) (rd := rd) (L := L) (E2.tM 6) (fdall_wp fun kc ac bc => ?_)
  have E3 := E2.nM (o := .vec TY.p_draft_Draft_file_File [.plain (.pointer (some ⟨x.kf, 0, none⟩))] 1) ac bc rfl
  refine ⟨d, fdG kc x.kf vd rd, fun q h' => ∃ r', q ≤ d.length ∧ FRow r' x.vt (apD ver l (d.take q)) ∧ Keep B h0 (L ++ ((x.w r').m vd rd ++ [some (k5, .vec TY.p_tome_Tome [.plain (.pointer (some ⟨x.kT, 0, none⟩))] 1), some (k7, .vec TY.int [.plain (.int .i64 ver)] 1), some (k9, .vec TY.int (plains [.int .i64 ((q : Nat) : Int)]) 1), some (kc, .vec TY.p_draft_Draft_file_File [.plain (.pointer (some ⟨x.kf, 0, none⟩))] 1)])) h', fdall_iter (k := x.kf) Rd (by omega), fdG_ins, ?_, Fin.of ⟨x.rt, by omega, R, E3⟩, ?_, ?_⟩
  · rintro q h' ⟨r', _, _, E⟩
    exact ⟨E.gM 9 rfl, E.gM 4 rfl, fun k o e => E.gM 5 (by show some rd = _; rw [e])⟩
  · clear E1 E2 E3
    rintro q h20 i16 b17 s18 hg ⟨r1, hq, R1, E⟩
    have hq' := (List.getElem?_eq_some_iff.1 hg).1
    have gx := o.k _ (List.mem_of_getElem? hg)
    simp only at gx
    intro k24 a24 b24 h25 e25
    have E1 := E.nM a24 b24 e25
    refine ⟨_, stores_whole (E1.gM 10 rfl) rfl (by simp) (by simp [isOne]) (by simp), ?_⟩
    have E2 := E1.pM (o' := fO (b17, s18)) 10 rfl
    refine ⟨_, E2.cM 6 rfl (i := 0) rfl, _, _, ⟨E2.cM 10 rfl (i := 0) rfl, E2.cM 10 rfl (i := 1) rfl, trivial⟩, _, E2.cM 7 rfl (i := 0) rfl, ?_⟩
    refine tset_wp (i := L.length) E2 ⟨upM 0 rfl, ⟨upM 1 rfl, upM 2 rfl⟩⟩ R1 fun r2 h31 R2 E3 => ?_
    have hb : setB (apD ver l (d.take q)) i16 b17 s18 = true := by
      unfold setB; rw [gx.2, Bool.true_and, decide_eq_true_eq, apD_len, o.l6]; exact gx.1
    rw [setM] at E3
    rw [hb]
    refine ⟨fun _ => ⟨_, E3.cM 8 rfl (i := 0) rfl, _, storeH_vec (E3.gM 8 rfl) rfl, Fin.of ⟨r2, by omega, ?_, ?_⟩⟩, fun e => by cases e⟩
    · rw [apD_take hg]; exact R2
    · have e1 : IntKind.wrap .i64 (((q : Nat) : Int) + 1) = ((q + 1 : Nat) : Int) := by rw [w64 (by omega) (by omega)]; omega
      have E4 := (E3.pM (o' := .vec TY.int (plains [.int .i64 (IntKind.wrap .i64 (((q : Nat) : Int) + 1))]) 1) 8 rfl).tM 10
      rw [e1] at E4 ⊢
      exact E4
  · rintro h20 ⟨r1, _, R1, E⟩
    rw [List.take_length] at R1
    exact ⟨_, E.cM 8 rfl (i := 0) rfl, Fin.of (hQ r1 _ R1 (E.tM 6))⟩
end
end Go.Proofs.Ytgldgabefiialaa.H
namespace Go.Proofs.Ytgldgabefiialaa.H
open Go
set_option linter.unusedVariables false
set_option maxRecDepth 100000
theorem TK.slc_slot_int : slcB PG TY.s_cell_slot_int = some (TY.cell_slot_int, 2, 16) := by kernel_rfl
theorem TK.zero_slot_int : zeroB PG TY.cell_slot_int = some [.int .i64 0, .int .i64 0] := by kernel_rfl
theorem TK.sl_slot_int : slT PG TY.s_cell_slot_int = true := by kernel_rfl
def slotC_int (x : Int × Int) : List Value := [.int .i64 x.1, .int .i64 x.2]
theorem slotC_int_len (x : Int × Int) : (slotC_int x).length = 2 := rfl
def rowO_int (l : List (Int × Int)) : AObj := .vec TY.cell_Row_int [.own TY.cell_slot_int 2 (l.flatMap slotC_int)] 1
def RowP_int (h : Heap) (b : Nat) (a : Option Addr) (m c : Nat) (l : List (Int × Int)) : Prop := FP h b 0 TY.cell_slot_int 2 (l.flatMap slotC_int) a m c
def RowV_int (h : Heap) (b : Nat) (l : List (Int × Int)) : Prop := FV h b 0 TY.cell_slot_int 2 (l.flatMap slotC_int)
theorem rowO_int_v {h : Heap} {b : Nat} {l : List (Int × Int)} (hb : h b = some (rowO_int l)) : RowV_int h b l := .inl ⟨_, _, _, hb, rfl⟩
theorem RowP_int.v {h : Heap} {b m c : Nat} {a : Option Addr} {l : List (Int × Int)} (R : RowP_int h b a m c l) : RowV_int h b l := FP.fv R
def cellAt_int (l : List (Int × Int)) (i : Int) : Int × Int := if 0 ≤ i then (l[i.toNat]?).getD (0, 0) else (0, 0)
section
variable {B : RO} {h : Heap} {b : Nat} {a : Option Addr} {m c : Nat} {l : List (Int × Int)}
theorem Opened.row_int {v : Value} {h1 : Heap} (ho : Opened B h b TY.cell_Row_int [.own TY.cell_slot_int 2 (l.flatMap slotC_int)] 1 0 TY.cell_slot_int 2 (l.flatMap slotC_int) v h1) : ∃ a m c, v = .slice a m c ∧ RowP_int h1 b a m c l := by
  obtain ⟨a, m, c, rfl⟩ := ho.slice
  exact ⟨a, m, c, rfl, ⟨_, _, _, ho.blk, rfl⟩, ho.row⟩
theorem RowP_int.len (R : RowP_int h b a m c l) : m = l.length := (R.2.reads (B := fun _ => none) slotC_int_len (by omega)).1
theorem RowP_int.at (R : RowP_int h b a m c l) : ∀ i x, l[i]? = some x → ∃ A, a = some A ∧ CellsAt B h (A.add (i * 2)) 0 (slotC_int x) := fun i x hx =>
  let ⟨A, e, _, q⟩ := (R.2.reads (B := B) slotC_int_len (by omega)).2 i x hx
  ⟨A, e, q⟩
theorem cellAt_int_in {i : Int} (h0 : 0 ≤ i) (h1 : i.toNat < l.length) : cellAt_int l i = l[i.toNat] := by
  rw [cellAt_int, if_pos h0, List.getElem?_eq_getElem h1]; rfl
theorem cellAt_int_out {i : Int} (hn : ¬ (0 ≤ i ∧ i < (l.length : Int))) : cellAt_int l i = (0, 0) := by
  unfold cellAt_int
  split
  · rw [List.getElem?_eq_none (by omega)]; rfl
  · rfl
theorem is_p_int {i : Int} {Q : Bool → Heap → Prop} (R : RowP_int h b a m c l) (hQ : Q (decide (0 ≤ i ∧ i < (l.length : Int))) h) : C_cell_Row_int_is B (some ⟨b, 0, none⟩) i h Q := by
  refine C_cell_Row_int_is.of ?_
  unfold S_cell_Row_int_is
  have hm := R.len
  refine ⟨(fun e => by cases e), fun _ => ⟨fun h0 => ⟨_, rfl, .inl ⟨a, m, c, R.1.cell, Fin.of ?_⟩⟩, fun h0 => Fin.of ?_⟩⟩
  · have : decide (i < (m : Int)) = decide (0 ≤ i ∧ i < (l.length : Int)) := by
      rw [decide_eq_decide, hm]; exact ⟨fun x => ⟨by omega, x⟩, fun x => x.2⟩
    rw [this]; exact hQ
  · rw [decide_eq_false (by omega)] at hQ; exact hQ
theorem get_p_int {i : Int} {Q : Int → Int → Heap → Prop} (R : RowP_int h b a m c l) (hQ : Q (cellAt_int l i).1 (cellAt_int l i).2 h) : C_cell_Row_int_Get B (some ⟨b, 0, none⟩) i h Q := by
  refine C_cell_Row_int_Get.of ?_
  unfold S_cell_Row_int_Get
  have hm := R.len
  refine is_p_int R ⟨fun hT => ?_, fun hF => Fin.of ?_⟩
  · rw [decide_eq_true_eq] at hT
    have hi : i.toNat < l.length := by omega
    rw [cellAt_int_in hT.1 hi] at hQ
    obtain ⟨A, e, q⟩ := R.at (B := B) i.toNat _ (List.getElem?_eq_getElem hi)
    refine ⟨_, rfl, a, m, c, R.1.cell, A, e, hT.1, by omega, _, q.1, _, rfl, a, m, c, R.1.cell, A, e, hT.1, by omega, _, q.2.1, Fin.of hQ⟩
  · rw [decide_eq_false_iff_not] at hF
    rw [cellAt_int_out hF] at hQ
    exact hQ
theorem get_wp_int {i : Int} {Q : Int → Int → Heap → Prop} (hv : RowV_int h b l) (hQ : Q (cellAt_int l i).1 (cellAt_int l i).2 h) : C_cell_Row_int_Get B (some ⟨b, 0, none⟩) i h Q := by
  refine FV.spec hv fun a m c h1 sh => ?_
  exact Spec.fin (Spec.mono (get_p_int (Q := fun x y h' => Fin B h' (Q x y)) sh.1 (Fin.ent sh.2.1 (Fin.of hQ))) fun v h' ⟨x, y, e, q⟩ => q.imp fun h'' q' => ⟨x, y, e, q'⟩)
theorem version_wp_int {i : Int} {Q : Int → Heap → Prop} (hb : RowV_int h b l) (hQ : Q (cellAt_int l i).2 h) : C_cell_Row_int_Version B (some ⟨b, 0, none⟩) i h Q := by
  refine C_cell_Row_int_Version.of ?_
  unfold S_cell_Row_int_Version
  exact get_wp_int hb (Fin.of hQ)
theorem is_wp_int {i : Int} {Q : Bool → Heap → Prop} (hb : RowV_int h b l) (hQ : Q (decide (0 ≤ i ∧ i < (l.length : Int))) h) : C_cell_Row_int_is B (some ⟨b, 0, none⟩) i h Q := by
  refine C_cell_Row_int_is.of ?_
  unfold S_cell_Row_int_is
  refine ⟨(fun e => by cases e), fun _ => ⟨fun h0 => ⟨_, rfl, FV.ld hb fun a m c h1 sh => Fin.ent sh.2.1 (Fin.of ?_)⟩, fun h0 => Fin.of ?_⟩⟩
  · have hm := RowP_int.len sh.1
    have : decide (i < (m : Int)) = decide (0 ≤ i ∧ i < (l.length : Int)) := by
      rw [decide_eq_decide, hm]; exact ⟨fun x => ⟨by omega, x⟩, fun x => x.2⟩
    rw [this]; exact hQ
  · rw [decide_eq_false (by omega)] at hQ; exact hQ
theorem flatMap_set {α : Type} {cells : α → List Value} (x : α) : ∀ (l : List α) (i : Nat) (hi : i < l.length), (l.set i x).flatMap cells = (l.take i).flatMap cells ++ cells x ++ (l.drop (i + 1)).flatMap cells
  | [], i, hi => by simp at hi
  | y :: l, 0, _ => by simp
  | y :: l, i + 1, hi => by
    simp only [List.set_cons_succ, List.flatMap_cons, List.take_succ_cons, List.drop_succ_cons]
    rw [flatMap_set x l i (by simpa using hi)]
    simp [List.append_assoc]
theorem flatMap_split {α : Type} {cells : α → List Value} (l : List α) (i : Nat) (hi : i < l.length) : l.flatMap cells = (l.take i).flatMap cells ++ (cells l[i] ++ (l.drop (i + 1)).flatMap cells) := by
  conv => lhs; rw [← List.take_append_drop i l, List.drop_eq_getElem_cons hi]
  rw [List.flatMap_append, List.flatMap_cons]
theorem set_wp_int {i : Int} {x : Int} {v : Int} {Q : Bool → Heap → Prop} (hb : h b = some (rowO_int l))
    (hT : 0 ≤ i → i.toNat < l.length → Q true (h.set b (rowO_int (l.set i.toNat (x, v))))) (hF : ¬ (0 ≤ i ∧ i < (l.length : Int)) → Q false h) : C_cell_Row_int_Set B (some ⟨b, 0, none⟩) i x v h Q := by
  refine C_cell_Row_int_Set.of ?_
  unfold S_cell_Row_int_Set
  refine is_wp_int (rowO_int_v hb) ⟨fun hD => ?_, fun hD => Fin.of (hF (by simpa using hD))⟩
  rw [decide_eq_true_eq] at hD
  have hi : i.toNat < l.length := by omega
  refine ⟨_, rfl, .inr ⟨_, _, _, _, _, _, rfl, hb, rfl, fun a m c h1 ho => ?_⟩⟩
  obtain ⟨a', m', c', e, R⟩ := ho.row_int
  cases e
  have hm := R.len
  have hbk := ho.blk
  rcases R.2 with ⟨e1, e2⟩ | ⟨k, m2, c2, nn, js, e1, e2, e3, e4, e5⟩
  · have := flatMap_length slotC_int_len l
    rw [e2] at this; simp at this; omega
  · cases e1
    have hlen := flatMap_length slotC_int_len (l.take i.toNat)
    rw [List.length_take, Nat.min_eq_left (by omega)] at hlen
    rw [flatMap_split l _ hi, List.append_assoc, List.append_assoc] at e2
    have hall := flatMap_length slotC_int_len l
    obtain ⟨h', s1, _, s3⟩ := StoresAt.over (slotC_int (x, v)) h1 (i.toNat * 2) 0 _ _ (by simp [slotC_int, isOne]) e2 (by rw [hlen]; omega) (by rw [slotC_int_len]; omega)
    have s3 := s3 (by simp [slotC_int])
    have hadd : Addr.add ⟨k, 0, none⟩ (i.toNat * 2) = ⟨k, i.toNat * 2, none⟩ := by
      unfold Addr.add; split
      · rename_i hz; rw [hz]
      · simp
    refine ⟨⟨k, 0, none⟩, rfl, hD.1, by omega, h', by rw [hadd]; exact s1, ?_⟩
    have hdrop : (slotC_int l[i.toNat] ++ ((l.drop (i.toNat + 1)).flatMap slotC_int ++ js)).drop (slotC_int (x, v)).length = (l.drop (i.toNat + 1)).flatMap slotC_int ++ js := by
      rw [slotC_int_len, ← slotC_int_len l[i.toNat], List.drop_left]
    rw [hdrop, ← List.append_assoc, ← flatMap_set (cells := slotC_int) (x, v) l _ hi] at s3
    have hkb : k ≠ b := (ho.new k _ _ rfl).2
    have hset : ((l.set i.toNat (x, v)).flatMap slotC_int).length = (l.flatMap slotC_int).length := by
      rw [flatMap_length slotC_int_len, flatMap_length slotC_int_len, List.length_set]
    have hcl := Ent.close_row (B := B) (h0 := h) (h := h') (b := b) (n := 1) (i := 0) (t := TY.cell_Row_int) (e := TY.cell_slot_int) (sz := 2) (fs := plains [Value.slice (some ⟨k, 0, none⟩) m c]) (v := .slice (some ⟨k, 0, none⟩) m c) (xs := (l.set i.toNat (x, v)).flatMap slotC_int)
      (by
        intro c' o hc' hh
        rw [s3, Heap.set_ne _ _ _ _ (fun e => by
          have := (ho.new k _ _ rfl).1
          rw [e, this] at hh; cases hh)]
        exact ho.sub c' o hc' hh)
      (by rw [s3, Heap.set_ne _ _ _ _ (Ne.symm hkb)]; exact hbk)
      rfl
      (.inr ⟨k, m, c, nn, js, rfl, by rw [s3, Heap.set_same], by rw [hset]; exact e3, e4, e5⟩)
      (fun k' m' c' e => ho.new k' m' c' e)
    exact Fin.ent hcl (Fin.of (hT hD.1 hi))
theorem new_wp_int {n : Int} {x : Int} {Q : Option Addr → Heap → Prop} (hn : n ≤ 1000000) (hQ : ∀ k, h k = none → B k = none → Q (some ⟨k, 0, none⟩) (h.set k (rowO_int (List.replicate n.toNat (x, 0))))) : C_cell_New_int B n x h Q := by
  refine C_cell_New_int.of ?_
  unfold S_cell_New_int
  intro k a1 b1 h5 e5
  obtain ⟨g5, -, -⟩ := Heap.made a1 e5
  have hcl : Ent B h5 (h.set k (rowO_int [])) := by
    have := Ent.close_nil (B := B) (e := TY.cell_slot_int) (sz := 2) (i := 0) g5 rfl
    rw [e5, Heap.set_set] at this
    rw [e5]
    exact this
  refine ⟨fun i m h' => ∃ j : Nat, (j : Int) ≤ max n 0 ∧ i = j ∧ m = n.toNat - j ∧ h' = h.set k (rowO_int (List.replicate j (x, 0))), n.toNat, Fin.ent hcl (Fin.of ⟨0, by omega, rfl, by omega, rfl⟩), ?_⟩
  rintro _ _ _ ⟨j, hj, rfl, rfl, rfl⟩
  refine ⟨fun hlt => ?_, fun hge => ?_⟩
  · have hl := flatMap_length slotC_int_len (List.replicate j (x, (0 : Int)))
    rw [List.length_replicate] at hl
    refine app_own (len := 1) (ys := slotC_int (x, 0)) TK.slc_slot_int TK.zero_slot_int rfl (by omega) (by omega) TK.sl_slot_int (Heap.set_same _ _ _) rfl rfl (by simp [slotC_int, isOne]) (by rw [hl, slotC_int_len]; omega) ?_
    intro a' n' c' h3 h4 s1 s2
    refine ⟨a', n', c', rfl, h4, s1, Fin.ent s2 (Fin.of ⟨n.toNat - (j + 1), by omega, j + 1, by omega, ?_, rfl, ?_⟩)⟩
    · rw [w64 (by omega) (by omega)]; omega
    · rw [Heap.set_set]
      unfold rowO_int
      rw [List.replicate_succ', List.flatMap_append]
      simp
  · have : j = n.toNat := by omega
    subst this
    exact Fin.of (hQ k a1 b1)
end
end Go.Proofs.Ytgldgabefiialaa.H
namespace Go.Proofs.Ytgldgabefiialaa.H
open Go
set_option linter.unusedVariables false
set_option maxRecDepth 100000
theorem plains_mid {α : Type} (f : α → Value) (a b : List Value) (l : List α) (i : Nat) (x : α) (hx : l[i]? = some x) : (plains (a ++ (l.map f ++ b)))[a.length + i]? = some (.plain (f x)) := by
  obtain ⟨hi, rfl⟩ := List.getElem?_eq_some_iff.1 hx
  simp only [plains, List.getElem?_map]
  rw [List.getElem?_append_right (by omega), show a.length + i - a.length = i by omega, List.getElem?_append_left (by simpa using hi), List.getElem?_map, hx]
  rfl
def feedC (ts : List ByteArray) (kR : Nat) : List Value := ts.map Value.string ++ [.pointer (some ⟨kR, 0, none⟩)]
def feedO (ts : List ByteArray) (kR : Nat) : AObj := .vec TY.feed_Feed (plains (feedC ts kR)) 4
def textAt (ts : List ByteArray) (i : Int) : ByteArray := if 0 ≤ i ∧ i < 3 then (ts[i.toNat]?).getD (ByteArray.mk #[]) else ByteArray.mk #[]
def takeB (ts : List ByteArray) (l : List (Int × Int)) (i place : Int) : Bool := decide (0 ≤ i ∧ i < 3 ∧ (cellAt_int l i).1 ≤ place ∧ place ≤ (textAt ts i).size)
def takeL (ts : List ByteArray) (l : List (Int × Int)) (i place v : Int) : List (Int × Int) := if takeB ts l i place = true then l.set i.toNat (place, v) else l
structure FeedOk (ts : List ByteArray) (l : List (Int × Int)) : Prop where
  t3 : ts.length = 3
  l3 : l.length = 3
  size : ∀ i, (textAt ts i).size ≤ 64
  place : ∀ i, 0 ≤ (cellAt_int l i).1 ∧ (cellAt_int l i).1 ≤ (textAt ts i).size
theorem textAt_in {ts : List ByteArray} {i : Int} (h3 : ts.length = 3) (h0 : 0 ≤ i) (h1 : i < 3) : ts[i.toNat]? = some (textAt ts i) := by
  rw [textAt, if_pos ⟨h0, h1⟩, List.getElem?_eq_getElem (by omega)]; rfl
theorem cellAt_int_set {l : List (Int × Int)} {i : Int} (h0 : 0 ≤ i) (h1 : i < l.length) (x : Int × Int) (j : Int) : cellAt_int (l.set i.toNat x) j = if j = i then x else cellAt_int l j := by
  unfold cellAt_int
  by_cases hj : 0 ≤ j
  · rw [if_pos hj, if_pos hj]
    by_cases he : j = i
    · subst he
      rw [if_pos rfl, List.getElem?_set_self (by omega)]; rfl
    · rw [if_neg he, List.getElem?_set_ne (by omega)]
  · rw [if_neg hj, if_neg hj, if_neg (fun he => hj (by omega))]
theorem FeedOk.take {ts : List ByteArray} {l : List (Int × Int)} (k : FeedOk ts l) (i place v : Int) : FeedOk ts (takeL ts l i place v) := by
  unfold takeL
  split
  · rename_i h
    unfold takeB at h
    rw [decide_eq_true_eq] at h
    obtain ⟨h0, h1, h2, h3⟩ := h
    have l3 := k.l3
    refine ⟨k.t3, by rw [List.length_set]; exact k.l3, k.size, fun j => ?_⟩
    rw [cellAt_int_set h0 (by omega)]
    have := k.place i
    split
    · rename_i e; subst e; exact ⟨by omega, h3⟩
    · exact k.place j
  · exact k
section
variable {B : RO} {h : Heap} {kF kR kM : Nat} {ts : List ByteArray} {l l' : List (Int × Int)}
theorem feed_text (hf : h kF = some (feedO ts kR)) (h3 : ts.length = 3) {i : Int} (h0 : 0 ≤ i) (h1 : i < 3) : cellH B h (Addr.add ⟨kF, 0, none⟩ (i.toNat * 1)) = some (.string (textAt ts i)) := by
  rw [addr_more, Nat.mul_one]
  exact cellH_vec hf (plains_mid Value.string [] _ ts i.toNat _ (textAt_in h3 h0 h1))
theorem feed_ptr (hf : h kF = some (feedO ts kR)) (h3 : ts.length = 3) : cellH B h (Addr.add ⟨kF, 0, none⟩ 3) = some (.pointer (some ⟨kR, 0, none⟩)) := by
  rw [addr_more, Nat.zero_add]
  refine cellH_vec hf ?_
  have := plains_mid (fun x : Option Addr => Value.pointer x) (ts.map Value.string) [] [some ⟨kR, 0, none⟩] 0 _ rfl
  rw [List.length_map, h3] at this
  exact this
theorem feed_is_wp {i : Int} {p : Addr} {Q : Bool → Heap → Prop} (hQ : Q (decide (0 ≤ i ∧ i < 3)) h) : C_feed_Feed_is B (some p) i h Q := by
  refine C_feed_Feed_is.of ?_
  unfold S_feed_Feed_is
  refine ⟨fun e => (by cases e), fun _ => ⟨fun h0 => Fin.of ?_, fun h0 => Fin.of ?_⟩⟩
  · have : decide (i < 3) = decide (0 ≤ i ∧ i < 3) := by rw [decide_eq_decide]; exact ⟨fun x => ⟨by omega, x⟩, fun x => x.2⟩
    rw [this]; exact hQ
  · rw [decide_eq_false (by omega)] at hQ; exact hQ
theorem feed_place_wp {i : Int} {Q : Int → Int → Heap → Prop} (h3 : ts.length = 3) (hf : h kF = some (feedO ts kR)) (hr : h kR = some (rowO_int l)) (hQ : Q (cellAt_int l i).1 (cellAt_int l i).2 h) : C_feed_Feed_Place B (some ⟨kF, 0, none⟩) i h Q := by
  refine C_feed_Feed_Place.of ?_
  unfold S_feed_Feed_Place
  exact ⟨fun e => (by cases e), fun _ => ⟨_, rfl, _, feed_ptr hf h3, get_wp_int (rowO_int_v hr) (Fin.of hQ)⟩⟩
theorem feed_take_wp {i place v : Int} {Q : Bool → Heap → Prop} (k : FeedOk ts l) (hf : h kF = some (feedO ts kR)) (hr : h kR = some (rowO_int l)) (hQ : Q (takeB ts l i place) (h.set kR (rowO_int (takeL ts l i place v)))) : C_feed_Feed_Take B (some ⟨kF, 0, none⟩) i place v h Q := by
  refine C_feed_Feed_Take.of ?_
  unfold S_feed_Feed_Take
  have no : ¬ (0 ≤ i ∧ i < 3 ∧ (cellAt_int l i).1 ≤ place ∧ place ≤ (textAt ts i).size) → Q false h := fun hn => by
    have e : takeB ts l i place = false := by rw [takeB, decide_eq_false hn]
    rw [takeL, e, if_neg (by decide), Heap.set_self _ _ _ hr] at hQ
    exact hQ
  refine feed_place_wp k.t3 hf hr (feed_is_wp ⟨fun hT => ⟨fun hp => Fin.of (no (by omega)), fun hp => ?_⟩, fun hF => Fin.of (no ?_)⟩)
  · rw [decide_eq_true_eq] at hT
    refine ⟨_, rfl, hT.1, hT.2, _, feed_text hf k.t3 hT.1 hT.2, fun hg => Fin.of (no (by omega)), fun hg => Fin.of ?_⟩
    unfold S_feed_Feed_Take_J1
    have e : takeB ts l i place = true := by rw [takeB, decide_eq_true_eq]; omega
    have l3 := k.l3
    rw [takeL, e, if_pos rfl] at hQ
    exact ⟨_, rfl, _, feed_ptr hf k.t3, set_wp_int hr (fun _ _ => Fin.of hQ) (fun hn => absurd (show 0 ≤ i ∧ i < (l.length : Int) by omega) hn)⟩
  · rw [decide_eq_false_iff_not] at hF
    omega
def ts0 : List ByteArray := [ByteArray.empty, ByteArray.empty, ByteArray.empty]
def fl0 : List (Int × Int) := [(0, 0), (0, 0), (0, 0)]
theorem FeedOk.zero : FeedOk ts0 fl0 := by
  have key : ∀ i : Int, textAt ts0 i = ByteArray.empty ∧ (cellAt_int fl0 i) = (0, 0) := fun i => by
    by_cases h : 0 ≤ i ∧ i < 3
    · have : i = 0 ∨ i = 1 ∨ i = 2 := by omega
      rcases this with rfl | rfl | rfl <;> exact ⟨rfl, rfl⟩
    · refine ⟨by rw [textAt, if_neg h]; rfl, ?_⟩
      unfold cellAt_int
      split
      · rw [List.getElem?_eq_none (by simp [fl0]; omega)]; rfl
      · rfl
  exact ⟨rfl, rfl, fun i => by rw [(key i).1]; decide, fun i => by rw [(key i).1, (key i).2]; decide⟩
theorem feed_new_wp {Q : Option Addr → Heap → Prop} (hQ : ∀ kR kF h1 h2, h kR = none → B kR = none → h1 = h.set kR (rowO_int fl0) → h1 kF = none → B kF = none → h2 = h1.set kF (feedO ts0 kR) → Q (some ⟨kF, 0, none⟩) h2) : C_feed_New B h Q := by
  refine C_feed_New.of ?_
  unfold S_feed_New
  refine new_wp_int (by decide) fun kR a1 b1 k4 a4 b4 h5 e5 => Fin.of (hQ kR k4 _ h5 a1 b1 rfl a4 b4 e5)
end
end Go.Proofs.Ytgldgabefiialaa.H
namespace Go.Proofs.Ytgldgabefiialaa.H
open Go Go.RowKit
set_option linter.unusedVariables false
set_option maxRecDepth 100000
structure StI where
  kd : Nat
  vd : Value
  rd : Option (Nat × AObj)
  ks : Nat
  kf : Nat
  vf : Value
  rf : Option (Nat × AObj)
  kc : Nat
structure StV where
  d : List (Int × Int)
  f : List (Int × (Bool × ByteArray))
  c0 : Int
  c1 : Int
  c2 : Int
def StV.z : StV := ⟨[], [], 0, 0, 0⟩
def shO (kf : Nat) : AObj := .vec TY.sheet_Sheet (plains [.pointer (some ⟨kf, 0, none⟩)]) 1
def curO (s : StV) : AObj := .vec TY.cursor_Cursor (plains [.int .i64 s.c0, .int .i64 s.c1, .int .i64 s.c2]) 3
def StI.e (x : StI) (s : StV) : List (Option (Nat × AObj)) := [some (x.kd, drO_int x.vd), x.rd, some (x.ks, shO x.kf), some (x.kf, drO_file_File x.vf), x.rf, some (x.kc, curO s)]
structure StI.Ok (x : StI) (s : StV) : Prop where
  d : DRow_int x.rd x.vd s.d
  f : DRow_file_File x.rf x.vf s.f
structure StAt (L : List (Option (Nat × AObj))) (i : Nat) (x : StI) (s : StV) : Prop where
  d : DAt_int L i x.kd x.vd x.rd
  sh : L[i + 2]? = some (some (x.ks, shO x.kf))
  f : DAt_file_File L (i + 3) x.kf x.vf x.rf
  c : L[i + 5]? = some (some (x.kc, curO s))
theorem StAt.app {L M : List (Option (Nat × AObj))} {i : Nat} {x : StI} {s : StV} (A : StAt L i x s) : StAt (L ++ M) i x s :=
  ⟨⟨up_app _ A.d.p, up_app _ A.d.q⟩, up_app _ A.sh, ⟨up_app _ A.f.p, up_app _ A.f.q⟩, up_app _ A.c⟩
structure Reg4 where
  a : Int
  b : Int
  c : Int
  d : Int
structure MarkR where
  x : StI
  g : Reg4
  m : Reg4
  place : Int
def MarkR.cells (m : MarkR) : List Value := [.pointer (some ⟨m.x.kd, 0, none⟩), .pointer (some ⟨m.x.ks, 0, none⟩), .pointer (some ⟨m.x.kc, 0, none⟩), .int .i64 m.g.a, .int .i64 m.g.b, .int .i64 m.g.c, .int .i64 m.g.d, .int .i64 m.m.a, .int .i64 m.m.b, .int .i64 m.m.c, .int .i64 m.m.d, .int .i64 m.place]
theorem MarkR.len (m : MarkR) : m.cells.length = 12 := rfl
theorem MarkR.one (m : MarkR) : ∀ y ∈ m.cells, isOne y = true := fun y hy => by
  simp only [MarkR.cells, List.mem_cons, List.not_mem_nil, or_false] at hy
  rcases hy with rfl | rfl | rfl | rfl | rfl | rfl | rfl | rfl | rfl | rfl | rfl | rfl <;> rfl
def skO (v : Value) : AObj := .vec TY.mark_Stack (plains [v]) 1
def MRow (r : Option (Nat × AObj)) (v : Value) (l : List MarkR) : Prop := Row r v TY.mark_Mark 12 (l.flatMap MarkR.cells)
structure SkAt (L : List (Option (Nat × AObj))) (i k : Nat) (v : Value) (r : Option (Nat × AObj)) : Prop where
  p : L[i]? = some (some (k, skO v))
  q : L[i + 1]? = some r
section
variable {B : RO} {h0 h h' : Heap} {L : List (Option (Nat × AObj))} {r : Option (Nat × AObj)} {i j k : Nat} {a : Option Addr} {m c : Nat} {v : Value} {l : List MarkR} {x : StI} {s : StV} {g mm : Reg4} {place : Int}
theorem sheet_new_wp {Q : Option Addr → Heap → Prop} (hQ : ∀ ks kf h', Keep B h [some (ks, shO kf), some (kf, drO_file_File (.slice none 0 0)), none] h' → Q (some ⟨ks, 0, none⟩) h') : C_sheet_New B h Q := by
  refine C_sheet_New.of ?_
  unfold S_sheet_New
  intro k2 a2 b2 h3 e3 k4 a4 b4 h5 e5
  have E := ((Keep.nil B h).made a2 b2 e3).made a4 b4 e5
  exact Fin.of (hQ k4 k2 h5 (E.picks [1, 0, 9] (by decide)))
theorem fresh_wp {Q : Option Addr → Option Addr → Option Addr → Int → Int → Int → Int → Heap → Prop} (hQ : ∀ x h', StI.Ok x StV.z → Keep B h (x.e StV.z) h' → Q (some ⟨x.kd, 0, none⟩) (some ⟨x.ks, 0, none⟩) (some ⟨x.kc, 0, none⟩) g.a g.b g.c g.d h') : C_mark_Fresh B g.a g.b g.c g.d h Q := by
  refine C_mark_Fresh.of ?_
  unfold S_mark_Fresh
  intro k12 a12 b12 h13 e13 k14 a14 b14 h15 e15
  have E := ((Keep.nil B h).made a12 b12 e13).made a14 b14 e15
  have c12 : ∀ {M : List (Option (Nat × AObj))} {h1 : Heap}, Keep B h ([] ++ [some (k12, AObj.vec TY.api_Regs (plains [.int .i64 g.a, .int .i64 g.b, .int .i64 g.c, .int .i64 g.d]) 4)] ++ M) h1 → CellsAt B h1 ⟨k12, 0, none⟩ 0 [.int .i64 g.a, .int .i64 g.b, .int .i64 g.c, .int .i64 g.d] := fun {M h1} E1 => ⟨E1.cell 0 rfl rfl, E1.cell 0 rfl rfl, E1.cell 0 rfl rfl, E1.cell 0 rfl rfl, trivial⟩
  have fin : ∀ {kd ks kf kc : Nat} {h1 : Heap}, Keep B h [some (k14, .vec TY.mark_State (plains [.pointer none, .pointer none, .pointer none, .int .i64 0, .int .i64 0, .int .i64 0, .int .i64 0]) 7), some (kd, drO_int (.slice none 0 0)), some (ks, shO kf), some (kf, drO_file_File (.slice none 0 0)), some (kc, curO StV.z)] h1 → ∃ h2, StoresAt ⟨k14, 0, none⟩ h1 0 [.pointer (some ⟨kd, 0, none⟩), .pointer (some ⟨ks, 0, none⟩), .pointer (some ⟨kc, 0, none⟩), .int .i64 g.a, .int .i64 g.b, .int .i64 g.c, .int .i64 g.d] h2 ∧ ∃ p33 : Option Addr, ∃ p34 : Option Addr, ∃ p35 : Option Addr, ∃ i36 : Int, ∃ i37 : Int, ∃ i38 : Int, ∃ i39 : Int, CellsAt B h2 ⟨k14, 0, none⟩ 0 [(Value.pointer p33), (Value.pointer p34), (Value.pointer p35), (Value.int .i64 (i36)), (Value.int .i64 (i37)), (Value.int .i64 (i38)), (Value.int .i64 (i39))] ∧ Fin B h2 (Q p33 p34 p35 (i36) (i37) (i38) (i39)) := fun {kd ks kf kc h1} E1 => by
    refine ⟨_, stores_whole (E1.at 0 rfl) rfl (by simp) (by simp [isOne]) (by simp), ?_⟩
    have E2 := E1.put (o' := .vec TY.mark_State (plains [.pointer (some ⟨kd, 0, none⟩), .pointer (some ⟨ks, 0, none⟩), .pointer (some ⟨kc, 0, none⟩), .int .i64 g.a, .int .i64 g.b, .int .i64 g.c, .int .i64 g.d]) 7) 0 rfl
    refine ⟨_, _, _, _, _, _, _, ⟨E2.cell 0 rfl rfl, E2.cell 0 rfl rfl, E2.cell 0 rfl rfl, E2.cell 0 rfl rfl, E2.cell 0 rfl rfl, E2.cell 0 rfl rfl, E2.cell 0 rfl rfl, trivial⟩, Fin.of ?_⟩
    exact hQ ⟨kd, .slice none 0 0, none, ks, kf, .slice none 0 0, none, kc⟩ _ ⟨Row.nil _ _, Row.nil _ _⟩ (E2.picks [1, 9, 2, 3, 10, 4] (by decide))
  refine ⟨_, _, _, _, c12 E, fun k23 a23 b23 h24 e24 => ?_, ?_, fun k85 a85 b85 h86 e86 => ?_⟩
  · have E1 := E.made a23 b23 e24
    refine ⟨⟨E1.cell 0 rfl rfl, E1.cell 0 rfl rfl, E1.cell 0 rfl rfl, E1.cell 0 rfl rfl, trivial⟩, sheet_new_wp fun ks kf h26 E2 => ?_, fun k40 a40 b40 h41 e41 => ?_⟩
    · have E3 := E1.append E2
      refine ⟨⟨E3.cell 0 rfl rfl, E3.cell 0 rfl rfl, E3.cell 0 rfl rfl, E3.cell 0 rfl rfl, trivial⟩, fun k29 a29 b29 h30 e30 => ?_⟩
      have E4 := E3.made a29 b29 e30
      exact ⟨⟨E4.cell 0 rfl rfl, E4.cell 0 rfl rfl, E4.cell 0 rfl rfl, E4.cell 0 rfl rfl, trivial⟩, fin (E4.picks [1, 2, 3, 4, 6] (by decide))⟩
    · have E3 := E1.made a40 b40 e41
      refine ⟨⟨E3.cell 0 rfl rfl, E3.cell 0 rfl rfl, E3.cell 0 rfl rfl, E3.cell 0 rfl rfl, trivial⟩, sheet_new_wp fun ks kf h26 E2 => ?_⟩
      have E4 := E3.append E2
      exact ⟨⟨E4.cell 0 rfl rfl, E4.cell 0 rfl rfl, E4.cell 0 rfl rfl, E4.cell 0 rfl rfl, trivial⟩, fin (E4.picks [1, 2, 4, 5, 3] (by decide))⟩
  · refine sheet_new_wp fun ks kf h54 E2 => ?_
    have E3 := E.append E2
    refine ⟨⟨E3.cell 0 rfl rfl, E3.cell 0 rfl rfl, E3.cell 0 rfl rfl, E3.cell 0 rfl rfl, trivial⟩, fun k57 a57 b57 h58 e58 => ?_, fun k71 a71 b71 h72 e72 => ?_⟩
    · have E4 := E3.made a57 b57 e58
      refine ⟨⟨E4.cell 0 rfl rfl, E4.cell 0 rfl rfl, E4.cell 0 rfl rfl, E4.cell 0 rfl rfl, trivial⟩, fun k60 a60 b60 h61 e61 => ?_⟩
      have E5 := E4.made a60 b60 e61
      exact ⟨⟨E5.cell 0 rfl rfl, E5.cell 0 rfl rfl, E5.cell 0 rfl rfl, E5.cell 0 rfl rfl, trivial⟩, fin (E5.picks [1, 5, 2, 3, 6] (by decide))⟩
    · have E4 := E3.made a71 b71 e72
      refine ⟨⟨E4.cell 0 rfl rfl, E4.cell 0 rfl rfl, E4.cell 0 rfl rfl, E4.cell 0 rfl rfl, trivial⟩, fun k74 a74 b74 h75 e75 => ?_⟩
      have E5 := E4.made a74 b74 e75
      exact ⟨⟨E5.cell 0 rfl rfl, E5.cell 0 rfl rfl, E5.cell 0 rfl rfl, E5.cell 0 rfl rfl, trivial⟩, fin (E5.picks [1, 6, 2, 3, 5] (by decide))⟩
  · have E1 := E.made a85 b85 e86
    refine ⟨⟨E1.cell 0 rfl rfl, E1.cell 0 rfl rfl, E1.cell 0 rfl rfl, E1.cell 0 rfl rfl, trivial⟩, fun k88 a88 b88 h89 e89 => ?_, sheet_new_wp fun ks kf h102 E2 => ?_⟩
    · have E3 := E1.made a88 b88 e89
      refine ⟨⟨E3.cell 0 rfl rfl, E3.cell 0 rfl rfl, E3.cell 0 rfl rfl, E3.cell 0 rfl rfl, trivial⟩, sheet_new_wp fun ks kf h91 E2 => ?_⟩
      have E4 := E3.append E2
      exact ⟨⟨E4.cell 0 rfl rfl, E4.cell 0 rfl rfl, E4.cell 0 rfl rfl, E4.cell 0 rfl rfl, trivial⟩, fin (E4.picks [1, 3, 4, 5, 2] (by decide))⟩
    · have E3 := E1.append E2
      refine ⟨⟨E3.cell 0 rfl rfl, E3.cell 0 rfl rfl, E3.cell 0 rfl rfl, E3.cell 0 rfl rfl, trivial⟩, fun k105 a105 b105 h106 e106 => ?_⟩
      have E4 := E3.made a105 b105 e106
      exact ⟨⟨E4.cell 0 rfl rfl, E4.cell 0 rfl rfl, E4.cell 0 rfl rfl, E4.cell 0 rfl rfl, trivial⟩, fin (E4.picks [1, 6, 3, 4, 2] (by decide))⟩
theorem MRow.len (R : MRow r (.slice a m c) l) : m = l.length := (Row.rd (B := fun _ => none) R MarkR.len (by omega)).1
end
end Go.Proofs.Ytgldgabefiialaa.H
