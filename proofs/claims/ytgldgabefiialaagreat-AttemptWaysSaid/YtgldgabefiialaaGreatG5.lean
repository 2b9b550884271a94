/- What the law's proof stands on, part 5. No condition. -/
import Derived.Test.YtgldgabefiialaaGreatG4
namespace Go.Proofs.YtgldgabefiialaaGreat.H
open Go
set_option linter.unusedVariables false
set_option maxRecDepth 100000
set_option maxHeartbeats 4000000
theorem C_countermandlaw20_alive.of {B : RO} {h : Heap} {Q : Bool → Heap → Prop} (s : S_countermandlaw20_alive B h Q) : C_countermandlaw20_alive B h Q := by
 refine zspec Tryz.func9 [ResultVar.tmp 0] rfl rfl rfl rfl rfl ?_
 refine au 6 rfl ?_
 refine zcall s rfl rfl TF.goes_24 ?_
 rintro _ h2 ⟨p3, rfl, s⟩
 refine au 5 rfl ?_
 refine zg rfl (sem_buildAL [] [(.int .i64 (0)), (.int .i64 (0)), (.int .i64 (0)), (.int .i64 (0))] TF.zero_26 TF.arr_26 rfl rfl ?_)
 refine zcall s rfl rfl TF.goes_25 ?_
 rintro _ h4 ⟨p5, rfl, s⟩
 refine au 1 rfl ?_
 refine zg rfl (sem_buildAL [] [(.int .i64 (0)), (.int .i64 (0)), (.int .i64 (0)), (.int .i64 (0))] TF.zero_26 TF.arr_26 rfl rfl ?_)
 refine zcall s rfl rfl TF.goes_25 ?_
 rintro _ h6 ⟨p7, rfl, s⟩
 refine au 7 rfl ?_
 refine zcall s rfl rfl TF.goes_21 ?_
 rintro _ h8 ⟨i9, rfl, s⟩
 refine zu s rfl rfl rfl binI_neq_t binI_neq_f (fun s => ?_) fun s => ?_
 ·refine au 6 rfl ?_
  refine zcall s rfl rfl TF.goes_11 ?_
  rintro _ h10 ⟨i11, i12, rfl, s⟩
  refine au 9 rfl ?_
  refine zcall s rfl rfl TF.goes_11 ?_
  rintro _ h13 ⟨i14, i15, rfl, s⟩
  refine au 9 rfl ?_
  refine zt s rfl rfl rfl binI_eql_t binI_eql_f (fun s => ?_) fun s => ?_
  ·refine au 2 rfl ?_
   refine zt s rfl rfl rfl binI_eql_t binI_eql_f (fun s => ?_) fun s => ?_
   ·refine au 3 rfl ?_
    refine zcall s rfl rfl TF.goes_14 ?_
    rintro _ h16 ⟨b17, rfl, s⟩
    cases b17
    ·replace s := s.2 rfl
     refine au 10 rfl ?_
     exact zr (s.imp fun _ q => ⟨_, rfl, q⟩)
    ·replace s := s.1 rfl
     refine au 3 rfl ?_
     refine znil s rfl rfl fun A18 s => ?_
     refine au 1 rfl ?_
     refine zl s rfl rfl TF.agg_3 fun i20 s => ?_
     refine au 4 rfl ?_
     exact zr (s.imp fun _ q => ⟨_, rfl, q⟩)
   ·refine au 14 rfl ?_
    exact zr (s.imp fun _ q => ⟨_, rfl, q⟩)
  ·refine au 17 rfl ?_
   exact zr (s.imp fun _ q => ⟨_, rfl, q⟩)
 ·refine au 6 rfl ?_
  exact zr (s.imp fun _ q => ⟨_, rfl, q⟩)
theorem C_attempt_Attempt_Load.of {B : RO} {p1 : Option Addr} {i2 : Int} {h : Heap} {Q : Int → Int → Heap → Prop} (s : S_attempt_Attempt_Load B p1 i2 h Q) : C_attempt_Attempt_Load B p1 i2 h Q := by
 refine zspec Tryz.func11 [ResultVar.tmp 4, ResultVar.tmp 5] rfl rfl rfl rfl rfl ?_
 refine au 5 rfl ?_
 refine Run.seqJ (fun e h6 => Agree [(0, (.pointer p1)), (1, (.int .i64 (i2)))] e ∧ S_attempt_Attempt_Load_J1 B p1 i2 h6 Q) ?_ fun j5 => ?_
 ·rintro e h6 ⟨hag, s⟩
  refine Run.env hag ?_; clear hag
  refine au 4 rfl ?_
  refine znil s rfl rfl fun A7 s => ?_
  refine au 2 rfl ?_
  refine zl s rfl rfl TF.agg_91 fun p9 s => ?_
  refine au 1 rfl ?_
  refine zcall s rfl rfl TF.goes_39 ?_
  rintro _ h10 ⟨i11, b12, rfl, s⟩
  refine au 2 rfl ?_
  cases b12
  ·replace s := s.2 rfl
   refine au 1 rfl ?_
   refine au 14 rfl ?_
   refine zcall s rfl rfl TF.goes_40 ?_
   rintro _ h13 ⟨i14, rfl, s⟩
   refine au 5 rfl ?_
   refine zu s rfl rfl rfl binI_neq_t binI_neq_f (fun s => ?_) fun s => ?_
   ·refine au 6 rfl ?_
    refine znil s rfl rfl fun A15 s => ?_
    refine au 1 rfl ?_
    refine zl s rfl rfl TF.agg_29 fun p17 s => ?_
    refine znil s rfl rfl fun A18 s => ?_
    refine au 1 rfl ?_
    refine zl s rfl rfl TF.agg_39 fun p20 s => ?_
    refine au 1 rfl ?_
    refine zcall s rfl rfl TF.goes_41 ?_
    rintro _ h21 ⟨i22, i23, rfl, s⟩
    refine au 12 rfl ?_
    exact zr (s.imp fun _ q => ⟨_, _, rfl, q⟩)
   ·refine au 8 rfl ?_
    exact zr (s.imp fun _ q => ⟨_, _, rfl, q⟩)
  ·replace s := s.1 rfl
   refine au 1 rfl ?_
   refine au 14 rfl ?_
   exact zr (s.imp fun _ q => ⟨_, _, rfl, q⟩)
 refine au 4 rfl ?_
 by_cases hb24 : p1 = none
 ·replace s := s.1 hb24
  refine zg rfl (sem_ptrNilT p1 (.inl rfl) true rfl rfl TF.ptr_30 hb24 rfl ?_)
  refine au 8 rfl ?_
  exact zr (s.imp fun _ q => ⟨_, _, rfl, q⟩)
 ·replace s := s.2 hb24
  refine zg rfl (sem_ptrNilF p1 (.inl rfl) false rfl rfl TF.ptr_30 hb24 rfl ?_)
  refine au 6 rfl ?_
  refine zt s rfl rfl rfl binI_lss_t binI_lss_f (fun s => ?_) fun s => ?_
  ·refine au 12 rfl ?_
   exact zr (s.imp fun _ q => ⟨_, _, rfl, q⟩)
  ·refine au 2 rfl ?_
   refine zt s rfl rfl rfl binI_geq_t binI_geq_f (fun s => ?_) fun s => ?_
   ·refine au 9 rfl ?_
    exact zr (s.imp fun _ q => ⟨_, _, rfl, q⟩)
   ·refine au 6 rfl ?_
    exact Run.of_fin (s.imp fun h' s => j5 _ _ ⟨⟨rfl, rfl, trivial⟩, s⟩)
theorem C_attempt_Attempt_Valid.of {B : RO} {p1 : Option Addr} {h : Heap} {Q : Bool → Heap → Prop} (s : S_attempt_Attempt_Valid B p1 h Q) : C_attempt_Attempt_Valid B p1 h Q := by
 refine zspec Tryz.func13 [ResultVar.tmp 2] rfl rfl rfl rfl rfl ?_
 refine au 5 rfl ?_
 by_cases hb4 : p1 = none
 ·replace s := s.1 hb4
  refine Run.drawM (fun h' => True) [] ⟨[0, 1, 2, 4, 12, 20, 36, 4, 132, 260, 516, 1028, 2116, 4100, 16383], [32767, 32766, 32765, 32763, 32755, 32747, 32731, 32763, 32635, 32507, 32251, 31739, 30651, 28667, 24575], [0, 0, 0, 0, 0, 0, 0, 0, 0, 0, 0, 0, 0, 0, 0], 0⟩ (.q 0 (.q 1 (.q 2 (.q 3 (.q 4 (.q 5 (.q 6 (.q 7 (.q 8 (.q 9 (.q 10 (.x 11 (.x 12 (.q 13 (.q 14 .nil)) .no) .no)))))))))))) TF.mixed (by kernel_rfl) trivial ?_
  refine auT 1 rfl ?_
  refine zq rfl (fun _ hC => sem_ptrNilT p1 (.inr rfl) false rfl rfl TF.ptr_30 hb4 rfl ⟨rfl, rfl⟩) ?_
  refine auT 9 rfl ?_
  refine ⟨zon rfl ⟨fun _ => trivial, ?_⟩, trivial⟩
  refine ⟨zon rfl ⟨fun _ => trivial, ?_⟩, trivial⟩
  refine auT 2 rfl ?_
  exact zr (s.imp fun _ q => ⟨_, rfl, q⟩)
 ·replace s := s.2 hb4
  obtain ⟨A10, e11, s⟩ := s
  obtain ⟨p14, hl, s⟩ := s
  have f15 := hl
  obtain ⟨A17, e18, s⟩ := s
  obtain ⟨p21, hl, s⟩ := s
  have f22 := hl
  refine Run.drawM (fun h' => cellH B h' (Addr.add A10 1) = some (.pointer p14) ∧ cellH B h' A17 = some (.pointer p21) ∧ True) [] ⟨[0, 1, 2, 4, 12, 20, 36, 4, 132, 260, 516, 1028, 2116, 4100, 16383], [32767, 32766, 32765, 32763, 32755, 32747, 32731, 32763, 32635, 32507, 32251, 31739, 30651, 28667, 24575], [0, 0, 0, 0, 0, 0, 0, 0, 0, 0, 0, 0, 0, 0, 0], 0⟩ (.q 0 (.q 1 (.q 2 (.q 3 (.q 4 (.q 5 (.q 6 (.q 7 (.q 8 (.q 9 (.q 10 (.x 11 (.x 12 (.q 13 (.q 14 .nil)) .no) .no)))))))))))) TF.mixed (by kernel_rfl) ⟨f15, f22, trivial⟩ ?_
  refine auT 1 rfl ?_
  refine zq rfl (fun _ hC => sem_ptrNilF p1 (.inr rfl) true rfl rfl TF.ptr_30 hb4 rfl ⟨rfl, rfl⟩) ?_
  refine auT 2 rfl ?_
  refine zq rfl (fun _ hC => sem_nilCheck A10 (congrArg Value.pointer e11) ⟨rfl, rfl⟩) ?_
  refine auT 1 rfl ?_
  refine zq rfl (fun _ hC => sem_load1 (Addr.add A10 1) ((.pointer p14)) rfl TF.agg_69 hC.1 ⟨rfl, rfl⟩) ?_
  refine auT 1 rfl ?_
  refine zq rfl (fun _ hC => sem_nilCheck A17 (congrArg Value.pointer e18) ⟨rfl, rfl⟩) ?_
  refine auT 1 rfl ?_
  refine zq rfl (fun _ hC => sem_load1 A17 ((.pointer p21)) rfl TF.agg_29 hC.2.1 ⟨rfl, rfl⟩) ?_
  refine ⟨zo rfl (sem_callL [(.pointer p21)] (TF.goes_20) rfl rfl (Spec.mono s fun v h23 hv => ?_)), trivial⟩
  obtain ⟨l24, rfl, s⟩ := hv
  obtain ⟨g25, g26, s⟩ := s
  refine ⟨fun _ => ⟨g25, g26, trivial⟩, ?_⟩
  refine ⟨zo rfl (sem_callL [(.pointer p14), (.agg (List.toArray l24))] (TF.goes_42) rfl rfl (Spec.mono s fun v h27 hv => ?_)), trivial⟩
  obtain ⟨b28, rfl, s⟩ := hv
  obtain ⟨g29, g30, s⟩ := s
  refine ⟨fun _ => ⟨g29, g30, trivial⟩, ?_⟩
  refine auT 2 rfl ?_
  exact zr (s.imp fun _ q => ⟨_, rfl, q⟩)
theorem C_attempt_Attempt_Land.of {B : RO} {p1 : Option Addr} {h : Heap} {Q : Bool → Heap → Prop} (s : S_attempt_Attempt_Land B p1 h Q) : C_attempt_Attempt_Land B p1 h Q := by
 refine zspec Tryz.func14 [ResultVar.tmp 2] rfl rfl rfl rfl rfl ?_
 refine au 8 rfl ?_
 refine zcall s rfl rfl TF.goes_13 ?_
 rintro _ h3 ⟨b4, rfl, s⟩
 cases b4
 ·replace s := s.2 rfl
  refine au 7 rfl ?_
  exact zr (s.imp fun _ q => ⟨_, rfl, q⟩)
 ·replace s := s.1 rfl
  refine au 7 rfl ?_
  refine znil s rfl rfl fun A5 s => ?_
  refine au 1 rfl ?_
  refine zl s rfl rfl TF.agg_29 fun p7 s => ?_
  refine zal s rfl TF.zero_29 rfl fun k8 h9 s => ?_
  refine zs1 s rfl rfl rfl rfl TF.sz_29 fun h10 s => ?_
  refine au 3 rfl ?_
  refine zl s rfl rfl TF.agg_29 fun p11 s => ?_
  refine znil s rfl rfl fun A12 s => ?_
  refine au 1 rfl ?_
  refine zl s rfl rfl TF.agg_3 fun i14 s => ?_
  refine au 1 rfl ?_
  refine znil s rfl rfl fun A15 s => ?_
  refine au 1 rfl ?_
  refine zs1 s rfl rfl rfl rfl TF.sz_3 fun h17 s => ?_
  refine au 1 rfl ?_
  refine Run.seqJ (fun e h19 => Agree [(0, (.pointer p1)), (3, (.pointer (some ⟨k8, 0, none⟩)))] e ∧ S_attempt_Attempt_Land_J1 B p1 k8 h19 Q) ?_ fun j18 => ?_
  ·rintro e h19 ⟨hag, s⟩
   refine Run.env hag ?_; clear hag
   refine au 1 rfl ?_
   refine Run.drawM (fun h' => h' = h19) [13] ⟨[0, 1, 2, 4, 8, 0, 32, 64, 128, 0, 512, 1024, 2048, 4368], [16383, 16382, 16381, 16379, 16375, 16383, 16351, 16319, 16255, 16383, 15871, 15359, 14335, 12015], [0, 1, 3, 7, 15, 0, 32, 96, 224, 0, 512, 1536, 3584, 8191], 8192⟩ (.q 0 (.q 1 (.q 2 (.q 3 (.q 4 (.q 5 (.q 6 (.q 7 (.q 8 (.q 9 (.q 10 (.q 11 (.q 12 (.x 13 .nil .no)))))))))))))) TF.mixed (by kernel_rfl) rfl ?_
   refine auT 1 rfl ?_
   obtain ⟨A20, e21, s⟩ := s
   refine zqe rfl (sem_nilCheck A20 (congrArg Value.pointer e21) ⟨rfl, rfl⟩) ?_
   refine auT 2 rfl ?_
   obtain ⟨p22, hl, s⟩ := s
   refine zqe rfl (sem_load1 (Addr.add (Addr.add A20 2) 1) ((.pointer p22)) rfl TF.agg_92 hl ⟨rfl, rfl⟩) ?_
   obtain ⟨p23, hl, s⟩ := s
   refine zqe rfl (sem_load1 ⟨k8, 0, none⟩ ((.pointer p23)) rfl TF.agg_29 hl ⟨rfl, rfl⟩) ?_
   obtain ⟨A24, e25, s⟩ := s
   refine zqe rfl (sem_nilCheck A24 (congrArg Value.pointer e25) ⟨rfl, rfl⟩) ?_
   refine auT 1 rfl ?_
   obtain ⟨p26, hl, s⟩ := s
   refine zqe rfl (sem_load1 (Addr.add A24 1) ((.pointer p26)) rfl TF.agg_40 hl ⟨rfl, rfl⟩) ?_
   obtain ⟨p27, hl, s⟩ := s
   refine zqe rfl (sem_load1 ⟨k8, 0, none⟩ ((.pointer p27)) rfl TF.agg_29 hl ⟨rfl, rfl⟩) ?_
   obtain ⟨A28, e29, s⟩ := s
   refine zqe rfl (sem_nilCheck A28 (congrArg Value.pointer e29) ⟨rfl, rfl⟩) ?_
   refine auT 1 rfl ?_
   obtain ⟨i30, hl, s⟩ := s
   refine zqe rfl (sem_load1 (Addr.add A28 3) ((.int .i64 (i30))) rfl TF.agg_3 hl ⟨rfl, rfl⟩) ?_
   refine ⟨zo rfl (sem_callL [(.pointer p22), (.pointer p26), (.int .i64 (i30))] (TF.goes_45) rfl rfl (Spec.mono s fun v h31 hv => ?_)), trivial⟩
   obtain ⟨i32, rfl, s⟩ := hv
   refine ⟨fun hz => Bool.noConfusion hz, ?_⟩
   refine au 6 rfl ?_
   obtain ⟨J38, m36, h0, s⟩ := s
   refine Run.of_fin (h0.imp fun h' h0 => ?_)
   refine Run.loop (σ := Int × Nat) (fun x e h => J38 x.1 x.2 h ∧ Agree [(0, (.pointer p1)), (3, (.pointer (some ⟨k8, 0, none⟩))), (57, (.int .i64 (x.1)))] e) (fun x => x.2) ((0), m36) ⟨h0, ⟨rfl, rfl, rfl, trivial⟩⟩ ?_; clear h0
   rintro ⟨i33, m35⟩ e h34 ⟨hJ, hag⟩ ih37
   have s := s i33 m35 h34 hJ; clear hJ
   refine Run.env hag ?_; clear hag
   refine au 2 rfl ?_
   refine zt s rfl rfl rfl binI_lss_t binI_lss_f (fun s => ?_) fun s => ?_
   ·refine au 14 rfl ?_
    refine znil s rfl rfl fun A39 s => ?_
    refine au 2 rfl ?_
    refine zl s rfl rfl TF.agg_93 fun p41 s => ?_
    refine au 1 rfl ?_
    refine zcall s rfl rfl TF.goes_46 ?_
    rintro _ h42 ⟨i43, rfl, s⟩
    refine au 5 rfl ?_
    refine zt s rfl rfl rfl binI_gtr_t binI_gtr_f (fun s => ?_) fun s => ?_
    ·refine au 4 rfl ?_
     refine zl s rfl rfl TF.agg_29 fun p44 s => ?_
     refine znil s rfl rfl fun A45 s => ?_
     refine au 1 rfl ?_
     refine zl s rfl rfl TF.agg_41 fun p47 s => ?_
     refine au 1 rfl ?_
     refine zcall s rfl rfl TF.goes_47 ?_
     rintro _ h48 ⟨i49, i50, rfl, s⟩
     refine au 6 rfl ?_
     refine Run.drawM (fun h' => h' = h48) [12] ⟨[0, 1, 2, 4, 0, 0, 0, 96, 0, 256, 512, 1024, 2200], [8191, 8190, 8189, 8187, 8191, 8191, 8191, 8095, 8191, 7935, 7679, 7167, 5991], [0, 1, 3, 7, 0, 0, 0, 96, 0, 256, 768, 1792, 4095], 4096⟩ (.q 0 (.q 1 (.q 2 (.q 3 (.q 4 (.q 5 (.q 6 (.q 7 (.q 8 (.q 9 (.q 10 (.q 11 (.x 12 .nil .no))))))))))))) TF.mixed (by kernel_rfl) rfl ?_
     obtain ⟨p51, hl, s⟩ := s
     refine zqe rfl (sem_load1 ⟨k8, 0, none⟩ ((.pointer p51)) rfl TF.agg_29 hl ⟨rfl, rfl⟩) ?_
     obtain ⟨A52, e53, s⟩ := s
     refine zqe rfl (sem_nilCheck A52 (congrArg Value.pointer e53) ⟨rfl, rfl⟩) ?_
     refine auT 1 rfl ?_
     obtain ⟨p54, hl, s⟩ := s
     refine zqe rfl (sem_load1 (Addr.add A52 2) ((.pointer p54)) rfl TF.agg_41 hl ⟨rfl, rfl⟩) ?_
     refine auT 4 rfl ?_
     obtain ⟨p55, hl, s⟩ := s
     refine zqe rfl (sem_load1 ⟨k8, 0, none⟩ ((.pointer p55)) rfl TF.agg_29 hl ⟨rfl, rfl⟩) ?_
     obtain ⟨A56, e57, s⟩ := s
     refine zqe rfl (sem_nilCheck A56 (congrArg Value.pointer e57) ⟨rfl, rfl⟩) ?_
     refine auT 1 rfl ?_
     obtain ⟨i58, hl, s⟩ := s
     refine zqe rfl (sem_load1 (Addr.add A56 3) ((.int .i64 (i58))) rfl TF.agg_3 hl ⟨rfl, rfl⟩) ?_
     refine ⟨zo rfl (sem_callL [(.pointer p54), (.int .i64 (i33)), (.int .i64 (IntKind.wrap .i64 ((i49) + (i43)))), (.int .i64 (i58))] (TF.goes_48) rfl rfl (Spec.mono s fun v h59 hv => ?_)), trivial⟩
     obtain ⟨b60, rfl, s⟩ := hv
     refine ⟨fun hz => Bool.noConfusion hz, ?_⟩
     refine au 5 rfl ?_
     exact Run.of_fin (s.imp fun h' ⟨m', hm, s⟩ => ih37 ((IntKind.wrap .i64 ((i33) + (1))), m') _ _ ⟨s, ⟨rfl, rfl, rfl, trivial⟩⟩ hm)
    ·refine au 8 rfl ?_
     exact Run.of_fin (s.imp fun h' ⟨m', hm, s⟩ => ih37 ((IntKind.wrap .i64 ((i33) + (1))), m') _ _ ⟨s, ⟨rfl, rfl, rfl, trivial⟩⟩ hm)
   ·refine au 8 rfl ?_
    exact zr (s.imp fun _ q => ⟨_, rfl, q⟩)
  refine au 3 rfl ?_
  refine znil s rfl rfl fun A61 s => ?_
  refine au 2 rfl ?_
  refine zl s rfl rfl TF.agg_91 fun p63 s => ?_
  refine zcall s rfl rfl TF.goes_43 ?_
  rintro v65 h64 ⟨_, rfl, s⟩
  refine au 2 rfl ?_
  obtain ⟨xs72, G68, J71, hit, hins, hG, h0, s, hR⟩ := s
  refine Run.of_fin (h0.imp fun h' h0 => ?_)
  refine Run.range (v65) (xs72.map (fun x : Int × Int => [(.int .i64 (x.1)), (.int .i64 (x.2))])) G68 J71 rfl hit hins hG h0 rfl (fun a ha => by obtain ⟨x, _, rfl⟩ := List.mem_map.1 ha; rfl) ?_ ?_
  ·rintro q70 args h69 ha hJ
   obtain ⟨⟨i66, i67⟩, hx, rfl⟩ := Option.map_eq_some_iff.1 ((List.getElem?_map ..).symm.trans ha)
   have s := s q70 h69 i66 i67 hx hJ; clear hJ hx ha
   refine zput rfl ?_
   refine au 7 rfl ?_
   refine Run.begin ⟨rfl, ?_⟩
   refine au 1 rfl ?_
   refine Run.drawM (fun h' => h' = h69) [10] ⟨[0, 1, 2, 4, 0, 0, 0, 64, 128, 256, 568], [2047, 2046, 2045, 2043, 2047, 2047, 2047, 1983, 1919, 1791, 1479], [0, 1, 3, 7, 0, 0, 0, 64, 192, 448, 1023], 1024⟩ (.q 0 (.q 1 (.q 2 (.q 3 (.q 4 (.q 5 (.q 6 (.q 7 (.q 8 (.q 9 (.x 10 .nil .no))))))))))) TF.mixed (by kernel_rfl) rfl ?_
   obtain ⟨p73, hl, s⟩ := s
   refine zqe rfl (sem_load1 ⟨k8, 0, none⟩ ((.pointer p73)) rfl TF.agg_29 hl ⟨rfl, rfl⟩) ?_
   obtain ⟨A74, e75, s⟩ := s
   refine zqe rfl (sem_nilCheck A74 (congrArg Value.pointer e75) ⟨rfl, rfl⟩) ?_
   refine auT 1 rfl ?_
   obtain ⟨p76, hl, s⟩ := s
   refine zqe rfl (sem_load1 A74 ((.pointer p76)) rfl TF.agg_39 hl ⟨rfl, rfl⟩) ?_
   refine auT 2 rfl ?_
   obtain ⟨p77, hl, s⟩ := s
   refine zqe rfl (sem_load1 ⟨k8, 0, none⟩ ((.pointer p77)) rfl TF.agg_29 hl ⟨rfl, rfl⟩) ?_
   obtain ⟨A78, e79, s⟩ := s
   refine zqe rfl (sem_nilCheck A78 (congrArg Value.pointer e79) ⟨rfl, rfl⟩) ?_
   refine auT 1 rfl ?_
   obtain ⟨i80, hl, s⟩ := s
   refine zqe rfl (sem_load1 (Addr.add A78 3) ((.int .i64 (i80))) rfl TF.agg_3 hl ⟨rfl, rfl⟩) ?_
   refine ⟨zo rfl (sem_callL [(.pointer p76), (.int .i64 (i66)), (.int .i64 (i67)), (.int .i64 (i80))] (TF.goes_44) rfl rfl (Spec.mono s fun v h81 hv => ?_)), trivial⟩
   obtain ⟨b82, rfl, s⟩ := hv
   refine ⟨fun hz => Bool.noConfusion hz, ?_⟩
   refine au 1 rfl ?_
   refine Run.of_fin (s.imp fun h' s => ?_)
   exact Run.fall (.inl ⟨rfl, s⟩)
  ·intro h69 hJ
   have s := hR h69 (by simpa using hJ); clear hJ hR
   refine au 1 rfl ?_
   exact Run.of_fin (s.imp fun h' s => j18 _ _ ⟨⟨rfl, rfl, trivial⟩, s⟩)
theorem C_countermandlaw20_things.of {B : RO} {p1 : Option Addr} {h : Heap} {Q : List Value → ByteArray → ByteArray → ByteArray → Heap → Prop} (s : S_countermandlaw20_things B p1 h Q) : C_countermandlaw20_things B p1 h Q := by
 refine zspec Tryz.func16 [ResultVar.cell 2 55, ResultVar.cell 3 56] rfl rfl rfl rfl rfl ?_
 refine au 2 rfl ?_
 refine zal s rfl TF.zero_55 rfl fun k6 h7 s => ?_
 refine zal s rfl TF.zero_56 rfl fun k8 h9 s => ?_
 refine au 3 rfl ?_
 refine zal s rfl TF.zero_55 rfl fun k10 h11 s => ?_
 refine au 3 rfl ?_
 refine zal s rfl TF.zero_56 rfl fun k12 h13 s => ?_
 refine au 1 rfl ?_
 refine Run.seqJ (fun e h15 => Agree [(0, (.pointer p1)), (2, (.pointer (some ⟨k6, 0, none⟩))), (3, (.pointer (some ⟨k8, 0, none⟩))), (4, (.pointer (some ⟨k10, 0, none⟩))), (5, (.pointer (some ⟨k12, 0, none⟩)))] e ∧ S_countermandlaw20_things_J1 B p1 k6 k8 k10 k12 h15 Q) ?_ fun j14 => ?_
 ·rintro e h15 ⟨hag, s⟩
  refine Run.env hag ?_; clear hag
  refine Run.seqJ (fun e h17 => Agree [(0, (.pointer p1)), (2, (.pointer (some ⟨k6, 0, none⟩))), (3, (.pointer (some ⟨k8, 0, none⟩))), (4, (.pointer (some ⟨k10, 0, none⟩))), (5, (.pointer (some ⟨k12, 0, none⟩)))] e ∧ S_countermandlaw20_things_J2 B p1 k6 k8 k10 k12 h17 Q) ?_ fun j16 => ?_
  ·rintro e h17 ⟨hag, s⟩
   refine Run.env hag ?_; clear hag
   refine au 6 rfl ?_
   obtain ⟨J23, m21, h0, s⟩ := s
   refine Run.of_fin (h0.imp fun h' h0 => ?_)
   refine Run.loop (σ := Int × Nat) (fun x e h => J23 x.1 x.2 h ∧ Agree [(0, (.pointer p1)), (2, (.pointer (some ⟨k6, 0, none⟩))), (3, (.pointer (some ⟨k8, 0, none⟩))), (4, (.pointer (some ⟨k10, 0, none⟩))), (5, (.pointer (some ⟨k12, 0, none⟩))), (44, (.int .i64 (x.1)))] e) (fun x => x.2) ((0), m21) ⟨h0, ⟨rfl, rfl, rfl, rfl, rfl, rfl, trivial⟩⟩ ?_; clear h0
   rintro ⟨i18, m20⟩ e h19 ⟨hJ, hag⟩ ih22
   have s := s i18 m20 h19 hJ; clear hJ
   refine Run.env hag ?_; clear hag
   refine au 2 rfl ?_
   refine zt s rfl rfl rfl binI_lss_t binI_lss_f (fun s => ?_) fun s => ?_
   ·refine au 15 rfl ?_
    refine znil s rfl rfl fun A24 s => ?_
    refine au 1 rfl ?_
    refine zl s rfl rfl TF.agg_41 fun p26 s => ?_
    refine au 1 rfl ?_
    refine zcall s rfl rfl TF.goes_47 ?_
    rintro _ h27 ⟨i28, i29, rfl, s⟩
    refine au 4 rfl ?_
    obtain ⟨hi0, hi1, s⟩ := s
    refine zg rfl (sem_indexAddrA ⟨k10, 20, none⟩ .i64 (i18) rfl rfl TF.arr_53 hi0 hi1 ?_)
    refine zs1 s rfl rfl rfl rfl TF.sz_3 fun h30 s => ?_
    refine au 4 rfl ?_
    refine znil s rfl rfl fun A31 s => ?_
    refine au 1 rfl ?_
    refine zl s rfl rfl TF.agg_41 fun p33 s => ?_
    refine au 1 rfl ?_
    refine zcall s rfl rfl TF.goes_50 ?_
    rintro _ h34 ⟨s35, rfl, s⟩
    obtain ⟨hi0, hi1, s⟩ := s
    refine zg rfl (sem_indexAddrA ⟨k12, 0, none⟩ .i64 (i18) rfl rfl TF.arr_56 hi0 hi1 ?_)
    refine zs1 s rfl rfl rfl rfl TF.sz_9 fun h36 s => ?_
    refine au 6 rfl ?_
    exact Run.of_fin (s.imp fun h' ⟨m', hm, s⟩ => ih22 ((IntKind.wrap .i64 ((i18) + (1))), m') _ _ ⟨s, ⟨rfl, rfl, rfl, rfl, rfl, rfl, trivial⟩⟩ hm)
   ·refine au 5 rfl ?_
    obtain ⟨l37, nl37, hl, s⟩ := s
    have f38 := hl
    obtain ⟨s39, s40, s41, hl, s⟩ := s
    have f42 := hl
    refine Run.drawM (fun h' => CellsAt B h' ⟨k10, 0, none⟩ 0 l37 ∧ CellsAt B h' ⟨k12, 0, none⟩ 0 [(.string s39), (.string s40), (.string s41)] ∧ True) [3] ⟨[0, 0, 1, 7], [15, 15, 14, 13], [0, 0, 1, 7], 8⟩ (.q 0 (.q 1 (.x 2 (.x 3 .nil .no) .no))) TF.mixed (by kernel_rfl) ⟨f38, f42, trivial⟩ ?_
    refine zq rfl (fun _ hC => sem_loadN ⟨k10, 0, none⟩ l37 rfl TF.agg_55 (TF.sz_55.trans (congrArg some nl37.symm)) hC.1 ⟨rfl, rfl⟩) ?_
    refine zq rfl (fun _ hC => sem_loadN ⟨k12, 0, none⟩ [(.string s39), (.string s40), (.string s41)] rfl TF.agg_56 TF.sz_56 hC.2.1 ⟨rfl, rfl⟩) ?_
    obtain ⟨hln, h43, hst, s⟩ := s
    refine ⟨zo0 rfl (sem_storeN ⟨k6, 0, none⟩ l37 h43 rfl rfl (TF.sz_55.trans (congrArg some hln.symm)) hst ?_), trivial⟩
    obtain ⟨g44, g45, s⟩ := s
    refine ⟨fun _ => ⟨g44, g45, trivial⟩, ?_⟩
    obtain ⟨h46, hst, s⟩ := s
    refine ⟨zo0 rfl (sem_storeN ⟨k8, 0, none⟩ [(.string s39), (.string s40), (.string s41)] h46 rfl rfl TF.sz_56 hst ?_), trivial⟩
    refine ⟨fun hz => Bool.noConfusion hz, ?_⟩
    obtain ⟨l47, hln0, hl0, s⟩ := s
    obtain ⟨s48, s49, s50, hl1, s⟩ := s
    exact zr (⟨⟨k6, 0, none⟩, (.agg (List.toArray l47)), rfl, loadHN TF.agg_55 (TF.sz_55.trans (congrArg some hln0.symm)) hl0, ⟨⟨k8, 0, none⟩, (.agg #[(.string s48), (.string s49), (.string s50)]), rfl, loadHN TF.agg_56 TF.sz_56 hl1, s.imp fun _ q => ⟨_, _, _, _, rfl, q⟩⟩⟩)
  refine au 5 rfl ?_
  obtain ⟨J56, m54, h0, s⟩ := s
  refine Run.of_fin (h0.imp fun h' h0 => ?_)
  refine Run.loop (σ := Int × Nat) (fun x e h => J56 x.1 x.2 h ∧ Agree [(0, (.pointer p1)), (2, (.pointer (some ⟨k6, 0, none⟩))), (3, (.pointer (some ⟨k8, 0, none⟩))), (4, (.pointer (some ⟨k10, 0, none⟩))), (5, (.pointer (some ⟨k12, 0, none⟩))), (27, (.int .i64 (x.1)))] e) (fun x => x.2) ((0), m54) ⟨h0, ⟨rfl, rfl, rfl, rfl, rfl, rfl, trivial⟩⟩ ?_; clear h0
  rintro ⟨i51, m53⟩ e h52 ⟨hJ, hag⟩ ih55
  have s := s i51 m53 h52 hJ; clear hJ
  refine Run.env hag ?_; clear hag
  refine au 2 rfl ?_
  refine zt s rfl rfl rfl binI_lss_t binI_lss_f (fun s => ?_) fun s => ?_
  ·refine au 14 rfl ?_
   refine znil s rfl rfl fun A57 s => ?_
   refine au 1 rfl ?_
   refine zl s rfl rfl TF.agg_40 fun p59 s => ?_
   refine au 1 rfl ?_
   refine zcall s rfl rfl TF.goes_49 ?_
   rintro _ h60 ⟨b61, s62, i63, rfl, s⟩
   refine au 3 rfl ?_
   refine zal s rfl TF.zero_119 rfl fun k64 h65 s => ?_
   refine zsn s rfl rfl rfl TF.sz_119 rfl fun h66 s => ?_
   refine au 4 rfl ?_
   obtain ⟨b67, s68, hl, s⟩ := s
   refine zn hl rfl rfl TF.agg_119 TF.sz_119 rfl ?_
   refine au 1 rfl ?_
   obtain ⟨hi0, hi1, s⟩ := s
   refine zg rfl (sem_indexAddrA ⟨k10, 8, none⟩ .i64 (i51) rfl rfl TF.arr_52 hi0 hi1 ?_)
   refine zsn s rfl rfl rfl TF.sz_51 rfl fun h69 s => ?_
   refine au 6 rfl ?_
   exact Run.of_fin (s.imp fun h' ⟨m', hm, s⟩ => ih55 ((IntKind.wrap .i64 ((i51) + (1))), m') _ _ ⟨s, ⟨rfl, rfl, rfl, rfl, rfl, rfl, trivial⟩⟩ hm)
  ·refine au 4 rfl ?_
   exact Run.of_fin (s.imp fun h' s => j16 _ _ ⟨⟨rfl, rfl, rfl, rfl, rfl, trivial⟩, s⟩)
 refine au 5 rfl ?_
 obtain ⟨J75, m73, h0, s⟩ := s
 refine Run.of_fin (h0.imp fun h' h0 => ?_)
 refine Run.loop (σ := Int × Nat) (fun x e h => J75 x.1 x.2 h ∧ Agree [(0, (.pointer p1)), (2, (.pointer (some ⟨k6, 0, none⟩))), (3, (.pointer (some ⟨k8, 0, none⟩))), (4, (.pointer (some ⟨k10, 0, none⟩))), (5, (.pointer (some ⟨k12, 0, none⟩))), (11, (.int .i64 (x.1)))] e) (fun x => x.2) ((0), m73) ⟨h0, ⟨rfl, rfl, rfl, rfl, rfl, rfl, trivial⟩⟩ ?_; clear h0
 rintro ⟨i70, m72⟩ e h71 ⟨hJ, hag⟩ ih74
 have s := s i70 m72 h71 hJ; clear hJ
 refine Run.env hag ?_; clear hag
 refine au 2 rfl ?_
 refine zt s rfl rfl rfl binI_lss_t binI_lss_f (fun s => ?_) fun s => ?_
 ·refine au 14 rfl ?_
  refine znil s rfl rfl fun A76 s => ?_
  refine au 1 rfl ?_
  refine zl s rfl rfl TF.agg_39 fun p78 s => ?_
  refine au 1 rfl ?_
  refine zcall s rfl rfl TF.goes_41 ?_
  rintro _ h79 ⟨i80, i81, rfl, s⟩
  refine au 4 rfl ?_
  obtain ⟨hi0, hi1, s⟩ := s
  refine zg rfl (sem_indexAddrA ⟨k10, 0, none⟩ .i64 (i70) rfl rfl TF.arr_49 hi0 hi1 ?_)
  refine zs1 s rfl rfl rfl rfl TF.sz_3 fun h82 s => ?_
  refine au 6 rfl ?_
  exact Run.of_fin (s.imp fun h' ⟨m', hm, s⟩ => ih74 ((IntKind.wrap .i64 ((i70) + (1))), m') _ _ ⟨s, ⟨rfl, rfl, rfl, rfl, rfl, rfl, trivial⟩⟩ hm)
 ·refine au 4 rfl ?_
  exact Run.of_fin (s.imp fun h' s => j14 _ _ ⟨⟨rfl, rfl, rfl, rfl, rfl, trivial⟩, s⟩)
theorem C_countermandlaw20_does.of {B : RO} {p1 : Option Addr} {i2 : Int} {i3 : Int} {i4 : Int} {i5 : Int} {h : Heap} {Q : Int → Int → Heap → Prop} (s : S_countermandlaw20_does B p1 i2 i3 i4 i5 h Q) : C_countermandlaw20_does B p1 i2 i3 i4 i5 h Q := by
 refine zspec Tryz.func17 [ResultVar.tmp 4, ResultVar.tmp 5] rfl rfl rfl rfl rfl ?_
 refine au 2 rfl ?_
 refine zbn s rfl rfl rfl fun k8 h9 s => ?_
 refine au 7 rfl ?_
 refine zl s rfl rfl TF.agg_3 fun i10 s => ?_
 refine au 4 rfl ?_
 refine zt s rfl rfl rfl binI_eql_t binI_eql_f (fun s => ?_) fun s => ?_
 ·refine au 7 rfl ?_
  refine zl s rfl rfl TF.agg_3 fun i11 s => ?_
  refine zcall s rfl rfl TF.goes_11 ?_
  rintro _ h12 ⟨i13, i14, rfl, s⟩
  refine au 5 rfl ?_
  exact zr (s.imp fun _ q => ⟨_, _, rfl, q⟩)
 ·refine au 5 rfl ?_
  refine zt s rfl rfl rfl binI_eql_t binI_eql_f (fun s => ?_) fun s => ?_
  ·refine au 7 rfl ?_
   refine zl s rfl rfl TF.agg_3 fun i15 s => ?_
   refine au 1 rfl ?_
   refine zl s rfl rfl TF.agg_3 fun i16 s => ?_
   refine zcall s rfl rfl TF.goes_21 ?_
   rintro _ h17 ⟨i18, rfl, s⟩
   refine au 3 rfl ?_
   exact zr (s.imp fun _ q => ⟨_, _, rfl, q⟩)
  ·refine au 5 rfl ?_
   refine zt s rfl rfl rfl binI_eql_t binI_eql_f (fun s => ?_) fun s => ?_
   ·refine au 7 rfl ?_
    refine zl s rfl rfl TF.agg_3 fun i19 s => ?_
    refine au 1 rfl ?_
    refine zl s rfl rfl TF.agg_3 fun i20 s => ?_
    refine zcall s rfl rfl TF.goes_51 ?_
    rintro _ h21 ⟨i22, i23, rfl, s⟩
    refine au 5 rfl ?_
    exact zr (s.imp fun _ q => ⟨_, _, rfl, q⟩)
   ·refine au 5 rfl ?_
    refine zt s rfl rfl rfl binI_eql_t binI_eql_f (fun s => ?_) fun s => ?_
    ·refine au 7 rfl ?_
     refine zl s rfl rfl TF.agg_3 fun i24 s => ?_
     refine au 1 rfl ?_
     refine zl s rfl rfl TF.agg_3 fun i25 s => ?_
     refine au 1 rfl ?_
     refine zl s rfl rfl TF.agg_5 fun i26 s => ?_
     refine zcall s rfl rfl TF.goes_52 ?_
     rintro _ h27 ⟨i28, rfl, s⟩
     refine au 3 rfl ?_
     exact zr (s.imp fun _ q => ⟨_, _, rfl, q⟩)
    ·refine au 5 rfl ?_
     refine zt s rfl rfl rfl binI_eql_t binI_eql_f (fun s => ?_) fun s => ?_
     ·refine au 7 rfl ?_
      refine zl s rfl rfl TF.agg_3 fun i29 s => ?_
      refine zcall s rfl rfl TF.goes_53 ?_
      rintro _ h30 ⟨i31, rfl, s⟩
      refine au 3 rfl ?_
      exact zr (s.imp fun _ q => ⟨_, _, rfl, q⟩)
     ·refine au 5 rfl ?_
      refine zt s rfl rfl rfl binI_eql_t binI_eql_f (fun s => ?_) fun s => ?_
      ·refine au 7 rfl ?_
       refine zl s rfl rfl TF.agg_3 fun i32 s => ?_
       refine zcall s rfl rfl TF.goes_54 ?_
       rintro _ h33 ⟨i34, rfl, s⟩
       refine au 3 rfl ?_
       exact zr (s.imp fun _ q => ⟨_, _, rfl, q⟩)
      ·refine au 5 rfl ?_
       refine zt s rfl rfl rfl binI_eql_t binI_eql_f (fun s => ?_) fun s => ?_
       ·refine au 7 rfl ?_
        refine zl s rfl rfl TF.agg_3 fun i35 s => ?_
        refine au 1 rfl ?_
        refine zl s rfl rfl TF.agg_3 fun i36 s => ?_
        refine zcall s rfl rfl TF.goes_55 ?_
        rintro _ h37 ⟨i38, rfl, s⟩
        refine au 3 rfl ?_
        exact zr (s.imp fun _ q => ⟨_, _, rfl, q⟩)
       ·refine au 5 rfl ?_
        refine zt s rfl rfl rfl binI_eql_t binI_eql_f (fun s => ?_) fun s => ?_
        ·refine au 7 rfl ?_
         refine zl s rfl rfl TF.agg_3 fun i39 s => ?_
         refine au 1 rfl ?_
         refine zl s rfl rfl TF.agg_3 fun i40 s => ?_
         refine zcall s rfl rfl TF.goes_56 ?_
         rintro _ h41 ⟨i42, rfl, s⟩
         refine au 3 rfl ?_
         exact zr (s.imp fun _ q => ⟨_, _, rfl, q⟩)
        ·refine au 5 rfl ?_
         refine zt s rfl rfl rfl binI_eql_t binI_eql_f (fun s => ?_) fun s => ?_
         ·refine au 7 rfl ?_
          refine zl s rfl rfl TF.agg_3 fun i43 s => ?_
          refine zcall s rfl rfl TF.goes_57 ?_
          rintro _ h44 ⟨i45, i46, rfl, s⟩
          refine au 5 rfl ?_
          exact zr (s.imp fun _ q => ⟨_, _, rfl, q⟩)
         ·refine au 10 rfl ?_
          exact zr (s.imp fun _ q => ⟨_, _, rfl, q⟩)
theorem C_feed_Feed_Arrive.of {B : RO} {p1 : Option Addr} {i2 : Int} {s3 : ByteArray} {h : Heap} {Q : Int → Heap → Prop} (s : S_feed_Feed_Arrive B p1 i2 s3 h Q) : C_feed_Feed_Arrive B p1 i2 s3 h Q := by
 refine zspec Tryz.func18 [ResultVar.tmp 6] rfl rfl rfl rfl rfl ?_
 refine au 4 rfl ?_
 refine Run.seqJ (fun e h6 => Agree [(0, (.pointer p1)), (1, (.int .i64 (i2))), (2, (.string s3))] e ∧ S_feed_Feed_Arrive_J1 B p1 i2 s3 h6 Q) ?_ fun j5 => ?_
 ·rintro e h6 ⟨hag, s⟩
  refine Run.env hag ?_; clear hag
  refine au 1 rfl ?_
  refine Run.drawM (fun h' => h' = h6) [11] ⟨[0, 0, 1, 4, 10, 16, 0, 96, 1, 256, 767, 1279], [4095, 4095, 4094, 4091, 4085, 4079, 4095, 3999, 4094, 3839, 3581, 2943], [0, 0, 1, 5, 15, 31, 0, 127, 1, 257, 1023, 2047], 2048⟩ (.q 0 (.q 1 (.q 2 (.q 3 (.q 4 (.q 5 (.q 6 (.q 7 (.q 8 (.q 9 (.q 10 (.x 11 .nil .no)))))))))))) TF.mixed (by kernel_rfl) rfl ?_
  refine auT 2 rfl ?_
  obtain ⟨A7, e8, s⟩ := s
  refine zqe rfl (sem_nilCheck A7 (congrArg Value.pointer e8) ⟨rfl, rfl⟩) ?_
  refine auT 1 rfl ?_
  obtain ⟨hi0, hi1, s⟩ := s
  refine zqe rfl (sem_indexAddrA A7 .i64 (i2) rfl rfl TF.arr_56 hi0 hi1 ⟨rfl, rfl⟩) ?_
  obtain ⟨s9, hl, s⟩ := s
  refine zqe rfl (sem_load1 (Addr.add A7 (Int.toNat (i2) * 1)) ((.string s9)) rfl TF.agg_9 hl ⟨rfl, rfl⟩) ?_
  refine auT 1 rfl ?_
  obtain ⟨hi0, s⟩ := s
  refine zqe rfl (sem_strAdd s9 s3 rfl rfl hi0 ⟨rfl, rfl⟩) ?_
  obtain ⟨A10, e11, s⟩ := s
  refine zqe rfl (sem_nilCheck A10 (congrArg Value.pointer e11) ⟨rfl, rfl⟩) ?_
  refine auT 1 rfl ?_
  obtain ⟨hi0, hi1, s⟩ := s
  refine zqe rfl (sem_indexAddrA A10 .i64 (i2) rfl rfl TF.arr_56 hi0 hi1 ⟨rfl, rfl⟩) ?_
  obtain ⟨h12, hst, s⟩ := s
  refine ⟨zo0 rfl (sem_store1 (Addr.add A10 (Int.toNat (i2) * 1)) ((.string (s9 ++ s3))) h12 rfl rfl rfl TF.sz_9 hst ?_), trivial⟩
  refine ⟨fun hz => Bool.noConfusion hz, ?_⟩
  refine au 4 rfl ?_
  exact zr (s.imp fun _ q => ⟨_, rfl, q⟩)
 refine au 4 rfl ?_
 by_cases hb13 : p1 = none
 ·replace s := s.1 hb13
  refine zg rfl (sem_ptrNilT p1 (.inl rfl) true rfl rfl TF.ptr_41 hb13 rfl ?_)
  refine au 7 rfl ?_
  exact zr (s.imp fun _ q => ⟨_, rfl, q⟩)
 ·replace s := s.2 hb13
  refine zg rfl (sem_ptrNilF p1 (.inl rfl) false rfl rfl TF.ptr_41 hb13 rfl ?_)
  refine au 7 rfl ?_
  refine zcall s rfl rfl TF.goes_58 ?_
  rintro _ h14 ⟨b15, rfl, s⟩
  cases b15
  ·replace s := s.2 rfl
   refine au 8 rfl ?_
   exact zr (s.imp fun _ q => ⟨_, rfl, q⟩)
  ·replace s := s.1 rfl
   refine au 7 rfl ?_
   refine zg rfl (sem_lenStr s3 rfl TF.isStr_9 ?_)
   refine au 2 rfl ?_
   refine znil s rfl rfl fun A16 s => ?_
   refine au 1 rfl ?_
   obtain ⟨hi0, hi1, s⟩ := s
   refine zg rfl (sem_indexAddrA A16 .i64 (i2) rfl rfl TF.arr_56 hi0 hi1 ?_)
   refine zl s rfl rfl TF.agg_9 fun s18 s => ?_
   refine zg rfl (sem_lenStr s18 rfl TF.isStr_9 ?_)
   refine au 1 rfl ?_
   refine zt s rfl rfl rfl binI_gtr_t binI_gtr_f (fun s => ?_) fun s => ?_
   ·refine au 7 rfl ?_
    exact zr (s.imp fun _ q => ⟨_, rfl, q⟩)
   ·refine au 5 rfl ?_
    exact Run.of_fin (s.imp fun h' s => j5 _ _ ⟨⟨rfl, rfl, rfl, trivial⟩, s⟩)
theorem C_countermandref20_Do.of {B : RO} {l1 : List Value} {s2 : ByteArray} {s3 : ByteArray} {s4 : ByteArray} {a5 : Option Addr} {n6 : Nat} {c7 : Nat} {h : Heap} {Q : Int → List Value → Heap → Prop} (s : S_countermandref20_Do B l1 s2 s3 s4 a5 n6 c7 h Q) : C_countermandref20_Do B l1 s2 s3 s4 a5 n6 c7 h Q := by
 refine zspec Tryz.func19 [ResultVar.tmp 6, ResultVar.cell 7 55] rfl rfl rfl rfl rfl ?_
 refine au 2 rfl ?_
 refine zg rfl (sem_boxNN l1 rfl (fun k10 hb1 hb2 h11 hb3 => ?_))
 have s := s k10 hb1 hb2 h11 hb3
 refine zbn s rfl rfl rfl fun k12 h13 s => ?_
 refine au 1 rfl ?_
 refine zal s rfl TF.zero_55 rfl fun k14 h15 s => ?_
 refine au 4 rfl ?_
 obtain ⟨l16, nl16, hl, s⟩ := s
 refine zg rfl (sem_loadN ⟨k10, 8, none⟩ l16 rfl TF.agg_52 (TF.sz_52.trans (congrArg some nl16.symm)) hl ?_)
 refine au 1 rfl ?_
 obtain ⟨l17, nl17, hl, s⟩ := s
 refine zg rfl (sem_loadN ⟨k10, 8, none⟩ l17 rfl TF.agg_52 (TF.sz_52.trans (congrArg some nl17.symm)) hl ?_)
 refine zg rfl (sem_buildS2 l16 l17 [(.bool false), (.bool false), (.bool false), (.bool false), (.bool false), (.bool false)] TF.zero_132 TF.places_132 rfl nl16 nl17 rfl rfl rfl ?_)
 refine zg rfl (sem_boxNN (l16 ++ l17 ++ [(.bool false), (.bool false), (.bool false), (.bool false), (.bool false), (.bool false)]) rfl (fun k18 hb1 hb2 h19 hb3 => ?_))
 have s := s k18 hb1 hb2 h19 hb3
 refine au 6 rfl ?_
 refine Run.seqJ (fun e h22 => ∃ i21 : Int, Agree [(3, (.pointer (some ⟨k10, 0, none⟩))), (7, (.pointer (some ⟨k14, 0, none⟩))), (8, (.pointer (some ⟨k18, 0, none⟩))), (9, (.int .i64 (i21)))] e ∧ S_countermandref20_Do_J1 B k10 k14 k18 i21 h22 Q) ?_ fun j20 => ?_
 ·rintro e h22 ⟨i21, hag, s⟩
  refine Run.env hag ?_; clear hag
  refine au 5 rfl ?_
  obtain ⟨l23, nl23, hl, s⟩ := s
  refine zg rfl (sem_loadN ⟨k18, 12, none⟩ l23 rfl TF.agg_52 (TF.sz_52.trans (congrArg some nl23.symm)) hl ?_)
  refine au 1 rfl ?_
  obtain ⟨hln, h24, hst, s⟩ := s
  refine zg0 rfl (sem_storeN ⟨k10, 8, none⟩ l23 h24 rfl rfl (TF.sz_52.trans (congrArg some hln.symm)) hst ?_)
  refine au 2 rfl ?_
  refine Run.drawM (fun h' => h' = h24) [3] ⟨[0, 0, 1, 7], [15, 15, 14, 13], [0, 0, 1, 7], 8⟩ (.q 0 (.q 1 (.q 2 (.x 3 .nil .no)))) TF.mixed (by kernel_rfl) rfl ?_
  refine auT 1 rfl ?_
  obtain ⟨l25, nl25, hl, s⟩ := s
  refine zqe rfl (sem_loadN ⟨k10, 0, none⟩ l25 rfl TF.agg_55 (TF.sz_55.trans (congrArg some nl25.symm)) hl ⟨rfl, rfl⟩) ?_
  refine auT 1 rfl ?_
  obtain ⟨hln, h26, hst, s⟩ := s
  refine ⟨zo0 rfl (sem_storeN ⟨k14, 0, none⟩ l25 h26 rfl rfl (TF.sz_55.trans (congrArg some hln.symm)) hst ?_), trivial⟩
  refine ⟨fun hz => Bool.noConfusion hz, ?_⟩
  obtain ⟨l27, hln1, hl1, s⟩ := s
  exact zr (⟨⟨k14, 0, none⟩, (.agg (List.toArray l27)), rfl, loadHN TF.agg_55 (TF.sz_55.trans (congrArg some hln1.symm)) hl1, s.imp fun _ q => ⟨_, _, rfl, q⟩⟩)
 refine au 3 rfl ?_
 refine zg rfl (sem_lenSl a5 n6 c7 rfl TF.sl_31 ?_)
 refine au 3 rfl ?_
 obtain ⟨J34, m32, h0, s⟩ := s
 refine Run.of_fin (h0.imp fun h' h0 => ?_)
 refine Run.loop (σ := Int × Int × Nat) (fun x e h => J34 x.1 x.2.1 x.2.2 h ∧ Agree [(3, (.pointer (some ⟨k10, 0, none⟩))), (4, (.pointer (some ⟨k12, 0, none⟩))), (7, (.pointer (some ⟨k14, 0, none⟩))), (8, (.pointer (some ⟨k18, 0, none⟩))), (9, (.int .i64 (x.1))), (18, (.slice a5 n6 c7)), (19, (.int .i64 ((n6 : Nat)))), (20, (.int .i64 (x.2.1)))] e) (fun x => x.2.2) ((0), (0), m32) ⟨h0, ⟨rfl, rfl, rfl, rfl, rfl, rfl, rfl, rfl, trivial⟩⟩ ?_; clear h0
 rintro ⟨i28, i29, m31⟩ e h30 ⟨hJ, hag⟩ ih33
 have s := s i28 i29 m31 h30 hJ; clear hJ
 refine Run.env hag ?_; clear hag
 refine au 2 rfl ?_
 refine zt s rfl rfl rfl binI_lss_t binI_lss_f (fun s => ?_) fun s => ?_
 ·refine au 8 rfl ?_
  obtain ⟨A35, e36, hi0, hi1, s⟩ := s
  refine zg rfl (sem_indexAddrS A35 n6 c7 .i64 (i29) (congrArg (fun a => Value.slice a n6 c7) e36) rfl TF.slc_31 hi0 hi1 ?_)
  obtain ⟨i37, i38, i39, i40, hl, s⟩ := s
  refine zn hl rfl rfl TF.agg_38 TF.sz_38 rfl ?_
  refine zal s rfl TF.zero_38 rfl fun k41 h42 s => ?_
  refine zsn s rfl rfl rfl TF.sz_38 rfl fun h43 s => ?_
  refine au 8 rfl ?_
  refine zl s rfl rfl TF.agg_3 fun i44 s => ?_
  refine au 4 rfl ?_
  refine zt s rfl rfl rfl binI_eql_t binI_eql_f (fun s => ?_) fun s => ?_
  ·refine au 5 rfl ?_
   refine zl s rfl rfl TF.agg_3 fun i45 s => ?_
   refine au 1 rfl ?_
   obtain ⟨hi0, hi1, s⟩ := s
   refine zg rfl (sem_indexAddrA ⟨k10, 0, none⟩ .i64 (i45) rfl rfl TF.arr_49 hi0 hi1 ?_)
   refine zl s rfl rfl TF.agg_3 fun i46 s => ?_
   refine au 8 rfl ?_
   exact Run.of_fin (s.imp fun h' ⟨m', hm, s⟩ => ih33 ((i46), (IntKind.wrap .i64 ((i29) + (1))), m') _ _ ⟨s, ⟨rfl, rfl, rfl, rfl, rfl, rfl, rfl, rfl, trivial⟩⟩ hm)
  ·refine au 5 rfl ?_
   refine zt s rfl rfl rfl binI_eql_t binI_eql_f (fun s => ?_) fun s => ?_
   ·refine au 5 rfl ?_
    refine zl s rfl rfl TF.agg_3 fun i47 s => ?_
    refine au 1 rfl ?_
    refine zl s rfl rfl TF.agg_3 fun i48 s => ?_
    refine au 1 rfl ?_
    obtain ⟨hi0, hi1, s⟩ := s
    refine zg rfl (sem_indexAddrA ⟨k10, 0, none⟩ .i64 (i47) rfl rfl TF.arr_49 hi0 hi1 ?_)
    refine zs1 s rfl rfl rfl rfl TF.sz_3 fun h49 s => ?_
    refine au 7 rfl ?_
    exact Run.of_fin (s.imp fun h' ⟨m', hm, s⟩ => ih33 ((0), (IntKind.wrap .i64 ((i29) + (1))), m') _ _ ⟨s, ⟨rfl, rfl, rfl, rfl, rfl, rfl, rfl, rfl, trivial⟩⟩ hm)
   ·refine au 5 rfl ?_
    refine zt s rfl rfl rfl binI_eql_t binI_eql_f (fun s => ?_) fun s => ?_
    ·refine au 3 rfl ?_
     obtain ⟨i52, hl, s⟩ := s
     have f53 := hl
     obtain ⟨hi0, hi1, s⟩ := s
     have f57 := hi0; have f58 := hi1
     obtain ⟨b59, s60, hl, s⟩ := s
     have f61 := hl
     obtain ⟨i63, hl, s⟩ := s
     have f64 := hl
     refine Run.drawM (fun h' => cellH B h' ⟨k41, 1, none⟩ = some (.int .i64 (i52)) ∧ CellsAt B h' (Addr.add ⟨k18, 12, none⟩ (Int.toNat (i52) * 2)) 0 [(.bool b59), (.string s60)] ∧ cellH B h' ⟨k41, 2, none⟩ = some (.int .i64 (i63)) ∧ True) [] ⟨[0, 0, 2, 1, 8, 20, 32, 0, 128, 320, 1023], [2047, 2047, 2045, 2046, 2039, 2027, 2015, 2047, 1919, 1727, 1535], [0, 0, 0, 0, 0, 0, 0, 0, 0, 0, 0], 0⟩ (.q 0 (.q 1 (.q 2 (.q 3 (.q 4 (.q 5 (.q 6 (.q 7 (.q 8 (.x 9 (.q 10 .nil) .no)))))))))) TF.mixed (by kernel_rfl) ⟨f53, f61, f64, trivial⟩ ?_
     refine auT 2 rfl ?_
     refine zq rfl (fun _ hC => sem_load1 ⟨k41, 1, none⟩ ((.int .i64 (i52))) rfl TF.agg_3 hC.1 ⟨rfl, rfl⟩) ?_
     refine auT 2 rfl ?_
     refine zq rfl (fun _ hC => sem_indexAddrA ⟨k18, 12, none⟩ .i64 (i52) rfl rfl TF.arr_52 f57 f58 ⟨rfl, rfl⟩) ?_
     refine zq rfl (fun _ hC => sem_loadN (Addr.add ⟨k18, 12, none⟩ (Int.toNat (i52) * 2)) [(.bool b59), (.string s60)] rfl TF.agg_51 TF.sz_51 hC.2.1 ⟨rfl, rfl⟩) ?_
     refine auT 1 rfl ?_
     refine zq rfl (fun _ hC => sem_load1 ⟨k41, 2, none⟩ ((.int .i64 (i63))) rfl TF.agg_3 hC.2.2.1 ⟨rfl, rfl⟩) ?_
     refine ⟨zo rfl (sem_callL [(.agg #[(.bool b59), (.string s60)]), (.int .i64 (i63))] (TF.goes_59) rfl rfl (Spec.mono s fun v h65 hv => ?_)), trivial⟩
     obtain ⟨i66, rfl, s⟩ := hv
     obtain ⟨g67, g68, g69, s⟩ := s
     refine ⟨fun _ => ⟨g67, g68, g69, trivial⟩, ?_⟩
     refine auT 1 rfl ?_
     refine au 6 rfl ?_
     exact Run.of_fin (s.imp fun h' ⟨m', hm, s⟩ => ih33 ((i66), (IntKind.wrap .i64 ((i29) + (1))), m') _ _ ⟨s, ⟨rfl, rfl, rfl, rfl, rfl, rfl, rfl, rfl, trivial⟩⟩ hm)
    ·refine au 5 rfl ?_
     refine zt s rfl rfl rfl binI_eql_t binI_eql_f (fun s => ?_) fun s => ?_
     ·refine au 6 rfl ?_
      refine zl s rfl rfl TF.agg_3 fun i70 s => ?_
      refine au 1 rfl ?_
      refine zl s rfl rfl TF.agg_3 fun i71 s => ?_
      refine au 1 rfl ?_
      refine zl s rfl rfl TF.agg_5 fun i72 s => ?_
      refine zcall s rfl rfl TF.goes_60 ?_
      rintro _ h73 ⟨b74, rfl, s⟩
      refine au 7 rfl ?_
      exact Run.of_fin (s.imp fun h' ⟨m', hm, s⟩ => ih33 ((0), (IntKind.wrap .i64 ((i29) + (1))), m') _ _ ⟨s, ⟨rfl, rfl, rfl, rfl, rfl, rfl, rfl, rfl, trivial⟩⟩ hm)
     ·refine au 5 rfl ?_
      refine zt s rfl rfl rfl binI_eql_t binI_eql_f (fun s => ?_) fun s => ?_
      ·refine au 6 rfl ?_
       refine zl s rfl rfl TF.agg_3 fun i75 s => ?_
       refine zcall s rfl rfl TF.goes_61 ?_
       rintro _ h76 ⟨b77, rfl, s⟩
       refine au 7 rfl ?_
       exact Run.of_fin (s.imp fun h' ⟨m', hm, s⟩ => ih33 ((0), (IntKind.wrap .i64 ((i29) + (1))), m') _ _ ⟨s, ⟨rfl, rfl, rfl, rfl, rfl, rfl, rfl, rfl, trivial⟩⟩ hm)
      ·refine au 5 rfl ?_
       refine zt s rfl rfl rfl binI_eql_t binI_eql_f (fun s => ?_) fun s => ?_
       ·refine au 6 rfl ?_
        refine zl s rfl rfl TF.agg_3 fun i78 s => ?_
        refine zcall s rfl rfl TF.goes_62 ?_
        rintro _ h79 ⟨b80, rfl, s⟩
        refine au 7 rfl ?_
        exact Run.of_fin (s.imp fun h' ⟨m', hm, s⟩ => ih33 ((0), (IntKind.wrap .i64 ((i29) + (1))), m') _ _ ⟨s, ⟨rfl, rfl, rfl, rfl, rfl, rfl, rfl, rfl, trivial⟩⟩ hm)
       ·refine au 5 rfl ?_
        refine zt s rfl rfl rfl binI_eql_t binI_eql_f (fun s => ?_) fun s => ?_
        ·refine au 6 rfl ?_
         refine zl s rfl rfl TF.agg_3 fun i81 s => ?_
         refine au 1 rfl ?_
         refine zl s rfl rfl TF.agg_3 fun i82 s => ?_
         refine zcall s rfl rfl TF.goes_63 ?_
         rintro _ h83 ⟨b84, rfl, s⟩
         refine au 7 rfl ?_
         exact Run.of_fin (s.imp fun h' ⟨m', hm, s⟩ => ih33 ((0), (IntKind.wrap .i64 ((i29) + (1))), m') _ _ ⟨s, ⟨rfl, rfl, rfl, rfl, rfl, rfl, rfl, rfl, trivial⟩⟩ hm)
        ·refine au 5 rfl ?_
         refine zt s rfl rfl rfl binI_eql_t binI_eql_f (fun s => ?_) fun s => ?_
         ·refine au 6 rfl ?_
          refine zl s rfl rfl TF.agg_3 fun i85 s => ?_
          refine au 1 rfl ?_
          refine zl s rfl rfl TF.agg_3 fun i86 s => ?_
          refine zcall s rfl rfl TF.goes_64 ?_
          rintro _ h87 ⟨b88, rfl, s⟩
          refine au 7 rfl ?_
          exact Run.of_fin (s.imp fun h' ⟨m', hm, s⟩ => ih33 ((0), (IntKind.wrap .i64 ((i29) + (1))), m') _ _ ⟨s, ⟨rfl, rfl, rfl, rfl, rfl, rfl, rfl, rfl, trivial⟩⟩ hm)
         ·refine au 5 rfl ?_
          refine zt s rfl rfl rfl binI_eql_t binI_eql_f (fun s => ?_) fun s => ?_
          ·refine au 8 rfl ?_
           refine Run.drawM (fun h' => h' = h43) [] ⟨[0, 1, 0, 6, 8, 0, 32, 64, 128, 256, 528], [2047, 2046, 2047, 2041, 2039, 2047, 2015, 1983, 1919, 1791, 1519], [0, 0, 0, 0, 0, 0, 0, 0, 0, 0, 0], 0⟩ (.q 0 (.q 1 (.q 2 (.q 3 (.q 4 (.q 5 (.q 6 (.q 7 (.q 8 (.q 9 (.q 10 .nil))))))))))) TF.mixed (by kernel_rfl) rfl ?_
           refine auT 1 rfl ?_
           obtain ⟨i89, hl, s⟩ := s
           refine zqe rfl (sem_load1 ⟨k41, 1, none⟩ ((.int .i64 (i89))) rfl TF.agg_3 hl ⟨rfl, rfl⟩) ?_
           refine auT 1 rfl ?_
           obtain ⟨hi0, hi1, s⟩ := s
           refine zqe rfl (sem_indexAddrA ⟨k10, 20, none⟩ .i64 (i89) rfl rfl TF.arr_53 hi0 hi1 ⟨rfl, rfl⟩) ?_
           obtain ⟨i90, hl, s⟩ := s
           refine zqe rfl (sem_load1 (Addr.add ⟨k10, 20, none⟩ (Int.toNat (i89) * 1)) ((.int .i64 (i90))) rfl TF.agg_3 hl ⟨rfl, rfl⟩) ?_
           refine auT 1 rfl ?_
           obtain ⟨i91, hl, s⟩ := s
           refine zqe rfl (sem_load1 ⟨k41, 1, none⟩ ((.int .i64 (i91))) rfl TF.agg_3 hl ⟨rfl, rfl⟩) ?_
           obtain ⟨hi0, hi1, s⟩ := s
           refine zqe rfl (sem_indexAddrA ⟨k12, 0, none⟩ .i64 (i91) rfl rfl TF.arr_56 hi0 hi1 ⟨rfl, rfl⟩) ?_
           obtain ⟨s92, hl, s⟩ := s
           refine zqe rfl (sem_load1 (Addr.add ⟨k12, 0, none⟩ (Int.toNat (i91) * 1)) ((.string s92)) rfl TF.agg_9 hl ⟨rfl, rfl⟩) ?_
           refine zqe rfl (sem_lenStr s92 rfl TF.isStr_9 ⟨rfl, rfl⟩) ?_
           by_cases hb93 : (i90 : Int) < ((ByteArray.size s92 : Nat))
           ·replace s := s.1 hb93
            refine zqe rfl (sem_binI .i64 (i90) ((ByteArray.size s92 : Nat)) (.bool true) rfl rfl (binI_lss_t hb93) ⟨rfl, rfl⟩) ?_
            refine au 2 rfl ?_
            refine Run.drawM (fun h' => h' = h43) [] ⟨[0, 1, 2, 4, 0, 16, 0, 96, 128, 264, 512, 2047], [4095, 4094, 4093, 4091, 4095, 4079, 4095, 3999, 3967, 3831, 3583, 3071], [0, 0, 0, 0, 0, 0, 0, 0, 0, 0, 0, 0], 0⟩ (.q 0 (.q 1 (.q 2 (.q 3 (.q 4 (.q 5 (.q 6 (.q 7 (.q 8 (.q 9 (.q 10 (.q 11 .nil)))))))))))) TF.mixed (by kernel_rfl) rfl ?_
            refine auT 1 rfl ?_
            obtain ⟨i94, hl, s⟩ := s
            refine zqe rfl (sem_load1 ⟨k41, 1, none⟩ ((.int .i64 (i94))) rfl TF.agg_3 hl ⟨rfl, rfl⟩) ?_
            obtain ⟨hi0, hi1, s⟩ := s
            refine zqe rfl (sem_indexAddrA ⟨k12, 0, none⟩ .i64 (i94) rfl rfl TF.arr_56 hi0 hi1 ⟨rfl, rfl⟩) ?_
            obtain ⟨s95, hl, s⟩ := s
            refine zqe rfl (sem_load1 (Addr.add ⟨k12, 0, none⟩ (Int.toNat (i94) * 1)) ((.string s95)) rfl TF.agg_9 hl ⟨rfl, rfl⟩) ?_
            refine auT 1 rfl ?_
            obtain ⟨i96, hl, s⟩ := s
            refine zqe rfl (sem_load1 ⟨k41, 1, none⟩ ((.int .i64 (i96))) rfl TF.agg_3 hl ⟨rfl, rfl⟩) ?_
            refine auT 1 rfl ?_
            obtain ⟨hi0, hi1, s⟩ := s
            refine zqe rfl (sem_indexAddrA ⟨k10, 20, none⟩ .i64 (i96) rfl rfl TF.arr_53 hi0 hi1 ⟨rfl, rfl⟩) ?_
            obtain ⟨i97, hl, s⟩ := s
            refine zqe rfl (sem_load1 (Addr.add ⟨k10, 20, none⟩ (Int.toNat (i96) * 1)) ((.int .i64 (i97))) rfl TF.agg_3 hl ⟨rfl, rfl⟩) ?_
            obtain ⟨hi0, hi1, s⟩ := s
            refine zqe rfl (sem_indexStr' s95 .i64 (i97) rfl rfl TF.isStr_9 hi0 hi1 ⟨rfl, rfl⟩) ?_
            refine zqe rfl (sem_convI .u8 .i64 (byteAt s95 (Int.toNat (i97))) rfl TF.int_5 TF.int_3 ⟨rfl, rfl⟩) ?_
            refine auT 1 rfl ?_
            refine au 2 rfl ?_
            refine zl s rfl rfl TF.agg_3 fun i98 s => ?_
            refine au 1 rfl ?_
            obtain ⟨hi0, hi1, s⟩ := s
            refine zg rfl (sem_indexAddrA ⟨k10, 20, none⟩ .i64 (i98) rfl rfl TF.arr_53 hi0 hi1 ?_)
            refine zl s rfl rfl TF.agg_3 fun i99 s => ?_
            refine au 2 rfl ?_
            obtain ⟨hi0, hi1, s⟩ := s
            refine zg rfl (sem_indexAddrA ⟨k10, 20, none⟩ .i64 (i98) rfl rfl TF.arr_53 hi0 hi1 ?_)
            refine zs1 s rfl rfl rfl rfl TF.sz_3 fun h100 s => ?_
            refine au 7 rfl ?_
            exact Run.of_fin (s.imp fun h' ⟨m', hm, s⟩ => ih33 ((IntKind.wrap .i64 (byteAt s95 (Int.toNat (i97)))), (IntKind.wrap .i64 ((i29) + (1))), m') _ _ ⟨s, ⟨rfl, rfl, rfl, rfl, rfl, rfl, rfl, rfl, trivial⟩⟩ hm)
           ·replace s := s.2 hb93
            refine zqe rfl (sem_binI .i64 (i90) ((ByteArray.size s92 : Nat)) (.bool false) rfl rfl (binI_lss_f hb93) ⟨rfl, rfl⟩) ?_
            refine au 8 rfl ?_
            exact Run.of_fin (s.imp fun h' ⟨m', hm, s⟩ => ih33 (((-1)), (IntKind.wrap .i64 ((i29) + (1))), m') _ _ ⟨s, ⟨rfl, rfl, rfl, rfl, rfl, rfl, rfl, rfl, trivial⟩⟩ hm)
          ·refine au 10 rfl ?_
           exact Run.of_fin (s.imp fun h' ⟨m', hm, s⟩ => ih33 ((0), (IntKind.wrap .i64 ((i29) + (1))), m') _ _ ⟨s, ⟨rfl, rfl, rfl, rfl, rfl, rfl, rfl, rfl, trivial⟩⟩ hm)
 ·refine au 4 rfl ?_
  exact Run.of_fin (s.imp fun h' s => j20 _ _ ⟨(i28), ⟨rfl, rfl, rfl, rfl, trivial⟩, s⟩)
theorem C_attempt_View_Now.of {B : RO} {p1 : Option Addr} {h : Heap} {Q : List Value → Heap → Prop} (s : S_attempt_View_Now B p1 h Q) : C_attempt_View_Now B p1 h Q := by
 refine zspec Tryz.func20 [ResultVar.cell 2 65] rfl rfl rfl rfl rfl ?_
 refine au 2 rfl ?_
 refine zal s rfl TF.zero_65 rfl fun k3 h4 s => ?_
 refine au 5 rfl ?_
 by_cases hb5 : p1 = none
 ·replace s := s.1 hb5
  refine zg rfl (sem_ptrNilT p1 (.inl rfl) true rfl rfl TF.ptr_29 hb5 rfl ?_)
  refine au 4 rfl ?_
  refine zg rfl (sem_buildSL [] (List.replicate 25 (.int .i64 (0))) TF.zero_65 TF.places_65 rfl rfl ?_)
  refine zsn s rfl rfl rfl TF.sz_65 rfl fun h6 s => ?_
  refine au 1 rfl ?_
  obtain ⟨l7, hln0, hl0, s⟩ := s
  exact zr (⟨⟨k3, 0, none⟩, (.agg (List.toArray l7)), rfl, loadHN TF.agg_65 (TF.sz_65.trans (congrArg some hln0.symm)) hl0, s.imp fun _ q => ⟨_, rfl, q⟩⟩)
 ·replace s := s.2 hb5
  refine zg rfl (sem_ptrNilF p1 (.inl rfl) false rfl rfl TF.ptr_29 hb5 rfl ?_)
  refine au 6 rfl ?_
  refine znil s rfl rfl fun A8 s => ?_
  refine au 1 rfl ?_
  refine zl s rfl rfl TF.agg_3 fun i10 s => ?_
  refine zg rfl (sem_buildSL [(1, (.int .i64 (i10)))] [(.int .i64 (0)), (.int .i64 (0)), (.int .i64 (0)), (.int .i64 (0)), (.int .i64 (0)), (.int .i64 (0)), (.int .i64 (0)), (.int .i64 (0)), (.int .i64 (0)), (.int .i64 (0)), (.int .i64 (0)), (.int .i64 (0)), (.int .i64 (0)), (.int .i64 (0)), (.int .i64 (0)), (.int .i64 (0)), (.int .i64 (0)), (.int .i64 (0)), (.int .i64 (0)), (.int .i64 (0)), (.int .i64 (0)), (.int .i64 (0)), (.int .i64 (0)), (.int .i64 (0)), (.int .i64 (i10))] TF.zero_65 TF.places_65 rfl rfl ?_)
  refine zal s rfl TF.zero_65 rfl fun k11 h12 s => ?_
  refine zsn s rfl rfl rfl TF.sz_65 rfl fun h13 s => ?_
  refine au 1 rfl ?_
  refine Run.seqJ (fun e h15 => Agree [(0, (.pointer p1)), (2, (.pointer (some ⟨k3, 0, none⟩))), (3, (.pointer (some ⟨k11, 0, none⟩)))] e ∧ S_attempt_View_Now_J1 B p1 k3 k11 h15 Q) ?_ fun j14 => ?_
  ·rintro e h15 ⟨hag, s⟩
   refine Run.env hag ?_; clear hag
   refine Run.seqJ (fun e h17 => Agree [(0, (.pointer p1)), (2, (.pointer (some ⟨k3, 0, none⟩))), (3, (.pointer (some ⟨k11, 0, none⟩)))] e ∧ S_attempt_View_Now_J2 B p1 k3 k11 h17 Q) ?_ fun j16 => ?_
   ·rintro e h17 ⟨hag, s⟩
    refine Run.env hag ?_; clear hag
    refine au 6 rfl ?_
    obtain ⟨J23, m21, h0, s⟩ := s
    refine Run.of_fin (h0.imp fun h' h0 => ?_)
    refine Run.loop (σ := Int × Nat) (fun x e h => J23 x.1 x.2 h ∧ Agree [(0, (.pointer p1)), (2, (.pointer (some ⟨k3, 0, none⟩))), (3, (.pointer (some ⟨k11, 0, none⟩))), (46, (.int .i64 (x.1)))] e) (fun x => x.2) ((0), m21) ⟨h0, ⟨rfl, rfl, rfl, rfl, trivial⟩⟩ ?_; clear h0
    rintro ⟨i18, m20⟩ e h19 ⟨hJ, hag⟩ ih22
    have s := s i18 m20 h19 hJ; clear hJ
    refine Run.env hag ?_; clear hag
    refine au 2 rfl ?_
    refine zt s rfl rfl rfl binI_lss_t binI_lss_f (fun s => ?_) fun s => ?_
    ·refine au 14 rfl ?_
     refine znil s rfl rfl fun A24 s => ?_
     refine au 1 rfl ?_
     refine zl s rfl rfl TF.agg_41 fun p26 s => ?_
     refine au 1 rfl ?_
     refine zcall s rfl rfl TF.goes_47 ?_
     rintro _ h27 ⟨i28, i29, rfl, s⟩
     refine au 4 rfl ?_
     obtain ⟨hi0, hi1, s⟩ := s
     refine zg rfl (sem_indexAddrA ⟨k11, 0, none⟩ .i64 (2) rfl rfl TF.arr_63 hi0 hi1 ?_)
     obtain ⟨hi0, hi1, s⟩ := s
     refine zg rfl (sem_indexAddrA ⟨k11, 16, none⟩ .i64 (i18) rfl rfl TF.arr_49 hi0 hi1 ?_)
     refine zs1 s rfl rfl rfl rfl TF.sz_3 fun h30 s => ?_
     refine au 6 rfl ?_
     exact Run.of_fin (s.imp fun h' ⟨m', hm, s⟩ => ih22 ((IntKind.wrap .i64 ((i18) + (1))), m') _ _ ⟨s, ⟨rfl, rfl, rfl, rfl, trivial⟩⟩ hm)
    ·refine au 6 rfl ?_
     obtain ⟨l31, nl31, hl, s⟩ := s
     refine zg rfl (sem_loadN ⟨k11, 0, none⟩ l31 rfl TF.agg_65 (TF.sz_65.trans (congrArg some nl31.symm)) hl ?_)
     obtain ⟨hln, h32, hst, s⟩ := s
     refine zg0 rfl (sem_storeN ⟨k3, 0, none⟩ l31 h32 rfl rfl (TF.sz_65.trans (congrArg some hln.symm)) hst ?_)
     refine au 1 rfl ?_
     obtain ⟨l33, hln0, hl0, s⟩ := s
     exact zr (⟨⟨k3, 0, none⟩, (.agg (List.toArray l33)), rfl, loadHN TF.agg_65 (TF.sz_65.trans (congrArg some hln0.symm)) hl0, s.imp fun _ q => ⟨_, rfl, q⟩⟩)
   refine au 5 rfl ?_
   obtain ⟨J39, m37, h0, s⟩ := s
   refine Run.of_fin (h0.imp fun h' h0 => ?_)
   refine Run.loop (σ := Int × Nat) (fun x e h => J39 x.1 x.2 h ∧ Agree [(0, (.pointer p1)), (2, (.pointer (some ⟨k3, 0, none⟩))), (3, (.pointer (some ⟨k11, 0, none⟩))), (29, (.int .i64 (x.1)))] e) (fun x => x.2) ((0), m37) ⟨h0, ⟨rfl, rfl, rfl, rfl, trivial⟩⟩ ?_; clear h0
   rintro ⟨i34, m36⟩ e h35 ⟨hJ, hag⟩ ih38
   have s := s i34 m36 h35 hJ; clear hJ
   refine Run.env hag ?_; clear hag
   refine au 2 rfl ?_
   refine zt s rfl rfl rfl binI_lss_t binI_lss_f (fun s => ?_) fun s => ?_
   ·refine au 14 rfl ?_
    refine znil s rfl rfl fun A40 s => ?_
    refine au 1 rfl ?_
    refine zl s rfl rfl TF.agg_40 fun p42 s => ?_
    refine au 1 rfl ?_
    refine zcall s rfl rfl TF.goes_49 ?_
    rintro _ h43 ⟨b44, s45, i46, rfl, s⟩
    refine au 4 rfl ?_
    obtain ⟨hi0, hi1, s⟩ := s
    refine zg rfl (sem_indexAddrA ⟨k11, 0, none⟩ .i64 (1) rfl rfl TF.arr_63 hi0 hi1 ?_)
    obtain ⟨hi0, hi1, s⟩ := s
    refine zg rfl (sem_indexAddrA ⟨k11, 8, none⟩ .i64 (i34) rfl rfl TF.arr_49 hi0 hi1 ?_)
    refine zs1 s rfl rfl rfl rfl TF.sz_3 fun h47 s => ?_
    refine au 6 rfl ?_
    exact Run.of_fin (s.imp fun h' ⟨m', hm, s⟩ => ih38 ((IntKind.wrap .i64 ((i34) + (1))), m') _ _ ⟨s, ⟨rfl, rfl, rfl, rfl, trivial⟩⟩ hm)
   ·refine au 4 rfl ?_
    exact Run.of_fin (s.imp fun h' s => j16 _ _ ⟨⟨rfl, rfl, rfl, trivial⟩, s⟩)
  refine au 5 rfl ?_
  obtain ⟨J53, m51, h0, s⟩ := s
  refine Run.of_fin (h0.imp fun h' h0 => ?_)
  refine Run.loop (σ := Int × Nat) (fun x e h => J53 x.1 x.2 h ∧ Agree [(0, (.pointer p1)), (2, (.pointer (some ⟨k3, 0, none⟩))), (3, (.pointer (some ⟨k11, 0, none⟩))), (15, (.int .i64 (x.1)))] e) (fun x => x.2) ((0), m51) ⟨h0, ⟨rfl, rfl, rfl, rfl, trivial⟩⟩ ?_; clear h0
  rintro ⟨i48, m50⟩ e h49 ⟨hJ, hag⟩ ih52
  have s := s i48 m50 h49 hJ; clear hJ
  refine Run.env hag ?_; clear hag
  refine au 2 rfl ?_
  refine zt s rfl rfl rfl binI_lss_t binI_lss_f (fun s => ?_) fun s => ?_
  ·refine au 14 rfl ?_
   refine znil s rfl rfl fun A54 s => ?_
   refine au 1 rfl ?_
   refine zl s rfl rfl TF.agg_39 fun p56 s => ?_
   refine au 1 rfl ?_
   refine zcall s rfl rfl TF.goes_65 ?_
   rintro _ h57 ⟨i58, rfl, s⟩
   refine au 1 rfl ?_
   obtain ⟨hi0, hi1, s⟩ := s
   refine zg rfl (sem_indexAddrA ⟨k11, 0, none⟩ .i64 (0) rfl rfl TF.arr_63 hi0 hi1 ?_)
   obtain ⟨hi0, hi1, s⟩ := s
   refine zg rfl (sem_indexAddrA ⟨k11, 0, none⟩ .i64 (i48) rfl rfl TF.arr_49 hi0 hi1 ?_)
   refine zs1 s rfl rfl rfl rfl TF.sz_3 fun h59 s => ?_
   refine au 6 rfl ?_
   exact Run.of_fin (s.imp fun h' ⟨m', hm, s⟩ => ih52 ((IntKind.wrap .i64 ((i48) + (1))), m') _ _ ⟨s, ⟨rfl, rfl, rfl, rfl, trivial⟩⟩ hm)
  ·refine au 4 rfl ?_
   exact Run.of_fin (s.imp fun h' s => j14 _ _ ⟨⟨rfl, rfl, rfl, trivial⟩, s⟩)
theorem C_attempt_Attempt_Store.of {B : RO} {p1 : Option Addr} {i2 : Int} {i3 : Int} {h : Heap} {Q : Int → Heap → Prop} (s : S_attempt_Attempt_Store B p1 i2 i3 h Q) : C_attempt_Attempt_Store B p1 i2 i3 h Q := by
 refine zspec Tryz.func21 [ResultVar.tmp 6] rfl rfl rfl rfl rfl ?_
 refine au 4 rfl ?_
 refine Run.seqJ (fun e h6 => Agree [(0, (.pointer p1)), (1, (.int .i64 (i2))), (2, (.int .i64 (i3)))] e ∧ S_attempt_Attempt_Store_J1 B p1 i2 i3 h6 Q) ?_ fun j5 => ?_
 ·rintro e h6 ⟨hag, s⟩
  refine Run.env hag ?_; clear hag
  refine au 3 rfl ?_
  refine znil s rfl rfl fun A7 s => ?_
  refine au 2 rfl ?_
  refine zl s rfl rfl TF.agg_91 fun p9 s => ?_
  refine au 2 rfl ?_
  refine zcall s rfl rfl TF.goes_66 ?_
  rintro _ h10 ⟨b11, rfl, s⟩
  refine au 5 rfl ?_
  exact zr (s.imp fun _ q => ⟨_, rfl, q⟩)
 refine au 4 rfl ?_
 by_cases hb12 : p1 = none
 ·replace s := s.1 hb12
  refine zg rfl (sem_ptrNilT p1 (.inl rfl) true rfl rfl TF.ptr_30 hb12 rfl ?_)
  refine au 7 rfl ?_
  exact zr (s.imp fun _ q => ⟨_, rfl, q⟩)
 ·replace s := s.2 hb12
  refine zg rfl (sem_ptrNilF p1 (.inl rfl) false rfl rfl TF.ptr_30 hb12 rfl ?_)
  refine au 6 rfl ?_
  refine zt s rfl rfl rfl binI_lss_t binI_lss_f (fun s => ?_) fun s => ?_
  ·refine au 11 rfl ?_
   exact zr (s.imp fun _ q => ⟨_, rfl, q⟩)
  ·refine au 2 rfl ?_
   refine zt s rfl rfl rfl binI_geq_t binI_geq_f (fun s => ?_) fun s => ?_
   ·refine au 8 rfl ?_
    exact zr (s.imp fun _ q => ⟨_, rfl, q⟩)
   ·refine au 6 rfl ?_
    exact Run.of_fin (s.imp fun h' s => j5 _ _ ⟨⟨rfl, rfl, rfl, trivial⟩, s⟩)
theorem C_attempt_NewView.of {B : RO} {h : Heap} {Q : Option Addr → Heap → Prop} (s : S_attempt_NewView B h Q) : C_attempt_NewView B h Q := by
 refine zspec Tryz.func24 [ResultVar.tmp 0] rfl rfl rfl rfl rfl ?_
 refine au 6 rfl ?_
 refine zcall s rfl rfl TF.goes_67 ?_
 rintro _ h2 ⟨p3, rfl, s⟩
 refine zcall s rfl rfl TF.goes_68 ?_
 rintro _ h4 ⟨p5, rfl, s⟩
 refine zcall s rfl rfl TF.goes_69 ?_
 rintro _ h6 ⟨p7, rfl, s⟩
 refine zg rfl (sem_buildSL [(0, (.pointer p3)), (1, (.pointer p5)), (2, (.pointer p7))] [(.pointer p3), (.pointer p5), (.pointer p7), (.int .i64 (0))] TF.zero_43 TF.places_43 rfl rfl ?_)
 refine zbn s rfl rfl rfl fun k8 h9 s => ?_
 refine au 2 rfl ?_
 exact zr (s.imp fun _ q => ⟨_, rfl, q⟩)
theorem C_attempt_New.of {B : RO} {p1 : Option Addr} {i2 : Int} {i3 : Int} {i4 : Int} {i5 : Int} {h : Heap} {Q : Option Addr → Heap → Prop} (s : S_attempt_New B p1 i2 i3 i4 i5 h Q) : C_attempt_New B p1 i2 i3 i4 i5 h Q := by
 refine zspec Tryz.func25 [ResultVar.tmp 4] rfl rfl rfl rfl rfl ?_
 refine au 2 rfl ?_
 refine zbn s rfl rfl rfl fun k7 h8 s => ?_
 refine au 2 rfl ?_
 refine Run.seqJ (fun e h11 => ∃ p10 : Option Addr, Agree [(0, (.pointer p10)), (3, (.pointer (some ⟨k7, 0, none⟩)))] e ∧ S_attempt_New_J1 B k7 p10 h11 Q) ?_ fun j9 => ?_
 ·rintro e h11 ⟨p10, hag, s⟩
  refine Run.env hag ?_; clear hag
  refine au 1 rfl ?_
  obtain ⟨A14, e15, s⟩ := s
  obtain ⟨i18, hl, s⟩ := s
  have f19 := hl
  obtain ⟨i20, i21, i22, i23, hl, s⟩ := s
  have f24 := hl
  refine Run.drawM (fun h' => cellH B h' (Addr.add A14 3) = some (.int .i64 (i18)) ∧ CellsAt B h' ⟨k7, 0, none⟩ 0 [(.int .i64 (i20)), (.int .i64 (i21)), (.int .i64 (i22)), (.int .i64 (i23))] ∧ True) [] ⟨[0, 0, 2, 4, 8, 16, 0, 96, 0, 256, 0, 1024, 2721, 4096, 16383], [32767, 32767, 32765, 32763, 32759, 32751, 32767, 32703, 32767, 32511, 32767, 31743, 30046, 28671, 24575], [0, 0, 0, 0, 0, 0, 0, 0, 0, 0, 0, 0, 0, 0, 0], 0⟩ (.q 0 (.q 1 (.q 2 (.q 3 (.q 4 (.q 6 (.q 8 (.q 10 (.x 5 (.x 7 (.x 9 (.x 11 (.q 12 (.x 13 (.q 14 .nil) .no)) .no) (.x 11 (.x 9 (.q 12 (.x 13 (.q 14 .nil) .no)) .no) .no)) (.x 9 (.x 7 (.x 11 (.q 12 (.x 13 (.q 14 .nil) .no)) .no) (.x 11 (.x 7 (.q 12 (.x 13 (.q 14 .nil) .no)) .no) .no)) (.x 11 (.x 7 (.x 9 (.q 12 (.x 13 (.q 14 .nil) .no)) .no) (.x 9 (.x 7 (.q 12 (.x 13 (.q 14 .nil) .no)) .no) .no)) .no))) (.x 9 (.x 5 (.x 7 (.x 11 (.q 12 (.x 13 (.q 14 .nil) .no)) .no) (.x 11 (.x 7 (.q 12 (.x 13 (.q 14 .nil) .no)) .no) .no)) (.x 11 (.x 5 (.x 7 (.q 12 (.x 13 (.q 14 .nil) .no)) .no) .no) .no)) (.x 11 (.x 5 (.x 7 (.x 9 (.q 12 (.x 13 (.q 14 .nil) .no)) .no) (.x 9 (.x 7 (.q 12 (.x 13 (.q 14 .nil) .no)) .no) .no)) (.x 9 (.x 5 (.x 7 (.q 12 (.x 13 (.q 14 .nil) .no)) .no) .no) .no)) .no))))))))))) TF.mixed (by kernel_rfl) ⟨f19, f24, trivial⟩ ?_
  refine auT 2 rfl ?_
  refine zq rfl (fun _ hC => sem_nilCheck A14 (congrArg Value.pointer e15) ⟨rfl, rfl⟩) ?_
  refine auT 1 rfl ?_
  refine zq rfl (fun _ hC => sem_load1 (Addr.add A14 3) ((.int .i64 (i18))) rfl TF.agg_3 hC.1 ⟨rfl, rfl⟩) ?_
  refine zq rfl (fun _ hC => sem_loadN ⟨k7, 0, none⟩ [(.int .i64 (i20)), (.int .i64 (i21)), (.int .i64 (i22)), (.int .i64 (i23))] rfl TF.agg_26 TF.sz_26 hC.2.1 ⟨rfl, rfl⟩) ?_
  refine zq rfl (fun _ hC => sem_buildSL [] [(.slice none 0 0), (.slice none 0 0), (.slice none 0 0), (.slice none 0 0)] TF.zero_144 TF.places_144 rfl rfl ⟨rfl, rfl⟩) ?_
  refine zq rfl (fun _ hC => sem_buildSL [] [(.slice none 0 0)] TF.zero_147 TF.places_147 rfl rfl ⟨rfl, rfl⟩) ?_
  refine RunT.joinJ (t := (.q 12 (.x 13 (.q 14 .nil) .no))) (fun e h240 => ∃ p230 : Option Addr, ∃ p231 : Option Addr, ∃ p232 : Option Addr, ∃ p233 : Option Addr, ∃ i234 : Int, ∃ i235 : Int, ∃ i236 : Int, ∃ i237 : Int, ∃ A238 : Addr, ∃ A239 : Addr, Agree [(8, (.pointer p10)), (13, (.pointer p230)), (15, (.agg #[(.pointer p231), (.pointer p232), (.pointer p233), (.int .i64 (i234)), (.int .i64 (i235)), (.int .i64 (i236)), (.int .i64 (i237))])), (17, (.pointer (some A238))), (19, (.pointer (some A239)))] e ∧ cellH B h240 (Addr.add A14 3) = some (.int .i64 (i18)) ∧ CellsAt B h240 ⟨k7, 0, none⟩ 0 [(.int .i64 (i20)), (.int .i64 (i21)), (.int .i64 (i22)), (.int .i64 (i23))] ∧ S_attempt_New_J2 B k7 p10 A14 i18 i20 i21 i22 i23 p230 p231 p232 p233 i234 i235 i236 i237 A238 A239 h240 Q) ?_ fun j229 => ?_
  ·rintro e h240 ⟨p230, p231, p232, p233, i234, i235, i236, i237, A238, A239, hag, g241, g242, s⟩
   refine RunT.env hag ?_; clear hag
   refine zq rfl (fun _ _ => sem_buildSL [(0, (.pointer p10)), (1, (.pointer p230)), (2, (.agg #[(.pointer p231), (.pointer p232), (.pointer p233), (.int .i64 (i234)), (.int .i64 (i235)), (.int .i64 (i236)), (.int .i64 (i237))])), (3, (.pointer (some A238))), (4, (.pointer (some A239)))] [(.pointer p10), (.pointer p230), (.pointer p231), (.pointer p232), (.pointer p233), (.int .i64 (i234)), (.int .i64 (i235)), (.int .i64 (i236)), (.int .i64 (i237)), (.pointer (some A238)), (.pointer (some A239))] TF.zero_107 TF.places_107 rfl rfl ⟨rfl, rfl⟩) ?_
   refine ⟨zo rfl (sem_boxNN [(.pointer p10), (.pointer p230), (.pointer p231), (.pointer p232), (.pointer p233), (.int .i64 (i234)), (.int .i64 (i235)), (.int .i64 (i236)), (.int .i64 (i237)), (.pointer (some A238)), (.pointer (some A239))] rfl (fun k243 hb1 hb2 h244 hb3 => ?_)), trivial⟩
   have s := s k243 hb1 hb2 h244 hb3
   obtain ⟨g245, g246, s⟩ := s
   refine ⟨fun _ => ⟨g245, g246, trivial⟩, ?_⟩
   refine auT 1 rfl ?_
   exact zr (s.imp fun _ q => ⟨_, rfl, q⟩)
  refine ⟨?_, ?_, ?_, trivial⟩
  ·have s := s.1
   refine zo rfl (sem_callL [(.int .i64 (i18))] (TF.goes_70) rfl rfl (Spec.mono s fun v h247 hv => ?_))
   obtain ⟨p248, rfl, s⟩ := hv
   obtain ⟨g249, g250, s⟩ := s
   refine ⟨fun _ => ⟨g249, g250, trivial⟩, ?_⟩
   refine ⟨?_, ?_, ?_, trivial⟩
   ·have s := s.1
    refine zo rfl (sem_callL [(.agg #[(.int .i64 (i20)), (.int .i64 (i21)), (.int .i64 (i22)), (.int .i64 (i23))])] (TF.goes_71) rfl rfl (Spec.mono s fun v h251 hv => ?_))
    obtain ⟨p252, p253, p254, i255, i256, i257, i258, rfl, s⟩ := hv
    obtain ⟨g259, g260, s⟩ := s
    refine ⟨fun _ => ⟨g259, g260, trivial⟩, ?_⟩
    refine ⟨?_, ?_, trivial⟩
    ·have s := s.1
     refine zo rfl (sem_boxNN [(.slice none 0 0), (.slice none 0 0), (.slice none 0 0), (.slice none 0 0)] rfl (fun k261 hb1 hb2 h262 hb3 => ?_))
     have s := s k261 hb1 hb2 h262 hb3
     obtain ⟨g263, g264, s⟩ := s
     refine ⟨fun _ => ⟨g263, g264, trivial⟩, ?_⟩
     refine ⟨zo rfl (sem_boxNN [(.slice none 0 0)] rfl (fun k265 hb1 hb2 h266 hb3 => ?_)), trivial⟩
     have s := s k265 hb1 hb2 h266 hb3
     obtain ⟨g267, g268, s⟩ := s
     refine ⟨fun _ => ⟨g267, g268, trivial⟩, ?_⟩
     exact j229 _ _ ⟨p248, p252, p253, p254, (i255), (i256), (i257), (i258), ⟨k261, 0, none⟩, ⟨k265, 0, none⟩, ⟨rfl, rfl, rfl, rfl, rfl, trivial⟩, g267, g268, s⟩
    ·have s := s.2
     refine zo rfl (sem_boxNN [(.slice none 0 0)] rfl (fun k269 hb1 hb2 h270 hb3 => ?_))
     have s := s k269 hb1 hb2 h270 hb3
     obtain ⟨g271, g272, s⟩ := s
     refine ⟨fun _ => ⟨g271, g272, trivial⟩, ?_⟩
     refine ⟨zo rfl (sem_boxNN [(.slice none 0 0), (.slice none 0 0), (.slice none 0 0), (.slice none 0 0)] rfl (fun k273 hb1 hb2 h274 hb3 => ?_)), trivial⟩
     have s := s k273 hb1 hb2 h274 hb3
     obtain ⟨g275, g276, s⟩ := s
     refine ⟨fun _ => ⟨g275, g276, trivial⟩, ?_⟩
     exact j229 _ _ ⟨p248, p252, p253, p254, (i255), (i256), (i257), (i258), ⟨k273, 0, none⟩, ⟨k269, 0, none⟩, ⟨rfl, rfl, rfl, rfl, rfl, trivial⟩, g275, g276, s⟩
   ·have s := s.2.1
    refine zo rfl (sem_boxNN [(.slice none 0 0), (.slice none 0 0), (.slice none 0 0), (.slice none 0 0)] rfl (fun k277 hb1 hb2 h278 hb3 => ?_))
    have s := s k277 hb1 hb2 h278 hb3
    obtain ⟨g279, g280, s⟩ := s
    refine ⟨fun _ => ⟨g279, g280, trivial⟩, ?_⟩
    refine ⟨?_, ?_, trivial⟩
    ·have s := s.1
     refine zo rfl (sem_callL [(.agg #[(.int .i64 (i20)), (.int .i64 (i21)), (.int .i64 (i22)), (.int .i64 (i23))])] (TF.goes_71) rfl rfl (Spec.mono s fun v h281 hv => ?_))
     obtain ⟨p282, p283, p284, i285, i286, i287, i288, rfl, s⟩ := hv
     obtain ⟨g289, g290, s⟩ := s
     refine ⟨fun _ => ⟨g289, g290, trivial⟩, ?_⟩
     refine ⟨zo rfl (sem_boxNN [(.slice none 0 0)] rfl (fun k291 hb1 hb2 h292 hb3 => ?_)), trivial⟩
     have s := s k291 hb1 hb2 h292 hb3
     obtain ⟨g293, g294, s⟩ := s
     refine ⟨fun _ => ⟨g293, g294, trivial⟩, ?_⟩
     exact j229 _ _ ⟨p248, p282, p283, p284, (i285), (i286), (i287), (i288), ⟨k277, 0, none⟩, ⟨k291, 0, none⟩, ⟨rfl, rfl, rfl, rfl, rfl, trivial⟩, g293, g294, s⟩
    ·have s := s.2
     refine zo rfl (sem_boxNN [(.slice none 0 0)] rfl (fun k295 hb1 hb2 h296 hb3 => ?_))
     have s := s k295 hb1 hb2 h296 hb3
     obtain ⟨g297, g298, s⟩ := s
     refine ⟨fun _ => ⟨g297, g298, trivial⟩, ?_⟩
     refine ⟨zo rfl (sem_callL [(.agg #[(.int .i64 (i20)), (.int .i64 (i21)), (.int .i64 (i22)), (.int .i64 (i23))])] (TF.goes_71) rfl rfl (Spec.mono s fun v h299 hv => ?_)), trivial⟩
     obtain ⟨p300, p301, p302, i303, i304, i305, i306, rfl, s⟩ := hv
     obtain ⟨g307, g308, s⟩ := s
     refine ⟨fun _ => ⟨g307, g308, trivial⟩, ?_⟩
     exact j229 _ _ ⟨p248, p300, p301, p302, (i303), (i304), (i305), (i306), ⟨k277, 0, none⟩, ⟨k295, 0, none⟩, ⟨rfl, rfl, rfl, rfl, rfl, trivial⟩, g307, g308, s⟩
   ·have s := s.2.2
    refine zo rfl (sem_boxNN [(.slice none 0 0)] rfl (fun k309 hb1 hb2 h310 hb3 => ?_))
    have s := s k309 hb1 hb2 h310 hb3
    obtain ⟨g311, g312, s⟩ := s
    refine ⟨fun _ => ⟨g311, g312, trivial⟩, ?_⟩
    refine ⟨?_, ?_, trivial⟩
    ·have s := s.1
     refine zo rfl (sem_callL [(.agg #[(.int .i64 (i20)), (.int .i64 (i21)), (.int .i64 (i22)), (.int .i64 (i23))])] (TF.goes_71) rfl rfl (Spec.mono s fun v h313 hv => ?_))
     obtain ⟨p314, p315, p316, i317, i318, i319, i320, rfl, s⟩ := hv
     obtain ⟨g321, g322, s⟩ := s
     refine ⟨fun _ => ⟨g321, g322, trivial⟩, ?_⟩
     refine ⟨zo rfl (sem_boxNN [(.slice none 0 0), (.slice none 0 0), (.slice none 0 0), (.slice none 0 0)] rfl (fun k323 hb1 hb2 h324 hb3 => ?_)), trivial⟩
     have s := s k323 hb1 hb2 h324 hb3
     obtain ⟨g325, g326, s⟩ := s
     refine ⟨fun _ => ⟨g325, g326, trivial⟩, ?_⟩
     exact j229 _ _ ⟨p248, p314, p315, p316, (i317), (i318), (i319), (i320), ⟨k323, 0, none⟩, ⟨k309, 0, none⟩, ⟨rfl, rfl, rfl, rfl, rfl, trivial⟩, g325, g326, s⟩
    ·have s := s.2
     refine zo rfl (sem_boxNN [(.slice none 0 0), (.slice none 0 0), (.slice none 0 0), (.slice none 0 0)] rfl (fun k327 hb1 hb2 h328 hb3 => ?_))
     have s := s k327 hb1 hb2 h328 hb3
     obtain ⟨g329, g330, s⟩ := s
     refine ⟨fun _ => ⟨g329, g330, trivial⟩, ?_⟩
     refine ⟨zo rfl (sem_callL [(.agg #[(.int .i64 (i20)), (.int .i64 (i21)), (.int .i64 (i22)), (.int .i64 (i23))])] (TF.goes_71) rfl rfl (Spec.mono s fun v h331 hv => ?_)), trivial⟩
     obtain ⟨p332, p333, p334, i335, i336, i337, i338, rfl, s⟩ := hv
     obtain ⟨g339, g340, s⟩ := s
     refine ⟨fun _ => ⟨g339, g340, trivial⟩, ?_⟩
     exact j229 _ _ ⟨p248, p332, p333, p334, (i335), (i336), (i337), (i338), ⟨k327, 0, none⟩, ⟨k309, 0, none⟩, ⟨rfl, rfl, rfl, rfl, rfl, trivial⟩, g339, g340, s⟩
  ·have s := s.2.1
   refine zo rfl (sem_boxNN [(.slice none 0 0), (.slice none 0 0), (.slice none 0 0), (.slice none 0 0)] rfl (fun k341 hb1 hb2 h342 hb3 => ?_))
   have s := s k341 hb1 hb2 h342 hb3
   obtain ⟨g343, g344, s⟩ := s
   refine ⟨fun _ => ⟨g343, g344, trivial⟩, ?_⟩
   refine ⟨?_, ?_, trivial⟩
   ·have s := s.1
    refine zo rfl (sem_callL [(.int .i64 (i18))] (TF.goes_70) rfl rfl (Spec.mono s fun v h345 hv => ?_))
    obtain ⟨p346, rfl, s⟩ := hv
    obtain ⟨g347, g348, s⟩ := s
    refine ⟨fun _ => ⟨g347, g348, trivial⟩, ?_⟩
    refine ⟨?_, ?_, trivial⟩
    ·have s := s.1
     refine zo rfl (sem_callL [(.agg #[(.int .i64 (i20)), (.int .i64 (i21)), (.int .i64 (i22)), (.int .i64 (i23))])] (TF.goes_71) rfl rfl (Spec.mono s fun v h349 hv => ?_))
     obtain ⟨p350, p351, p352, i353, i354, i355, i356, rfl, s⟩ := hv
     obtain ⟨g357, g358, s⟩ := s
     refine ⟨fun _ => ⟨g357, g358, trivial⟩, ?_⟩
     refine ⟨zo rfl (sem_boxNN [(.slice none 0 0)] rfl (fun k359 hb1 hb2 h360 hb3 => ?_)), trivial⟩
     have s := s k359 hb1 hb2 h360 hb3
     obtain ⟨g361, g362, s⟩ := s
     refine ⟨fun _ => ⟨g361, g362, trivial⟩, ?_⟩
     exact j229 _ _ ⟨p346, p350, p351, p352, (i353), (i354), (i355), (i356), ⟨k341, 0, none⟩, ⟨k359, 0, none⟩, ⟨rfl, rfl, rfl, rfl, rfl, trivial⟩, g361, g362, s⟩
    ·have s := s.2
     refine zo rfl (sem_boxNN [(.slice none 0 0)] rfl (fun k363 hb1 hb2 h364 hb3 => ?_))
     have s := s k363 hb1 hb2 h364 hb3
     obtain ⟨g365, g366, s⟩ := s
     refine ⟨fun _ => ⟨g365, g366, trivial⟩, ?_⟩
     refine ⟨zo rfl (sem_callL [(.agg #[(.int .i64 (i20)), (.int .i64 (i21)), (.int .i64 (i22)), (.int .i64 (i23))])] (TF.goes_71) rfl rfl (Spec.mono s fun v h367 hv => ?_)), trivial⟩
     obtain ⟨p368, p369, p370, i371, i372, i373, i374, rfl, s⟩ := hv
     obtain ⟨g375, g376, s⟩ := s
     refine ⟨fun _ => ⟨g375, g376, trivial⟩, ?_⟩
     exact j229 _ _ ⟨p346, p368, p369, p370, (i371), (i372), (i373), (i374), ⟨k341, 0, none⟩, ⟨k363, 0, none⟩, ⟨rfl, rfl, rfl, rfl, rfl, trivial⟩, g375, g376, s⟩
   ·have s := s.2
    refine zo rfl (sem_boxNN [(.slice none 0 0)] rfl (fun k377 hb1 hb2 h378 hb3 => ?_))
    have s := s k377 hb1 hb2 h378 hb3
    obtain ⟨g379, g380, s⟩ := s
    refine ⟨fun _ => ⟨g379, g380, trivial⟩, ?_⟩
    refine ⟨zo rfl (sem_callL [(.int .i64 (i18))] (TF.goes_70) rfl rfl (Spec.mono s fun v h381 hv => ?_)), trivial⟩
    obtain ⟨p382, rfl, s⟩ := hv
    obtain ⟨g383, g384, s⟩ := s
    refine ⟨fun _ => ⟨g383, g384, trivial⟩, ?_⟩
    refine ⟨zo rfl (sem_callL [(.agg #[(.int .i64 (i20)), (.int .i64 (i21)), (.int .i64 (i22)), (.int .i64 (i23))])] (TF.goes_71) rfl rfl (Spec.mono s fun v h385 hv => ?_)), trivial⟩
    obtain ⟨p386, p387, p388, i389, i390, i391, i392, rfl, s⟩ := hv
    obtain ⟨g393, g394, s⟩ := s
    refine ⟨fun _ => ⟨g393, g394, trivial⟩, ?_⟩
    exact j229 _ _ ⟨p382, p386, p387, p388, (i389), (i390), (i391), (i392), ⟨k341, 0, none⟩, ⟨k377, 0, none⟩, ⟨rfl, rfl, rfl, rfl, rfl, trivial⟩, g393, g394, s⟩
  ·have s := s.2.2
   refine zo rfl (sem_boxNN [(.slice none 0 0)] rfl (fun k395 hb1 hb2 h396 hb3 => ?_))
   have s := s k395 hb1 hb2 h396 hb3
   obtain ⟨g397, g398, s⟩ := s
   refine ⟨fun _ => ⟨g397, g398, trivial⟩, ?_⟩
   refine ⟨?_, ?_, trivial⟩
   ·have s := s.1
    refine zo rfl (sem_callL [(.int .i64 (i18))] (TF.goes_70) rfl rfl (Spec.mono s fun v h399 hv => ?_))
    obtain ⟨p400, rfl, s⟩ := hv
    obtain ⟨g401, g402, s⟩ := s
    refine ⟨fun _ => ⟨g401, g402, trivial⟩, ?_⟩
    refine ⟨?_, ?_, trivial⟩
    ·have s := s.1
     refine zo rfl (sem_callL [(.agg #[(.int .i64 (i20)), (.int .i64 (i21)), (.int .i64 (i22)), (.int .i64 (i23))])] (TF.goes_71) rfl rfl (Spec.mono s fun v h403 hv => ?_))
     obtain ⟨p404, p405, p406, i407, i408, i409, i410, rfl, s⟩ := hv
     obtain ⟨g411, g412, s⟩ := s
     refine ⟨fun _ => ⟨g411, g412, trivial⟩, ?_⟩
     refine ⟨zo rfl (sem_boxNN [(.slice none 0 0), (.slice none 0 0), (.slice none 0 0), (.slice none 0 0)] rfl (fun k413 hb1 hb2 h414 hb3 => ?_)), trivial⟩
     have s := s k413 hb1 hb2 h414 hb3
     obtain ⟨g415, g416, s⟩ := s
     refine ⟨fun _ => ⟨g415, g416, trivial⟩, ?_⟩
     exact j229 _ _ ⟨p400, p404, p405, p406, (i407), (i408), (i409), (i410), ⟨k413, 0, none⟩, ⟨k395, 0, none⟩, ⟨rfl, rfl, rfl, rfl, rfl, trivial⟩, g415, g416, s⟩
    ·have s := s.2
     refine zo rfl (sem_boxNN [(.slice none 0 0), (.slice none 0 0), (.slice none 0 0), (.slice none 0 0)] rfl (fun k417 hb1 hb2 h418 hb3 => ?_))
     have s := s k417 hb1 hb2 h418 hb3
     obtain ⟨g419, g420, s⟩ := s
     refine ⟨fun _ => ⟨g419, g420, trivial⟩, ?_⟩
     refine ⟨zo rfl (sem_callL [(.agg #[(.int .i64 (i20)), (.int .i64 (i21)), (.int .i64 (i22)), (.int .i64 (i23))])] (TF.goes_71) rfl rfl (Spec.mono s fun v h421 hv => ?_)), trivial⟩
     obtain ⟨p422, p423, p424, i425, i426, i427, i428, rfl, s⟩ := hv
     obtain ⟨g429, g430, s⟩ := s
     refine ⟨fun _ => ⟨g429, g430, trivial⟩, ?_⟩
     exact j229 _ _ ⟨p400, p422, p423, p424, (i425), (i426), (i427), (i428), ⟨k417, 0, none⟩, ⟨k395, 0, none⟩, ⟨rfl, rfl, rfl, rfl, rfl, trivial⟩, g429, g430, s⟩
   ·have s := s.2
    refine zo rfl (sem_boxNN [(.slice none 0 0), (.slice none 0 0), (.slice none 0 0), (.slice none 0 0)] rfl (fun k431 hb1 hb2 h432 hb3 => ?_))
    have s := s k431 hb1 hb2 h432 hb3
    obtain ⟨g433, g434, s⟩ := s
    refine ⟨fun _ => ⟨g433, g434, trivial⟩, ?_⟩
    refine ⟨zo rfl (sem_callL [(.int .i64 (i18))] (TF.goes_70) rfl rfl (Spec.mono s fun v h435 hv => ?_)), trivial⟩
    obtain ⟨p436, rfl, s⟩ := hv
    obtain ⟨g437, g438, s⟩ := s
    refine ⟨fun _ => ⟨g437, g438, trivial⟩, ?_⟩
    refine ⟨zo rfl (sem_callL [(.agg #[(.int .i64 (i20)), (.int .i64 (i21)), (.int .i64 (i22)), (.int .i64 (i23))])] (TF.goes_71) rfl rfl (Spec.mono s fun v h439 hv => ?_)), trivial⟩
    obtain ⟨p440, p441, p442, i443, i444, i445, i446, rfl, s⟩ := hv
    obtain ⟨g447, g448, s⟩ := s
    refine ⟨fun _ => ⟨g447, g448, trivial⟩, ?_⟩
    exact j229 _ _ ⟨p436, p440, p441, p442, (i443), (i444), (i445), (i446), ⟨k431, 0, none⟩, ⟨k395, 0, none⟩, ⟨rfl, rfl, rfl, rfl, rfl, trivial⟩, g447, g448, s⟩
 refine au 3 rfl ?_
 by_cases hb449 : p1 = none
 ·replace s := s.1 hb449
  refine zg rfl (sem_ptrNilT p1 (.inl rfl) true rfl rfl TF.ptr_29 hb449 rfl ?_)
  refine au 3 rfl ?_
  refine zcall s rfl rfl TF.goes_24 ?_
  rintro _ h450 ⟨p451, rfl, s⟩
  refine au 2 rfl ?_
  exact Run.of_fin (s.imp fun h' s => j9 _ _ ⟨p451, ⟨rfl, rfl, trivial⟩, s⟩)
 ·replace s := s.2 hb449
  refine zg rfl (sem_ptrNilF p1 (.inl rfl) false rfl rfl TF.ptr_29 hb449 rfl ?_)
  refine au 3 rfl ?_
  exact Run.of_fin (s.imp fun h' s => j9 _ _ ⟨p1, ⟨rfl, rfl, trivial⟩, s⟩)
theorem C_attempt_Attempt_Else.of {B : RO} {p1 : Option Addr} {i2 : Int} {h : Heap} {Q : Heap → Prop} (s : S_attempt_Attempt_Else B p1 i2 h Q) : C_attempt_Attempt_Else B p1 i2 h Q := by
 refine zspec Tryz.func26 [] rfl rfl rfl rfl rfl ?_
 refine au 3 rfl ?_
 by_cases hb3 : p1 = none
 ·replace s := s.1 hb3
  refine zg rfl (sem_ptrNilT p1 (.inr rfl) false rfl rfl TF.ptr_30 hb3 rfl ?_)
  refine au 3 rfl ?_
  exact zf (s.imp fun _ q => ⟨rfl, q⟩)
 ·replace s := s.2 hb3
  refine zg rfl (sem_ptrNilF p1 (.inr rfl) true rfl rfl TF.ptr_30 hb3 rfl ?_)
  refine au 2 rfl ?_
  obtain ⟨A5, e6, s⟩ := s
  obtain ⟨p9, hl, s⟩ := s
  have f10 := hl
  obtain ⟨A12, e13, s⟩ := s
  obtain ⟨p16, p17, p18, i19, i20, i21, i22, hl, s⟩ := s
  have f23 := hl
  obtain ⟨A25, e26, s⟩ := s
  obtain ⟨p29, hl, s⟩ := s
  have f30 := hl
  refine Run.drawM (fun h' => cellH B h' (Addr.add A5 10) = some (.pointer p9) ∧ CellsAt B h' (Addr.add A12 2) 0 [(.pointer p16), (.pointer p17), (.pointer p18), (.int .i64 (i19)), (.int .i64 (i20)), (.int .i64 (i21)), (.int .i64 (i22))] ∧ cellH B h' (Addr.add A25 9) = some (.pointer p29) ∧ True) [15] ⟨[0, 1, 2, 4, 0, 16, 32, 64, 0, 256, 512, 1024, 2048, 0, 12416, 20488], [65535, 65534, 65533, 65531, 65535, 65519, 65503, 65471, 65535, 65279, 65023, 64511, 63487, 65535, 53119, 49143], [0, 1, 3, 7, 0, 16, 48, 112, 0, 256, 768, 1792, 3840, 0, 16368, 32767], 32768⟩ (.q 0 (.q 1 (.q 2 (.q 3 (.q 4 (.q 5 (.q 6 (.q 7 (.q 8 (.q 9 (.q 10 (.q 11 (.q 13 (.x 12 (.q 14 (.x 15 .nil .no)) .no)))))))))))))) TF.mixed (by kernel_rfl) ⟨f10, f23, f30, trivial⟩ ?_
  refine auT 1 rfl ?_
  refine zq rfl (fun _ hC => sem_nilCheck A5 (congrArg Value.pointer e6) ⟨rfl, rfl⟩) ?_
  refine auT 1 rfl ?_
  refine zq rfl (fun _ hC => sem_load1 (Addr.add A5 10) ((.pointer p9)) rfl TF.agg_105 hC.1 ⟨rfl, rfl⟩) ?_
  refine auT 1 rfl ?_
  refine zq rfl (fun _ hC => sem_nilCheck A12 (congrArg Value.pointer e13) ⟨rfl, rfl⟩) ?_
  refine auT 1 rfl ?_
  refine zq rfl (fun _ hC => sem_loadN (Addr.add A12 2) [(.pointer p16), (.pointer p17), (.pointer p18), (.int .i64 (i19)), (.int .i64 (i20)), (.int .i64 (i21)), (.int .i64 (i22))] rfl TF.agg_95 TF.sz_95 hC.2.1 ⟨rfl, rfl⟩) ?_
  refine auT 1 rfl ?_
  refine zq rfl (fun _ hC => sem_nilCheck A25 (congrArg Value.pointer e26) ⟨rfl, rfl⟩) ?_
  refine auT 1 rfl ?_
  refine zq rfl (fun _ hC => sem_load1 (Addr.add A25 9) ((.pointer p29)) rfl TF.agg_88 hC.2.2.1 ⟨rfl, rfl⟩) ?_
  refine auT 1 rfl ?_
  refine ⟨zo rfl (sem_callL [(.pointer p29)] (TF.goes_73) rfl rfl (Spec.mono s fun v h32 hv => ?_)), trivial⟩
  obtain ⟨i33, i34, i35, i36, rfl, s⟩ := hv
  obtain ⟨g37, g38, g39, s⟩ := s
  refine ⟨fun _ => ⟨g37, g38, g39, trivial⟩, ?_⟩
  refine zq rfl (fun _ _ => sem_buildSL [(0, (.agg #[(.pointer p16), (.pointer p17), (.pointer p18), (.int .i64 (i19)), (.int .i64 (i20)), (.int .i64 (i21)), (.int .i64 (i22))])), (1, (.agg #[(.int .i64 (i33)), (.int .i64 (i34)), (.int .i64 (i35)), (.int .i64 (i36))])), (2, (.int .i64 (i2)))] [(.pointer p16), (.pointer p17), (.pointer p18), (.int .i64 (i19)), (.int .i64 (i20)), (.int .i64 (i21)), (.int .i64 (i22)), (.int .i64 (i33)), (.int .i64 (i34)), (.int .i64 (i35)), (.int .i64 (i36)), (.int .i64 (i2))] TF.zero_152 TF.places_152 rfl rfl ⟨rfl, rfl⟩) ?_
  refine ⟨zo rfl (sem_callL [(.pointer p9), (.agg #[(.pointer p16), (.pointer p17), (.pointer p18), (.int .i64 (i19)), (.int .i64 (i20)), (.int .i64 (i21)), (.int .i64 (i22)), (.int .i64 (i33)), (.int .i64 (i34)), (.int .i64 (i35)), (.int .i64 (i36)), (.int .i64 (i2))])] (TF.goes_72) rfl rfl (Spec.mono s fun v h40 hv => ?_)), trivial⟩
  obtain ⟨b41, rfl, s⟩ := hv
  refine ⟨fun hz => Bool.noConfusion hz, ?_⟩
  exact zf (s.imp fun _ q => ⟨rfl, q⟩)
theorem C_attempt_Attempt_Back.of {B : RO} {p1 : Option Addr} {h : Heap} {Q : Int → Option Addr → Nat → Nat → Bool → Heap → Prop} (s : S_attempt_Attempt_Back B p1 h Q) : C_attempt_Attempt_Back B p1 h Q := by
 refine zspec Tryz.func27 [ResultVar.tmp 2, ResultVar.tmp 3, ResultVar.tmp 4] rfl rfl rfl rfl rfl ?_
 refine au 10 rfl ?_
 by_cases hb7 : p1 = none
 ·replace s := s.1 hb7
  refine zg rfl (sem_ptrNilT p1 (.inl rfl) true rfl rfl TF.ptr_30 hb7 rfl ?_)
  refine au 8 rfl ?_
  exact zr (s.imp fun _ q => ⟨_, _, _, _, _, rfl, q⟩)
 ·replace s := s.2 hb7
  refine zg rfl (sem_ptrNilF p1 (.inl rfl) false rfl rfl TF.ptr_30 hb7 rfl ?_)
  refine au 6 rfl ?_
  refine znil s rfl rfl fun A8 s => ?_
  refine au 1 rfl ?_
  refine zl s rfl rfl TF.agg_105 fun p10 s => ?_
  refine zcall s rfl rfl TF.goes_74 ?_
  rintro _ h11 ⟨p12, p13, p14, i15, i16, i17, i18, i19, i20, i21, i22, i23, b24, rfl, s⟩
  refine au 2 rfl ?_
  cases b24
  ·replace s := s.2 rfl
   refine au 1 rfl ?_
   refine zal s rfl TF.zero_152 rfl fun k25 h26 s => ?_
   refine zsn s rfl rfl rfl TF.sz_152 rfl fun h27 s => ?_
   refine au 15 rfl ?_
   exact zr (s.imp fun _ q => ⟨_, _, _, _, _, rfl, q⟩)
  ·replace s := s.1 rfl
   refine au 1 rfl ?_
   refine zal s rfl TF.zero_152 rfl fun k28 h29 s => ?_
   refine zsn s rfl rfl rfl TF.sz_152 rfl fun h30 s => ?_
   refine au 14 rfl ?_
   obtain ⟨p31, p32, p33, i34, i35, i36, i37, hl, s⟩ := s
   refine zn hl rfl rfl TF.agg_95 TF.sz_95 rfl ?_
   refine znil s rfl rfl fun A38 s => ?_
   refine au 1 rfl ?_
   refine zsn s rfl rfl rfl TF.sz_95 rfl fun h40 s => ?_
   refine au 2 rfl ?_
   obtain ⟨i42, hl, s⟩ := s
   have f43 := hl
   obtain ⟨A45, e46, s⟩ := s
   obtain ⟨p49, hl, s⟩ := s
   have f50 := hl
   obtain ⟨i52, i53, i54, i55, hl, s⟩ := s
   have f56 := hl
   refine Run.drawM (fun h' => cellH B h' ⟨k28, 11, none⟩ = some (.int .i64 (i42)) ∧ cellH B h' (Addr.add A45 9) = some (.pointer p49) ∧ CellsAt B h' ⟨k28, 7, none⟩ 0 [(.int .i64 (i52)), (.int .i64 (i53)), (.int .i64 (i54)), (.int .i64 (i55))] ∧ True) [] ⟨[0, 1, 0, 4, 8, 16, 0, 64, 160, 259, 1023, 2047], [4095, 4094, 4095, 4091, 4087, 4079, 4095, 4031, 3935, 4093, 3839, 4095], [0, 0, 0, 0, 0, 0, 0, 0, 0, 0, 0, 0], 0⟩ (.q 0 (.q 1 (.q 2 (.q 3 (.q 4 (.q 5 (.q 6 (.q 7 (.x 8 (.q 9 (.q 10 (.q 11 .nil))) .no))))))))) TF.mixed (by kernel_rfl) ⟨f43, f50, f56, trivial⟩ ?_
   refine auT 1 rfl ?_
   refine zq rfl (fun _ hC => sem_load1 ⟨k28, 11, none⟩ ((.int .i64 (i42))) rfl TF.agg_3 hC.1 ⟨rfl, rfl⟩) ?_
   refine auT 1 rfl ?_
   refine zq rfl (fun _ hC => sem_nilCheck A45 (congrArg Value.pointer e46) ⟨rfl, rfl⟩) ?_
   refine auT 1 rfl ?_
   refine zq rfl (fun _ hC => sem_load1 (Addr.add A45 9) ((.pointer p49)) rfl TF.agg_88 hC.2.1 ⟨rfl, rfl⟩) ?_
   refine auT 1 rfl ?_
   refine zq rfl (fun _ hC => sem_loadN ⟨k28, 7, none⟩ [(.int .i64 (i52)), (.int .i64 (i53)), (.int .i64 (i54)), (.int .i64 (i55))] rfl TF.agg_149 TF.sz_149 hC.2.2.1 ⟨rfl, rfl⟩) ?_
   refine ⟨zo rfl (sem_callL [(.pointer p49), (.agg #[(.int .i64 (i52)), (.int .i64 (i53)), (.int .i64 (i54)), (.int .i64 (i55))])] (TF.goes_75) rfl rfl (Spec.mono s fun v h57 hv => ?_)), trivial⟩
   obtain ⟨a58, n59, c60, rfl, s⟩ := hv
   obtain ⟨g61, g62, g63, s⟩ := s
   refine ⟨fun _ => ⟨g61, g62, g63, trivial⟩, ?_⟩
   refine auT 3 rfl ?_
   exact zr (s.imp fun _ q => ⟨_, _, _, _, _, rfl, q⟩)
theorem C_draft_Draft_int_Get.of {B : RO} {p1 : Option Addr} {i2 : Int} {h : Heap} {Q : Int → Bool → Heap → Prop} (s : S_draft_Draft_int_Get B p1 i2 h Q) : C_draft_Draft_int_Get B p1 i2 h Q := by
 refine zspec Tryz.func39 [ResultVar.tmp 4, ResultVar.tmp 5] rfl rfl rfl rfl rfl ?_
 refine au 13 rfl ?_
 by_cases hb5 : p1 = none
 ·replace s := s.1 hb5
  refine zg rfl (sem_ptrNilT p1 (.inl rfl) true rfl rfl TF.ptr_91 hb5 rfl ?_)
  refine au 8 rfl ?_
  exact zr (s.imp fun _ q => ⟨_, _, rfl, q⟩)
 ·replace s := s.2 hb5
  refine zg rfl (sem_ptrNilF p1 (.inl rfl) false rfl rfl TF.ptr_91 hb5 rfl ?_)
  refine au 7 rfl ?_
  refine zcall s rfl rfl TF.goes_81 ?_
  rintro _ h6 ⟨i7, b8, rfl, s⟩
  refine au 2 rfl ?_
  cases b8
  ·replace s := s.2 rfl
   refine au 1 rfl ?_
   refine au 16 rfl ?_
   exact zr (s.imp fun _ q => ⟨_, _, rfl, q⟩)
  ·replace s := s.1 rfl
   refine au 1 rfl ?_
   refine au 14 rfl ?_
   refine znil s rfl rfl fun A9 s => ?_
   refine au 1 rfl ?_
   refine Run.ldSl s fun a11 n12 c13 h14 hl s => ?_
   refine zg rfl (sem_load1 A9 ((.slice a11 n12 c13)) rfl TF.agg_164 hl ?_)
   refine au 1 rfl ?_
   obtain ⟨A15, e16, hi0, hi1, s⟩ := s
   refine zg rfl (sem_indexAddrS A15 n12 c13 .i64 (i7) (congrArg (fun a => Value.slice a n12 c13) e16) rfl TF.slc_164 hi0 hi1 ?_)
   refine au 1 rfl ?_
   refine zl s rfl rfl TF.agg_3 fun i17 s => ?_
   refine au 3 rfl ?_
   exact zr (s.imp fun _ q => ⟨_, _, rfl, q⟩)
theorem C_attempt_Attempt_note.of {B : RO} {p1 : Option Addr} {i2 : Int} {i3 : Int} {h : Heap} {Q : Int → Heap → Prop} (s : S_attempt_Attempt_note B p1 i2 i3 h Q) : C_attempt_Attempt_note B p1 i2 i3 h Q := by
 refine zspec Tryz.func40 [ResultVar.tmp 6] rfl rfl rfl rfl rfl ?_
 refine au 6 rfl ?_
 obtain ⟨A6, e7, s⟩ := s
 obtain ⟨p10, hl, s⟩ := s
 have f11 := hl
 obtain ⟨A13, e14, s⟩ := s
 obtain ⟨p17, hl, s⟩ := s
 have f18 := hl
 refine Run.drawM (fun h' => cellH B h' (Addr.add A6 1) = some (.pointer p10) ∧ cellH B h' A13 = some (.pointer p17) ∧ True) [] ⟨[0, 1, 2, 4, 0, 16, 32, 64, 128, 0, 0, 1800, 2048], [8191, 8190, 8189, 8187, 8191, 8175, 8159, 8127, 8063, 8191, 8191, 6391, 6143], [0, 0, 0, 0, 0, 0, 0, 0, 0, 0, 0, 0, 0], 0⟩ (.q 0 (.q 1 (.q 2 (.q 3 (.q 4 (.q 5 (.q 6 (.q 7 (.q 9 (.q 10 (.x 8 (.x 11 (.q 12 .nil) .no) .no))))))))))) TF.mixed (by kernel_rfl) ⟨f11, f18, trivial⟩ ?_
 refine auT 1 rfl ?_
 refine zq rfl (fun _ hC => sem_nilCheck A6 (congrArg Value.pointer e7) ⟨rfl, rfl⟩) ?_
 refine auT 1 rfl ?_
 refine zq rfl (fun _ hC => sem_load1 (Addr.add A6 1) ((.pointer p10)) rfl TF.agg_69 hC.1 ⟨rfl, rfl⟩) ?_
 refine auT 1 rfl ?_
 refine zq rfl (fun _ hC => sem_nilCheck A13 (congrArg Value.pointer e14) ⟨rfl, rfl⟩) ?_
 refine auT 1 rfl ?_
 refine zq rfl (fun _ hC => sem_load1 A13 ((.pointer p17)) rfl TF.agg_29 hC.2.1 ⟨rfl, rfl⟩) ?_
 refine auT 2 rfl ?_
 refine ⟨zo rfl (sem_callL [(.pointer p17)] (TF.goes_20) rfl rfl (Spec.mono s fun v h21 hv => ?_)), trivial⟩
 obtain ⟨l22, rfl, s⟩ := hv
 obtain ⟨g23, g24, s⟩ := s
 refine ⟨fun _ => ⟨g23, g24, trivial⟩, ?_⟩
 refine ⟨zo rfl (sem_callL [(.pointer p10), (.agg (List.toArray l22)), (.int .i64 (i2)), (.int .i64 (i3))] (TF.goes_82) rfl rfl (Spec.mono s fun v h25 hv => ?_)), trivial⟩
 obtain ⟨b26, rfl, s⟩ := hv
 cases b26
 ·replace s := s.2 rfl
  obtain ⟨g27, g28, s⟩ := s
  refine ⟨fun _ => ⟨g27, g28, trivial⟩, ?_⟩
  refine auT 1 rfl ?_
  refine au 5 rfl ?_
  exact zr (s.imp fun _ q => ⟨_, rfl, q⟩)
 ·replace s := s.1 rfl
  obtain ⟨g29, g30, s⟩ := s
  refine ⟨fun _ => ⟨g29, g30, trivial⟩, ?_⟩
  refine auT 1 rfl ?_
  refine au 6 rfl ?_
  exact zr (s.imp fun _ q => ⟨_, rfl, q⟩)
theorem C_cell_Row_int_Get.of {B : RO} {p1 : Option Addr} {i2 : Int} {h : Heap} {Q : Int → Int → Heap → Prop} (s : S_cell_Row_int_Get B p1 i2 h Q) : C_cell_Row_int_Get B p1 i2 h Q := by
 refine zspec Tryz.func41 [ResultVar.tmp 4, ResultVar.tmp 5] rfl rfl rfl rfl rfl ?_
 refine au 10 rfl ?_
 refine zcall s rfl rfl TF.goes_83 ?_
 rintro _ h5 ⟨b6, rfl, s⟩
 cases b6
 ·replace s := s.2 rfl
  refine au 13 rfl ?_
  exact zr (s.imp fun _ q => ⟨_, _, rfl, q⟩)
 ·replace s := s.1 rfl
  refine au 5 rfl ?_
  refine Run.drawM (fun h' => h' = h5) [] ⟨[0, 1, 2, 4, 0, 24, 32, 64, 0, 256, 512, 1024, 0, 6144, 8192, 16384, 255, 131071], [262143, 262142, 262141, 262139, 262143, 262119, 262111, 262079, 262143, 261887, 261631, 261119, 262143, 255999, 253951, 245759, 262015, 229375], [0, 0, 0, 0, 0, 0, 0, 0, 0, 0, 0, 0, 0, 0, 0, 0, 0, 0], 0⟩ (.q 0 (.q 1 (.q 2 (.q 3 (.q 4 (.q 5 (.q 6 (.q 7 (.q 8 (.q 9 (.q 10 (.q 11 (.q 12 (.q 13 (.q 14 (.q 15 (.q 16 (.q 17 .nil)))))))))))))))))) TF.mixed (by kernel_rfl) rfl ?_
  refine auT 1 rfl ?_
  obtain ⟨A7, e8, s⟩ := s
  refine zqe rfl (sem_nilCheck A7 (congrArg Value.pointer e8) ⟨rfl, rfl⟩) ?_
  refine auT 1 rfl ?_
  obtain ⟨a9, n10, c11, hl, s⟩ := s
  refine zqe rfl (sem_load1 A7 ((.slice a9 n10 c11)) rfl TF.agg_170 hl ⟨rfl, rfl⟩) ?_
  refine auT 1 rfl ?_
  obtain ⟨A12, e13, hi0, hi1, s⟩ := s
  refine zqe rfl (sem_indexAddrS A12 n10 c11 .i64 (i2) (congrArg (fun a => Value.slice a n10 c11) e13) rfl TF.slc_170 hi0 hi1 ⟨rfl, rfl⟩) ?_
  refine auT 1 rfl ?_
  obtain ⟨i14, hl, s⟩ := s
  refine zqe rfl (sem_load1 (Addr.add A12 (Int.toNat (i2) * 2)) ((.int .i64 (i14))) rfl TF.agg_3 hl ⟨rfl, rfl⟩) ?_
  refine auT 1 rfl ?_
  obtain ⟨A15, e16, s⟩ := s
  refine zqe rfl (sem_nilCheck A15 (congrArg Value.pointer e16) ⟨rfl, rfl⟩) ?_
  refine auT 1 rfl ?_
  obtain ⟨a17, n18, c19, hl, s⟩ := s
  refine zqe rfl (sem_load1 A15 ((.slice a17 n18 c19)) rfl TF.agg_170 hl ⟨rfl, rfl⟩) ?_
  refine auT 1 rfl ?_
  obtain ⟨A20, e21, hi0, hi1, s⟩ := s
  refine zqe rfl (sem_indexAddrS A20 n18 c19 .i64 (i2) (congrArg (fun a => Value.slice a n18 c19) e21) rfl TF.slc_170 hi0 hi1 ⟨rfl, rfl⟩) ?_
  refine auT 1 rfl ?_
  obtain ⟨i22, hl, s⟩ := s
  refine zqe rfl (sem_load1 (Addr.add (Addr.add A20 (Int.toNat (i2) * 2)) 1) ((.int .i64 (i22))) rfl TF.agg_3 hl ⟨rfl, rfl⟩) ?_
  refine auT 2 rfl ?_
  exact zr (s.imp fun _ q => ⟨_, _, rfl, q⟩)
theorem C_reads_Set_Valid.of {B : RO} {p1 : Option Addr} {l2 : List Value} {h : Heap} {Q : Bool → Heap → Prop} (s : S_reads_Set_Valid B p1 l2 h Q) : C_reads_Set_Valid B p1 l2 h Q := by
 refine zspec Tryz.func42 [ResultVar.tmp 4] rfl rfl rfl rfl rfl ?_
 refine au 2 rfl ?_
 refine zg rfl (sem_boxNN l2 rfl (fun k4 hb1 hb2 h5 hb3 => ?_))
 have s := s k4 hb1 hb2 h5 hb3
 refine au 6 rfl ?_
 by_cases hb6 : p1 = none
 ·replace s := s.1 hb6
  refine zg rfl (sem_ptrNilT p1 (.inl rfl) true rfl rfl TF.ptr_69 hb6 rfl ?_)
  refine au 6 rfl ?_
  exact zr (s.imp fun _ q => ⟨_, rfl, q⟩)
 ·replace s := s.2 hb6
  refine zg rfl (sem_ptrNilF p1 (.inl rfl) false rfl rfl TF.ptr_69 hb6 rfl ?_)
  refine au 7 rfl ?_
  refine znil s rfl rfl fun A7 s => ?_
  refine au 1 rfl ?_
  refine Run.ldSl s fun a9 n10 c11 h12 hl s => ?_
  refine zg rfl (sem_load1 A7 ((.slice a9 n10 c11)) rfl TF.agg_135 hl ?_)
  refine zg rfl (sem_lenSl a9 n10 c11 rfl TF.sl_135 ?_)
  refine au 3 rfl ?_
  obtain ⟨J18, m16, h0, s⟩ := s
  refine Run.of_fin (h0.imp fun h' h0 => ?_)
  refine Run.loop (σ := Int × Nat) (fun x e h => J18 x.1 x.2 h ∧ Agree [(3, (.pointer (some ⟨k4, 0, none⟩))), (12, (.slice a9 n10 c11)), (13, (.int .i64 ((n10 : Nat)))), (14, (.int .i64 (x.1)))] e) (fun x => x.2) ((0), m16) ⟨h0, ⟨rfl, rfl, rfl, rfl, trivial⟩⟩ ?_; clear h0
  rintro ⟨i13, m15⟩ e h14 ⟨hJ, hag⟩ ih17
  have s := s i13 m15 h14 hJ; clear hJ
  refine Run.env hag ?_; clear hag
  refine au 2 rfl ?_
  refine zt s rfl rfl rfl binI_lss_t binI_lss_f (fun s => ?_) fun s => ?_
  ·refine au 8 rfl ?_
   obtain ⟨A19, e20, hi0, hi1, s⟩ := s
   refine zg rfl (sem_indexAddrS A19 n10 c11 .i64 (i13) (congrArg (fun a => Value.slice a n10 c11) e20) rfl TF.slc_135 hi0 hi1 ?_)
   obtain ⟨i21, i22, i23, hl, s⟩ := s
   refine zn hl rfl rfl TF.agg_174 TF.sz_174 rfl ?_
   refine zal s rfl TF.zero_174 rfl fun k24 h25 s => ?_
   refine zsn s rfl rfl rfl TF.sz_174 rfl fun h26 s => ?_
   refine au 2 rfl ?_
   obtain ⟨l27, nl27, hl, s⟩ := s
   have f28 := hl
   obtain ⟨i30, hl, s⟩ := s
   have f31 := hl
   obtain ⟨i33, hl, s⟩ := s
   have f34 := hl
   obtain ⟨i36, hl, s⟩ := s
   have f37 := hl
   refine Run.drawM (fun h' => CellsAt B h' ⟨k4, 0, none⟩ 0 l27 ∧ cellH B h' ⟨k24, 0, none⟩ = some (.int .i64 (i30)) ∧ cellH B h' ⟨k24, 1, none⟩ = some (.int .i64 (i33)) ∧ cellH B h' ⟨k24, 2, none⟩ = some (.int .i64 (i36)) ∧ True) [] ⟨[0, 0, 2, 0, 8, 21, 0, 64, 160], [511, 511, 509, 511, 503, 490, 511, 447, 351], [0, 0, 0, 0, 0, 0, 0, 0, 0], 0⟩ (.q 0 (.q 1 (.q 2 (.q 3 (.q 4 (.q 6 (.q 7 (.x 5 (.q 8 .nil) .no)))))))) TF.mixed (by kernel_rfl) ⟨f28, f31, f34, f37, trivial⟩ ?_
   refine zq rfl (fun _ hC => sem_loadN ⟨k4, 0, none⟩ l27 rfl TF.agg_65 (TF.sz_65.trans (congrArg some nl27.symm)) hC.1 ⟨rfl, rfl⟩) ?_
   refine auT 1 rfl ?_
   refine zq rfl (fun _ hC => sem_load1 ⟨k24, 0, none⟩ ((.int .i64 (i30))) rfl TF.agg_110 hC.2.1 ⟨rfl, rfl⟩) ?_
   refine auT 1 rfl ?_
   refine zq rfl (fun _ hC => sem_load1 ⟨k24, 1, none⟩ ((.int .i64 (i33))) rfl TF.agg_3 hC.2.2.1 ⟨rfl, rfl⟩) ?_
   refine auT 1 rfl ?_
   refine zq rfl (fun _ hC => sem_load1 ⟨k24, 2, none⟩ ((.int .i64 (i36))) rfl TF.agg_3 hC.2.2.2.1 ⟨rfl, rfl⟩) ?_
   refine ⟨zo rfl (sem_callL [(.agg (List.toArray l27)), (.int .i64 (i30)), (.int .i64 (i33))] (TF.goes_84) rfl rfl (Spec.mono s fun v h38 hv => ?_)), trivial⟩
   obtain ⟨i39, rfl, s⟩ := hv
   obtain ⟨g40, g41, g42, g43, s⟩ := s
   refine ⟨fun _ => ⟨g40, g41, g42, g43, trivial⟩, ?_⟩
   by_cases hb44 : (i39 : Int) = i36
   ·replace s := s.1 hb44
    refine zq rfl (fun _ _ => sem_binI .i64 (i39) (i36) (.bool false) rfl rfl (binI_neq_t hb44) ⟨rfl, rfl⟩) ?_
    refine au 7 rfl ?_
    exact Run.of_fin (s.imp fun h' ⟨m', hm, s⟩ => ih17 ((IntKind.wrap .i64 ((i13) + (1))), m') _ _ ⟨s, ⟨rfl, rfl, rfl, rfl, trivial⟩⟩ hm)
   ·replace s := s.2 hb44
    refine zq rfl (fun _ _ => sem_binI .i64 (i39) (i36) (.bool true) rfl rfl (binI_neq_f hb44) ⟨rfl, rfl⟩) ?_
    refine au 5 rfl ?_
    exact zr (s.imp fun _ q => ⟨_, rfl, q⟩)
  ·refine au 8 rfl ?_
   exact zr (s.imp fun _ q => ⟨_, rfl, q⟩)
theorem C_draft_Draft_int_All.of {B : RO} {p1 : Option Addr} {h : Heap} {Q : Value → Heap → Prop} (s : S_draft_Draft_int_All B p1 h Q) : C_draft_Draft_int_All B p1 h Q := by
 refine zspec Tryz.func43 [ResultVar.tmp 2] rfl rfl rfl rfl rfl ?_
 refine au 2 rfl ?_
 refine zb1 s rfl rfl rfl rfl fun k3 h4 s => ?_
 refine au 7 rfl ?_
 exact zr (s.imp fun _ q => ⟨_, rfl, q⟩)
theorem C_cell_Row_int_Set.of {B : RO} {p1 : Option Addr} {i2 : Int} {i3 : Int} {i4 : Int} {h : Heap} {Q : Bool → Heap → Prop} (s : S_cell_Row_int_Set B p1 i2 i3 i4 h Q) : C_cell_Row_int_Set B p1 i2 i3 i4 h Q := by
 refine zspec Tryz.func44 [ResultVar.tmp 8] rfl rfl rfl rfl rfl ?_
 refine au 9 rfl ?_
 refine zcall s rfl rfl TF.goes_83 ?_
 rintro _ h6 ⟨b7, rfl, s⟩
 cases b7
 ·replace s := s.2 rfl
  refine au 7 rfl ?_
  exact zr (s.imp fun _ q => ⟨_, rfl, q⟩)
 ·replace s := s.1 rfl
  refine au 7 rfl ?_
  refine znil s rfl rfl fun A8 s => ?_
  refine au 1 rfl ?_
  refine Run.ldSl s fun a10 n11 c12 h13 hl s => ?_
  refine zg rfl (sem_load1 A8 ((.slice a10 n11 c12)) rfl TF.agg_170 hl ?_)
  refine au 3 rfl ?_
  refine zg rfl (sem_buildSL [(0, (.int .i64 (i3))), (1, (.int .i64 (i4)))] [(.int .i64 (i3)), (.int .i64 (i4))] TF.zero_169 TF.places_169 rfl rfl ?_)
  obtain ⟨A14, e15, hi0, hi1, s⟩ := s
  refine zg rfl (sem_indexAddrS A14 n11 c12 .i64 (i2) (congrArg (fun a => Value.slice a n11 c12) e15) rfl TF.slc_170 hi0 hi1 ?_)
  refine zsn s rfl rfl rfl TF.sz_169 rfl fun h16 s => ?_
  refine au 5 rfl ?_
  exact zr (s.imp fun _ q => ⟨_, rfl, q⟩)
theorem C_sheet_Sheet_Over.of {B : RO} {p1 : Option Addr} {p2 : Option Addr} {i3 : Int} {h : Heap} {Q : Int → Heap → Prop} (s : S_sheet_Sheet_Over B p1 p2 i3 h Q) : C_sheet_Sheet_Over B p1 p2 i3 h Q := by
 refine zspec Tryz.func45 [ResultVar.tmp 6] rfl rfl rfl rfl rfl ?_
 refine au 2 rfl ?_
 refine zb1 s rfl rfl rfl rfl fun k5 h6 s => ?_
 refine zb1 s rfl rfl rfl rfl fun k7 h8 s => ?_
 refine au 4 rfl ?_
 refine zal s rfl TF.zero_3 rfl fun k9 h10 s => ?_
 refine zs1 s rfl rfl rfl rfl TF.sz_3 fun h11 s => ?_
 refine au 5 rfl ?_
 refine zcall s rfl rfl TF.goes_78 ?_
 rintro _ h12 ⟨p13, rfl, s⟩
 refine zcall s rfl rfl TF.goes_86 ?_
 rintro v15 h14 ⟨_, rfl, s⟩
 refine au 2 rfl ?_
 obtain ⟨xs23, G19, J22, hit, hins, hG, h0, s, hR⟩ := s
 refine Run.of_fin (h0.imp fun h' h0 => ?_)
 refine Run.range (v15) (xs23.map (fun x : Int × Bool × ByteArray => [(.int .i64 (x.1)), (.agg #[(.bool x.2.1), (.string x.2.2)])])) G19 J22 rfl hit hins hG h0 rfl (fun a ha => by obtain ⟨x, _, rfl⟩ := List.mem_map.1 ha; rfl) ?_ ?_
 ·rintro q21 args h20 ha hJ
  obtain ⟨⟨i16, b17, s18⟩, hx, rfl⟩ := Option.map_eq_some_iff.1 ((List.getElem?_map ..).symm.trans ha)
  have s := s q21 h20 i16 b17 s18 hx hJ; clear hJ hx ha
  refine zput rfl ?_
  refine au 5 rfl ?_
  refine zal s rfl TF.zero_119 rfl fun k24 h25 s => ?_
  refine zsn s rfl rfl rfl TF.sz_119 rfl fun h26 s => ?_
  refine au 1 rfl ?_
  refine Run.begin ⟨rfl, ?_⟩
  refine au 3 rfl ?_
  refine zl s rfl rfl TF.agg_40 fun p27 s => ?_
  refine au 1 rfl ?_
  obtain ⟨b28, s29, hl, s⟩ := s
  refine zn hl rfl rfl TF.agg_119 TF.sz_119 rfl ?_
  refine zl s rfl rfl TF.agg_3 fun i30 s => ?_
  refine zcall s rfl rfl TF.goes_87 ?_
  rintro _ h31 ⟨b32, rfl, s⟩
  cases b32
  ·replace s := s.2 rfl
   refine au 4 rfl ?_
   refine Run.of_fin (s.imp fun h' s => ?_)
   exact Run.fall (.inl ⟨rfl, s⟩)
  ·replace s := s.1 rfl
   refine au 3 rfl ?_
   refine zl s rfl rfl TF.agg_3 fun i33 s => ?_
   refine au 1 rfl ?_
   refine zs1 s rfl rfl rfl rfl TF.sz_3 fun h34 s => ?_
   refine au 2 rfl ?_
   refine Run.of_fin (s.imp fun h' s => ?_)
   exact Run.fall (.inl ⟨rfl, s⟩)
 ·intro h20 hJ
  have s := hR h20 (by simpa using hJ); clear hJ hR
  refine au 3 rfl ?_
  refine zl s rfl rfl TF.agg_3 fun i35 s => ?_
  refine au 2 rfl ?_
  exact zr (s.imp fun _ q => ⟨_, rfl, q⟩)
theorem C_cursor_Cursor_Read.of {B : RO} {p1 : Option Addr} {i2 : Int} {h : Heap} {Q : Int → Heap → Prop} (s : S_cursor_Cursor_Read B p1 i2 h Q) : C_cursor_Cursor_Read B p1 i2 h Q := by
 refine zspec Tryz.func46 [ResultVar.tmp 4] rfl rfl rfl rfl rfl ?_
 refine au 4 rfl ?_
 refine Run.seqJ (fun e h5 => Agree [(0, (.pointer p1)), (1, (.int .i64 (i2)))] e ∧ S_cursor_Cursor_Read_J1 B p1 i2 h5 Q) ?_ fun j4 => ?_
 ·rintro e h5 ⟨hag, s⟩
  refine Run.env hag ?_; clear hag
  refine au 4 rfl ?_
  refine znil s rfl rfl fun A6 s => ?_
  refine au 1 rfl ?_
  obtain ⟨hi0, hi1, s⟩ := s
  refine zg rfl (sem_indexAddrA A6 .i64 (i2) rfl rfl TF.arr_53 hi0 hi1 ?_)
  refine zl s rfl rfl TF.agg_3 fun i8 s => ?_
  refine au 2 rfl ?_
  exact zr (s.imp fun _ q => ⟨_, rfl, q⟩)
 refine au 3 rfl ?_
 by_cases hb9 : p1 = none
 ·replace s := s.1 hb9
  refine zg rfl (sem_ptrNilT p1 (.inl rfl) true rfl rfl TF.ptr_93 hb9 rfl ?_)
  refine au 11 rfl ?_
  exact zr (s.imp fun _ q => ⟨_, rfl, q⟩)
 ·replace s := s.2 hb9
  refine zg rfl (sem_ptrNilF p1 (.inl rfl) false rfl rfl TF.ptr_93 hb9 rfl ?_)
  refine au 2 rfl ?_
  refine zcall s rfl rfl TF.goes_88 ?_
  rintro _ h10 ⟨b11, rfl, s⟩
  cases b11
  ·replace s := s.2 rfl
   refine au 8 rfl ?_
   exact zr (s.imp fun _ q => ⟨_, rfl, q⟩)
  ·replace s := s.1 rfl
   refine au 5 rfl ?_
   exact Run.of_fin (s.imp fun h' s => j4 _ _ ⟨⟨rfl, rfl, trivial⟩, s⟩)
theorem C_feed_Feed_Place.of {B : RO} {p1 : Option Addr} {i2 : Int} {h : Heap} {Q : Int → Int → Heap → Prop} (s : S_feed_Feed_Place B p1 i2 h Q) : C_feed_Feed_Place B p1 i2 h Q := by
 refine zspec Tryz.func47 [ResultVar.tmp 4, ResultVar.tmp 5] rfl rfl rfl rfl rfl ?_
 refine au 9 rfl ?_
 by_cases hb5 : p1 = none
 ·replace s := s.1 hb5
  refine zg rfl (sem_ptrNilT p1 (.inl rfl) true rfl rfl TF.ptr_41 hb5 rfl ?_)
  refine au 7 rfl ?_
  exact zr (s.imp fun _ q => ⟨_, _, rfl, q⟩)
 ·replace s := s.2 hb5
  refine zg rfl (sem_ptrNilF p1 (.inl rfl) false rfl rfl TF.ptr_41 hb5 rfl ?_)
  refine au 6 rfl ?_
  refine znil s rfl rfl fun A6 s => ?_
  refine au 1 rfl ?_
  refine zl s rfl rfl TF.agg_39 fun p8 s => ?_
  refine au 1 rfl ?_
  refine zcall s rfl rfl TF.goes_41 ?_
  rintro _ h9 ⟨i10, i11, rfl, s⟩
  refine au 5 rfl ?_
  exact zr (s.imp fun _ q => ⟨_, _, rfl, q⟩)
end Go.Proofs.YtgldgabefiialaaGreat.H
namespace Go.Proofs.YtgldgabefiialaaGreat.H
open Go
set_option linter.unusedVariables false
set_option maxRecDepth 100000
set_option maxHeartbeats 4000000
theorem C_feed_Feed_Take.of {B : RO} {p1 : Option Addr} {i2 : Int} {i3 : Int} {i4 : Int} {h : Heap} {Q : Bool → Heap → Prop} (s : S_feed_Feed_Take B p1 i2 i3 i4 h Q) : C_feed_Feed_Take B p1 i2 i3 i4 h Q := by
 refine zspec Tryz.func48 [ResultVar.tmp 8] rfl rfl rfl rfl rfl ?_
 refine au 8 rfl ?_
 refine zcall s rfl rfl TF.goes_47 ?_
 rintro _ h6 ⟨i7, i8, rfl, s⟩
 refine au 6 rfl ?_
 refine Run.seqJ (fun e h10 => Agree [(0, (.pointer p1)), (1, (.int .i64 (i2))), (2, (.int .i64 (i3))), (3, (.int .i64 (i4)))] e ∧ S_feed_Feed_Take_J1 B p1 i2 i3 i4 h10 Q) ?_ fun j9 => ?_
 ·rintro e h10 ⟨hag, s⟩
  refine Run.env hag ?_; clear hag
  refine au 3 rfl ?_
  refine znil s rfl rfl fun A11 s => ?_
  refine au 1 rfl ?_
  refine zl s rfl rfl TF.agg_39 fun p13 s => ?_
  refine au 3 rfl ?_
  refine zcall s rfl rfl TF.goes_44 ?_
  rintro _ h14 ⟨b15, rfl, s⟩
  refine au 2 rfl ?_
  exact zr (s.imp fun _ q => ⟨_, rfl, q⟩)
 refine au 4 rfl ?_
 refine zcall s rfl rfl TF.goes_58 ?_
 rintro _ h16 ⟨b17, rfl, s⟩
 cases b17
 ·replace s := s.2 rfl
  refine au 23 rfl ?_
  exact zr (s.imp fun _ q => ⟨_, rfl, q⟩)
 ·replace s := s.1 rfl
  refine au 4 rfl ?_
  refine zt s rfl rfl rfl binI_lss_t binI_lss_f (fun s => ?_) fun s => ?_
  ·refine au 18 rfl ?_
   exact zr (s.imp fun _ q => ⟨_, rfl, q⟩)
  ·refine au 5 rfl ?_
   refine znil s rfl rfl fun A18 s => ?_
   refine au 1 rfl ?_
   obtain ⟨hi0, hi1, s⟩ := s
   refine zg rfl (sem_indexAddrA A18 .i64 (i2) rfl rfl TF.arr_56 hi0 hi1 ?_)
   refine zl s rfl rfl TF.agg_9 fun s20 s => ?_
   refine zg rfl (sem_lenStr s20 rfl TF.isStr_9 ?_)
   refine zt s rfl rfl rfl binI_gtr_t binI_gtr_f (fun s => ?_) fun s => ?_
   ·refine au 7 rfl ?_
    exact zr (s.imp fun _ q => ⟨_, rfl, q⟩)
   ·refine au 4 rfl ?_
    exact Run.of_fin (s.imp fun h' s => j9 _ _ ⟨⟨rfl, rfl, rfl, rfl, trivial⟩, s⟩)
theorem C_tome_Tome_Get.of {B : RO} {p1 : Option Addr} {i2 : Int} {h : Heap} {Q : Bool → ByteArray → Int → Heap → Prop} (s : S_tome_Tome_Get B p1 i2 h Q) : C_tome_Tome_Get B p1 i2 h Q := by
 refine zspec Tryz.func49 [ResultVar.cell 4 119, ResultVar.tmp 5] rfl rfl rfl rfl rfl ?_
 refine au 2 rfl ?_
 refine zal s rfl TF.zero_119 rfl fun k6 h7 s => ?_
 refine au 6 rfl ?_
 by_cases hb8 : p1 = none
 ·replace s := s.1 hb8
  refine zg rfl (sem_ptrNilT p1 (.inl rfl) true rfl rfl TF.ptr_40 hb8 rfl ?_)
  refine au 4 rfl ?_
  refine zg rfl (sem_buildSL [] [(.bool false), (.string ByteArray.empty)] TF.zero_119 TF.places_119 rfl rfl ?_)
  refine zsn s rfl rfl rfl TF.sz_119 rfl fun h9 s => ?_
  refine au 2 rfl ?_
  obtain ⟨b10, s11, hl0, s⟩ := s
  exact zr (⟨⟨k6, 0, none⟩, (.agg #[(.bool b10), (.string s11)]), rfl, loadHN TF.agg_119 TF.sz_119 hl0, s.imp fun _ q => ⟨_, _, _, rfl, q⟩⟩)
 ·replace s := s.2 hb8
  refine zg rfl (sem_ptrNilF p1 (.inl rfl) false rfl rfl TF.ptr_40 hb8 rfl ?_)
  refine au 6 rfl ?_
  refine znil s rfl rfl fun A12 s => ?_
  refine au 1 rfl ?_
  refine zl s rfl rfl TF.agg_182 fun p14 s => ?_
  refine au 1 rfl ?_
  refine zcall s rfl rfl TF.goes_89 ?_
  rintro _ h15 ⟨b16, s17, i18, rfl, s⟩
  refine au 2 rfl ?_
  refine zsn s rfl rfl rfl TF.sz_119 rfl fun h19 s => ?_
  refine au 2 rfl ?_
  obtain ⟨b20, s21, hl0, s⟩ := s
  exact zr (⟨⟨k6, 0, none⟩, (.agg #[(.bool b20), (.string s21)]), rfl, loadHN TF.agg_119 TF.sz_119 hl0, s.imp fun _ q => ⟨_, _, _, rfl, q⟩⟩)
theorem C_feed_Feed_Text.of {B : RO} {p1 : Option Addr} {i2 : Int} {h : Heap} {Q : ByteArray → Heap → Prop} (s : S_feed_Feed_Text B p1 i2 h Q) : C_feed_Feed_Text B p1 i2 h Q := by
 refine zspec Tryz.func50 [ResultVar.tmp 4] rfl rfl rfl rfl rfl ?_
 refine au 9 rfl ?_
 refine zcall s rfl rfl TF.goes_58 ?_
 rintro _ h4 ⟨b5, rfl, s⟩
 cases b5
 ·replace s := s.2 rfl
  refine au 7 rfl ?_
  exact zr (s.imp fun _ q => ⟨_, rfl, q⟩)
 ·replace s := s.1 rfl
  refine au 8 rfl ?_
  refine znil s rfl rfl fun A6 s => ?_
  refine au 1 rfl ?_
  obtain ⟨hi0, hi1, s⟩ := s
  refine zg rfl (sem_indexAddrA A6 .i64 (i2) rfl rfl TF.arr_56 hi0 hi1 ?_)
  refine zl s rfl rfl TF.agg_9 fun s8 s => ?_
  refine au 2 rfl ?_
  exact zr (s.imp fun _ q => ⟨_, rfl, q⟩)
theorem C_attempt_Attempt_Read.of {B : RO} {p1 : Option Addr} {i2 : Int} {i3 : Int} {h : Heap} {Q : Int → Int → Heap → Prop} (s : S_attempt_Attempt_Read B p1 i2 i3 h Q) : C_attempt_Attempt_Read B p1 i2 i3 h Q := by
 refine zspec Tryz.func51 [ResultVar.tmp 6, ResultVar.tmp 7] rfl rfl rfl rfl rfl ?_
 refine au 9 rfl ?_
 refine zcall s rfl rfl TF.goes_90 ?_
 rintro _ h6 ⟨b7, s8, i9, rfl, s⟩
 refine au 3 rfl ?_
 refine zal s rfl TF.zero_119 rfl fun k10 h11 s => ?_
 refine zsn s rfl rfl rfl TF.sz_119 rfl fun h12 s => ?_
 refine au 6 rfl ?_
 refine zu s rfl rfl rfl binI_neq_t binI_neq_f (fun s => ?_) fun s => ?_
 ·refine au 5 rfl ?_
  obtain ⟨b13, s14, hl, s⟩ := s
  refine zn hl rfl rfl TF.agg_119 TF.sz_119 rfl ?_
  refine au 1 rfl ?_
  refine zcall s rfl rfl TF.goes_91 ?_
  rintro _ h15 ⟨i16, rfl, s⟩
  refine au 3 rfl ?_
  exact zr (s.imp fun _ q => ⟨_, _, rfl, q⟩)
 ·refine au 8 rfl ?_
  exact zr (s.imp fun _ q => ⟨_, _, rfl, q⟩)
theorem C_attempt_Attempt_Write.of {B : RO} {p1 : Option Addr} {i2 : Int} {i3 : Int} {i4 : Int} {h : Heap} {Q : Int → Heap → Prop} (s : S_attempt_Attempt_Write B p1 i2 i3 i4 h Q) : C_attempt_Attempt_Write B p1 i2 i3 i4 h Q := by
 refine zspec Tryz.func52 [ResultVar.tmp 8] rfl rfl rfl rfl rfl ?_
 refine au 8 rfl ?_
 refine zcall s rfl rfl TF.goes_90 ?_
 rintro _ h6 ⟨b7, s8, i9, rfl, s⟩
 refine au 3 rfl ?_
 refine zal s rfl TF.zero_119 rfl fun k10 h11 s => ?_
 refine zsn s rfl rfl rfl TF.sz_119 rfl fun h12 s => ?_
 refine au 6 rfl ?_
 refine zt s rfl rfl rfl binI_eql_t binI_eql_f (fun s => ?_) fun s => ?_
 ·refine au 2 rfl ?_
  refine Run.drawM (fun h' => h' = h12) [15] ⟨[0, 1, 2, 4, 8, 0, 32, 64, 128, 256, 512, 1024, 0, 0, 0, 30736], [65535, 65534, 65533, 65531, 65527, 65535, 65503, 65471, 65407, 65279, 65023, 64511, 65535, 65535, 65535, 34799], [0, 1, 3, 7, 15, 0, 32, 96, 224, 480, 992, 2016, 0, 0, 0, 32767], 32768⟩ (.q 0 (.q 1 (.q 2 (.q 3 (.q 4 (.q 5 (.q 6 (.q 7 (.q 8 (.q 9 (.q 10 (.q 11 (.q 12 (.q 13 (.q 14 (.x 15 .nil .no)))))))))))))))) TF.mixed (by kernel_rfl) rfl ?_
  refine auT 1 rfl ?_
  obtain ⟨A13, e14, s⟩ := s
  refine zqe rfl (sem_nilCheck A13 (congrArg Value.pointer e14) ⟨rfl, rfl⟩) ?_
  refine auT 2 rfl ?_
  obtain ⟨p15, hl, s⟩ := s
  refine zqe rfl (sem_load1 (Addr.add (Addr.add A13 2) 1) ((.pointer p15)) rfl TF.agg_92 hl ⟨rfl, rfl⟩) ?_
  refine auT 1 rfl ?_
  obtain ⟨A16, e17, s⟩ := s
  refine zqe rfl (sem_nilCheck A16 (congrArg Value.pointer e17) ⟨rfl, rfl⟩) ?_
  refine auT 1 rfl ?_
  obtain ⟨p18, hl, s⟩ := s
  refine zqe rfl (sem_load1 A16 ((.pointer p18)) rfl TF.agg_29 hl ⟨rfl, rfl⟩) ?_
  obtain ⟨A19, e20, s⟩ := s
  refine zqe rfl (sem_nilCheck A19 (congrArg Value.pointer e20) ⟨rfl, rfl⟩) ?_
  refine auT 1 rfl ?_
  obtain ⟨p21, hl, s⟩ := s
  refine zqe rfl (sem_load1 (Addr.add A19 1) ((.pointer p21)) rfl TF.agg_40 hl ⟨rfl, rfl⟩) ?_
  refine auT 3 rfl ?_
  refine ⟨zo rfl (sem_callL [(.pointer p15), (.pointer p21), (.int .i64 (i2)), (.int .i64 (i3)), (.int .u8 (i4))] (TF.goes_92) rfl rfl (Spec.mono s fun v h22 hv => ?_)), trivial⟩
  obtain ⟨b23, rfl, s⟩ := hv
  refine ⟨fun hz => Bool.noConfusion hz, ?_⟩
  refine au 5 rfl ?_
  exact zr (s.imp fun _ q => ⟨_, rfl, q⟩)
 ·refine au 8 rfl ?_
  exact zr (s.imp fun _ q => ⟨_, rfl, q⟩)
theorem C_attempt_Attempt_Create.of {B : RO} {p1 : Option Addr} {i2 : Int} {h : Heap} {Q : Int → Heap → Prop} (s : S_attempt_Attempt_Create B p1 i2 h Q) : C_attempt_Attempt_Create B p1 i2 h Q := by
 refine zspec Tryz.func53 [ResultVar.tmp 4] rfl rfl rfl rfl rfl ?_
 refine au 8 rfl ?_
 refine zcall s rfl rfl TF.goes_90 ?_
 rintro _ h4 ⟨b5, s6, i7, rfl, s⟩
 refine au 3 rfl ?_
 refine zal s rfl TF.zero_119 rfl fun k8 h9 s => ?_
 refine zsn s rfl rfl rfl TF.sz_119 rfl fun h10 s => ?_
 refine au 6 rfl ?_
 refine zt s rfl rfl rfl binI_eql_t binI_eql_f (fun s => ?_) fun s => ?_
 ·refine au 2 rfl ?_
  refine Run.drawM (fun h' => h' = h10) [13] ⟨[0, 1, 2, 4, 8, 0, 32, 64, 128, 256, 512, 1024, 0, 6160], [16383, 16382, 16381, 16379, 16375, 16383, 16351, 16319, 16255, 16127, 15871, 15359, 16383, 10223], [0, 1, 3, 7, 15, 0, 32, 96, 224, 480, 992, 2016, 0, 8191], 8192⟩ (.q 0 (.q 1 (.q 2 (.q 3 (.q 4 (.q 5 (.q 6 (.q 7 (.q 8 (.q 9 (.q 10 (.q 11 (.q 12 (.x 13 .nil .no)))))))))))))) TF.mixed (by kernel_rfl) rfl ?_
  refine auT 1 rfl ?_
  obtain ⟨A11, e12, s⟩ := s
  refine zqe rfl (sem_nilCheck A11 (congrArg Value.pointer e12) ⟨rfl, rfl⟩) ?_
  refine auT 2 rfl ?_
  obtain ⟨p13, hl, s⟩ := s
  refine zqe rfl (sem_load1 (Addr.add (Addr.add A11 2) 1) ((.pointer p13)) rfl TF.agg_92 hl ⟨rfl, rfl⟩) ?_
  refine auT 1 rfl ?_
  obtain ⟨A14, e15, s⟩ := s
  refine zqe rfl (sem_nilCheck A14 (congrArg Value.pointer e15) ⟨rfl, rfl⟩) ?_
  refine auT 1 rfl ?_
  obtain ⟨p16, hl, s⟩ := s
  refine zqe rfl (sem_load1 A14 ((.pointer p16)) rfl TF.agg_29 hl ⟨rfl, rfl⟩) ?_
  obtain ⟨A17, e18, s⟩ := s
  refine zqe rfl (sem_nilCheck A17 (congrArg Value.pointer e18) ⟨rfl, rfl⟩) ?_
  refine auT 1 rfl ?_
  obtain ⟨p19, hl, s⟩ := s
  refine zqe rfl (sem_load1 (Addr.add A17 1) ((.pointer p19)) rfl TF.agg_40 hl ⟨rfl, rfl⟩) ?_
  refine auT 1 rfl ?_
  refine ⟨zo rfl (sem_callL [(.pointer p13), (.pointer p19), (.int .i64 (i2))] (TF.goes_93) rfl rfl (Spec.mono s fun v h20 hv => ?_)), trivial⟩
  obtain ⟨b21, rfl, s⟩ := hv
  refine ⟨fun hz => Bool.noConfusion hz, ?_⟩
  refine au 5 rfl ?_
  exact zr (s.imp fun _ q => ⟨_, rfl, q⟩)
 ·refine au 8 rfl ?_
  exact zr (s.imp fun _ q => ⟨_, rfl, q⟩)
theorem C_attempt_Attempt_Remove.of {B : RO} {p1 : Option Addr} {i2 : Int} {h : Heap} {Q : Int → Heap → Prop} (s : S_attempt_Attempt_Remove B p1 i2 h Q) : C_attempt_Attempt_Remove B p1 i2 h Q := by
 refine zspec Tryz.func54 [ResultVar.tmp 4] rfl rfl rfl rfl rfl ?_
 refine au 8 rfl ?_
 refine zcall s rfl rfl TF.goes_90 ?_
 rintro _ h4 ⟨b5, s6, i7, rfl, s⟩
 refine au 3 rfl ?_
 refine zal s rfl TF.zero_119 rfl fun k8 h9 s => ?_
 refine zsn s rfl rfl rfl TF.sz_119 rfl fun h10 s => ?_
 refine au 6 rfl ?_
 refine zt s rfl rfl rfl binI_eql_t binI_eql_f (fun s => ?_) fun s => ?_
 ·refine au 2 rfl ?_
  refine Run.drawM (fun h' => h' = h10) [13] ⟨[0, 1, 2, 4, 8, 0, 32, 64, 128, 256, 512, 1024, 0, 6160], [16383, 16382, 16381, 16379, 16375, 16383, 16351, 16319, 16255, 16127, 15871, 15359, 16383, 10223], [0, 1, 3, 7, 15, 0, 32, 96, 224, 480, 992, 2016, 0, 8191], 8192⟩ (.q 0 (.q 1 (.q 2 (.q 3 (.q 4 (.q 5 (.q 6 (.q 7 (.q 8 (.q 9 (.q 10 (.q 11 (.q 12 (.x 13 .nil .no)))))))))))))) TF.mixed (by kernel_rfl) rfl ?_
  refine auT 1 rfl ?_
  obtain ⟨A11, e12, s⟩ := s
  refine zqe rfl (sem_nilCheck A11 (congrArg Value.pointer e12) ⟨rfl, rfl⟩) ?_
  refine auT 2 rfl ?_
  obtain ⟨p13, hl, s⟩ := s
  refine zqe rfl (sem_load1 (Addr.add (Addr.add A11 2) 1) ((.pointer p13)) rfl TF.agg_92 hl ⟨rfl, rfl⟩) ?_
  refine auT 1 rfl ?_
  obtain ⟨A14, e15, s⟩ := s
  refine zqe rfl (sem_nilCheck A14 (congrArg Value.pointer e15) ⟨rfl, rfl⟩) ?_
  refine auT 1 rfl ?_
  obtain ⟨p16, hl, s⟩ := s
  refine zqe rfl (sem_load1 A14 ((.pointer p16)) rfl TF.agg_29 hl ⟨rfl, rfl⟩) ?_
  obtain ⟨A17, e18, s⟩ := s
  refine zqe rfl (sem_nilCheck A17 (congrArg Value.pointer e18) ⟨rfl, rfl⟩) ?_
  refine auT 1 rfl ?_
  obtain ⟨p19, hl, s⟩ := s
  refine zqe rfl (sem_load1 (Addr.add A17 1) ((.pointer p19)) rfl TF.agg_40 hl ⟨rfl, rfl⟩) ?_
  refine auT 1 rfl ?_
  refine ⟨zo rfl (sem_callL [(.pointer p13), (.pointer p19), (.int .i64 (i2))] (TF.goes_94) rfl rfl (Spec.mono s fun v h20 hv => ?_)), trivial⟩
  obtain ⟨b21, rfl, s⟩ := hv
  refine ⟨fun hz => Bool.noConfusion hz, ?_⟩
  refine au 5 rfl ?_
  exact zr (s.imp fun _ q => ⟨_, rfl, q⟩)
 ·refine au 8 rfl ?_
  exact zr (s.imp fun _ q => ⟨_, rfl, q⟩)
theorem C_attempt_Attempt_Rename.of {B : RO} {p1 : Option Addr} {i2 : Int} {i3 : Int} {h : Heap} {Q : Int → Heap → Prop} (s : S_attempt_Attempt_Rename B p1 i2 i3 h Q) : C_attempt_Attempt_Rename B p1 i2 i3 h Q := by
 refine zspec Tryz.func55 [ResultVar.tmp 6] rfl rfl rfl rfl rfl ?_
 refine au 4 rfl ?_
 refine Run.seqJ (fun e h6 => Agree [(0, (.pointer p1)), (1, (.int .i64 (i2))), (2, (.int .i64 (i3)))] e ∧ S_attempt_Attempt_Rename_J1 B p1 i2 i3 h6 Q) ?_ fun j5 => ?_
 ·rintro e h6 ⟨hag, s⟩
  refine Run.env hag ?_; clear hag
  refine au 4 rfl ?_
  refine zcall s rfl rfl TF.goes_90 ?_
  rintro _ h7 ⟨b8, s9, i10, rfl, s⟩
  refine au 3 rfl ?_
  refine zal s rfl TF.zero_119 rfl fun k11 h12 s => ?_
  refine zsn s rfl rfl rfl TF.sz_119 rfl fun h13 s => ?_
  refine au 2 rfl ?_
  refine Run.seqJ (fun e h16 => ∃ i15 : Int, Agree [(0, (.pointer p1)), (1, (.int .i64 (i2))), (2, (.int .i64 (i3))), (8, (.int .i64 (i15)))] e ∧ S_attempt_Attempt_Rename_J2 B p1 i2 i3 i15 h16 Q) ?_ fun j14 => ?_
  ·rintro e h16 ⟨i15, hag, s⟩
   refine Run.env hag ?_; clear hag
   refine au 4 rfl ?_
   refine zt s rfl rfl rfl binI_eql_t binI_eql_f (fun s => ?_) fun s => ?_
   ·refine au 2 rfl ?_
    refine Run.drawM (fun h' => h' = h16) [14] ⟨[0, 1, 2, 4, 8, 0, 32, 64, 128, 256, 512, 1024, 0, 0, 14352], [32767, 32766, 32765, 32763, 32759, 32767, 32735, 32703, 32639, 32511, 32255, 31743, 32767, 32767, 18415], [0, 1, 3, 7, 15, 0, 32, 96, 224, 480, 992, 2016, 0, 0, 16383], 16384⟩ (.q 0 (.q 1 (.q 2 (.q 3 (.q 4 (.q 5 (.q 6 (.q 7 (.q 8 (.q 9 (.q 10 (.q 11 (.q 12 (.q 13 (.x 14 .nil .no))))))))))))))) TF.mixed (by kernel_rfl) rfl ?_
    refine auT 1 rfl ?_
    obtain ⟨A17, e18, s⟩ := s
    refine zqe rfl (sem_nilCheck A17 (congrArg Value.pointer e18) ⟨rfl, rfl⟩) ?_
    refine auT 2 rfl ?_
    obtain ⟨p19, hl, s⟩ := s
    refine zqe rfl (sem_load1 (Addr.add (Addr.add A17 2) 1) ((.pointer p19)) rfl TF.agg_92 hl ⟨rfl, rfl⟩) ?_
    refine auT 1 rfl ?_
    obtain ⟨A20, e21, s⟩ := s
    refine zqe rfl (sem_nilCheck A20 (congrArg Value.pointer e21) ⟨rfl, rfl⟩) ?_
    refine auT 1 rfl ?_
    obtain ⟨p22, hl, s⟩ := s
    refine zqe rfl (sem_load1 A20 ((.pointer p22)) rfl TF.agg_29 hl ⟨rfl, rfl⟩) ?_
    obtain ⟨A23, e24, s⟩ := s
    refine zqe rfl (sem_nilCheck A23 (congrArg Value.pointer e24) ⟨rfl, rfl⟩) ?_
    refine auT 1 rfl ?_
    obtain ⟨p25, hl, s⟩ := s
    refine zqe rfl (sem_load1 (Addr.add A23 1) ((.pointer p25)) rfl TF.agg_40 hl ⟨rfl, rfl⟩) ?_
    refine auT 2 rfl ?_
    refine ⟨zo rfl (sem_callL [(.pointer p19), (.pointer p25), (.int .i64 (i2)), (.int .i64 (i3))] (TF.goes_95) rfl rfl (Spec.mono s fun v h26 hv => ?_)), trivial⟩
    obtain ⟨b27, rfl, s⟩ := hv
    refine ⟨fun hz => Bool.noConfusion hz, ?_⟩
    refine au 5 rfl ?_
    exact zr (s.imp fun _ q => ⟨_, rfl, q⟩)
   ·refine au 8 rfl ?_
    exact zr (s.imp fun _ q => ⟨_, rfl, q⟩)
  refine au 3 rfl ?_
  refine zt s rfl rfl rfl binI_eql_t binI_eql_f (fun s => ?_) fun s => ?_
  ·refine au 5 rfl ?_
   refine zcall s rfl rfl TF.goes_90 ?_
   rintro _ h28 ⟨b29, s30, i31, rfl, s⟩
   refine au 5 rfl ?_
   exact Run.of_fin (s.imp fun h' s => j14 _ _ ⟨(i31), ⟨rfl, rfl, rfl, rfl, trivial⟩, s⟩)
  ·refine au 3 rfl ?_
   exact Run.of_fin (s.imp fun h' s => j14 _ _ ⟨(i10), ⟨rfl, rfl, rfl, rfl, trivial⟩, s⟩)
 refine au 3 rfl ?_
 by_cases hb32 : p1 = none
 ·replace s := s.1 hb32
  refine zg rfl (sem_ptrNilT p1 (.inr rfl) false rfl rfl TF.ptr_30 hb32 rfl ?_)
  refine au 11 rfl ?_
  exact Run.of_fin (s.imp fun h' s => j5 _ _ ⟨⟨rfl, rfl, rfl, trivial⟩, s⟩)
 ·replace s := s.2 hb32
  refine zg rfl (sem_ptrNilF p1 (.inr rfl) true rfl rfl TF.ptr_30 hb32 rfl ?_)
  refine au 2 rfl ?_
  refine zt s rfl rfl rfl binI_lss_t binI_lss_f (fun s => ?_) fun s => ?_
  ·refine au 11 rfl ?_
   exact zr (s.imp fun _ q => ⟨_, rfl, q⟩)
  ·refine au 2 rfl ?_
   refine zt s rfl rfl rfl binI_geq_t binI_geq_f (fun s => ?_) fun s => ?_
   ·refine au 8 rfl ?_
    exact zr (s.imp fun _ q => ⟨_, rfl, q⟩)
   ·refine au 5 rfl ?_
    exact Run.of_fin (s.imp fun h' s => j5 _ _ ⟨⟨rfl, rfl, rfl, trivial⟩, s⟩)
theorem C_attempt_Attempt_Cut.of {B : RO} {p1 : Option Addr} {i2 : Int} {i3 : Int} {h : Heap} {Q : Int → Heap → Prop} (s : S_attempt_Attempt_Cut B p1 i2 i3 h Q) : C_attempt_Attempt_Cut B p1 i2 i3 h Q := by
 refine zspec Tryz.func56 [ResultVar.tmp 6] rfl rfl rfl rfl rfl ?_
 refine au 8 rfl ?_
 refine zcall s rfl rfl TF.goes_90 ?_
 rintro _ h5 ⟨b6, s7, i8, rfl, s⟩
 refine au 3 rfl ?_
 refine zal s rfl TF.zero_119 rfl fun k9 h10 s => ?_
 refine zsn s rfl rfl rfl TF.sz_119 rfl fun h11 s => ?_
 refine au 6 rfl ?_
 refine zt s rfl rfl rfl binI_eql_t binI_eql_f (fun s => ?_) fun s => ?_
 ·refine au 2 rfl ?_
  refine Run.drawM (fun h' => h' = h11) [14] ⟨[0, 1, 2, 4, 8, 0, 32, 64, 128, 256, 512, 1024, 0, 0, 14352], [32767, 32766, 32765, 32763, 32759, 32767, 32735, 32703, 32639, 32511, 32255, 31743, 32767, 32767, 18415], [0, 1, 3, 7, 15, 0, 32, 96, 224, 480, 992, 2016, 0, 0, 16383], 16384⟩ (.q 0 (.q 1 (.q 2 (.q 3 (.q 4 (.q 5 (.q 6 (.q 7 (.q 8 (.q 9 (.q 10 (.q 11 (.q 12 (.q 13 (.x 14 .nil .no))))))))))))))) TF.mixed (by kernel_rfl) rfl ?_
  refine auT 1 rfl ?_
  obtain ⟨A12, e13, s⟩ := s
  refine zqe rfl (sem_nilCheck A12 (congrArg Value.pointer e13) ⟨rfl, rfl⟩) ?_
  refine auT 2 rfl ?_
  obtain ⟨p14, hl, s⟩ := s
  refine zqe rfl (sem_load1 (Addr.add (Addr.add A12 2) 1) ((.pointer p14)) rfl TF.agg_92 hl ⟨rfl, rfl⟩) ?_
  refine auT 1 rfl ?_
  obtain ⟨A15, e16, s⟩ := s
  refine zqe rfl (sem_nilCheck A15 (congrArg Value.pointer e16) ⟨rfl, rfl⟩) ?_
  refine auT 1 rfl ?_
  obtain ⟨p17, hl, s⟩ := s
  refine zqe rfl (sem_load1 A15 ((.pointer p17)) rfl TF.agg_29 hl ⟨rfl, rfl⟩) ?_
  obtain ⟨A18, e19, s⟩ := s
  refine zqe rfl (sem_nilCheck A18 (congrArg Value.pointer e19) ⟨rfl, rfl⟩) ?_
  refine auT 1 rfl ?_
  obtain ⟨p20, hl, s⟩ := s
  refine zqe rfl (sem_load1 (Addr.add A18 1) ((.pointer p20)) rfl TF.agg_40 hl ⟨rfl, rfl⟩) ?_
  refine auT 2 rfl ?_
  refine ⟨zo rfl (sem_callL [(.pointer p14), (.pointer p20), (.int .i64 (i2)), (.int .i64 (i3))] (TF.goes_96) rfl rfl (Spec.mono s fun v h21 hv => ?_)), trivial⟩
  obtain ⟨b22, rfl, s⟩ := hv
  refine ⟨fun hz => Bool.noConfusion hz, ?_⟩
  refine au 5 rfl ?_
  exact zr (s.imp fun _ q => ⟨_, rfl, q⟩)
 ·refine au 8 rfl ?_
  exact zr (s.imp fun _ q => ⟨_, rfl, q⟩)
theorem C_attempt_Attempt_Recv.of {B : RO} {p1 : Option Addr} {i2 : Int} {h : Heap} {Q : Int → Int → Heap → Prop} (s : S_attempt_Attempt_Recv B p1 i2 h Q) : C_attempt_Attempt_Recv B p1 i2 h Q := by
 refine zspec Tryz.func57 [ResultVar.tmp 4, ResultVar.tmp 5] rfl rfl rfl rfl rfl ?_
 refine au 5 rfl ?_
 refine Run.seqJ (fun e h6 => Agree [(0, (.pointer p1)), (1, (.int .i64 (i2)))] e ∧ S_attempt_Attempt_Recv_J1 B p1 i2 h6 Q) ?_ fun j5 => ?_
 ·rintro e h6 ⟨hag, s⟩
  refine Run.env hag ?_; clear hag
  refine au 5 rfl ?_
  refine zcall s rfl rfl TF.goes_40 ?_
  rintro _ h7 ⟨i8, rfl, s⟩
  refine au 5 rfl ?_
  refine zu s rfl rfl rfl binI_neq_t binI_neq_f (fun s => ?_) fun s => ?_
  ·refine au 6 rfl ?_
   refine znil s rfl rfl fun A9 s => ?_
   refine au 1 rfl ?_
   refine zl s rfl rfl TF.agg_29 fun p11 s => ?_
   refine znil s rfl rfl fun A12 s => ?_
   refine au 1 rfl ?_
   refine zl s rfl rfl TF.agg_41 fun p14 s => ?_
   refine au 1 rfl ?_
   refine zcall s rfl rfl TF.goes_47 ?_
   rintro _ h15 ⟨i16, i17, rfl, s⟩
   refine au 7 rfl ?_
   obtain ⟨A19, e20, s⟩ := s
   obtain ⟨p23, hl, s⟩ := s
   have f24 := hl
   obtain ⟨A25, e26, s⟩ := s
   obtain ⟨p29, hl, s⟩ := s
   have f30 := hl
   obtain ⟨A33, e34, s⟩ := s
   obtain ⟨p38, hl, s⟩ := s
   have f39 := hl
   refine Run.drawM (fun h' => cellH B h' A19 = some (.pointer p23) ∧ cellH B h' (Addr.add A25 2) = some (.pointer p29) ∧ cellH B h' (Addr.add (Addr.add A33 2) 2) = some (.pointer p38) ∧ True) [] ⟨[0, 1, 2, 4, 8, 16, 32, 0, 0, 256, 512, 1024, 2048, 0, 0, 28672, 32960, 131071], [262143, 262142, 262141, 262139, 262135, 262127, 262111, 262143, 262143, 261887, 261631, 261119, 260095, 262143, 262143, 233471, 229183, 196607], [0, 0, 0, 0, 0, 0, 0, 0, 0, 0, 0, 0, 0, 0, 0, 0, 0, 0], 0⟩ (.q 0 (.q 1 (.q 2 (.q 3 (.q 4 (.q 5 (.q 6 (.q 7 (.q 8 (.q 9 (.q 10 (.q 11 (.q 12 (.q 13 (.q 14 (.x 15 (.x 16 (.q 17 .nil) .no) .no)))))))))))))))) TF.mixed (by kernel_rfl) ⟨f24, f30, f39, trivial⟩ ?_
   refine auT 1 rfl ?_
   refine zq rfl (fun _ hC => sem_nilCheck A19 (congrArg Value.pointer e20) ⟨rfl, rfl⟩) ?_
   refine auT 1 rfl ?_
   refine zq rfl (fun _ hC => sem_load1 A19 ((.pointer p23)) rfl TF.agg_29 hC.1 ⟨rfl, rfl⟩) ?_
   refine zq rfl (fun _ hC => sem_nilCheck A25 (congrArg Value.pointer e26) ⟨rfl, rfl⟩) ?_
   refine auT 1 rfl ?_
   refine zq rfl (fun _ hC => sem_load1 (Addr.add A25 2) ((.pointer p29)) rfl TF.agg_41 hC.2.1 ⟨rfl, rfl⟩) ?_
   refine auT 2 rfl ?_
   refine zq rfl (fun _ hC => sem_nilCheck A33 (congrArg Value.pointer e34) ⟨rfl, rfl⟩) ?_
   refine auT 2 rfl ?_
   refine zq rfl (fun _ hC => sem_load1 (Addr.add (Addr.add A33 2) 2) ((.pointer p38)) rfl TF.agg_93 hC.2.2.1 ⟨rfl, rfl⟩) ?_
   refine auT 2 rfl ?_
   refine ⟨zo rfl (sem_callL [(.pointer p38), (.int .i64 (i2)), (.int .i64 (i16))] (TF.goes_98) rfl rfl (Spec.mono s fun v h42 hv => ?_)), trivial⟩
   obtain ⟨i43, rfl, s⟩ := hv
   obtain ⟨g44, g45, g46, s⟩ := s
   refine ⟨fun _ => ⟨g44, g45, g46, trivial⟩, ?_⟩
   refine ⟨zo rfl (sem_callL [(.pointer p29), (.int .i64 (i2)), (.int .i64 (i43))] (TF.goes_97) rfl rfl (Spec.mono s fun v h47 hv => ?_)), trivial⟩
   obtain ⟨i48, rfl, s⟩ := hv
   obtain ⟨g49, g50, g51, s⟩ := s
   refine ⟨fun _ => ⟨g49, g50, g51, trivial⟩, ?_⟩
   refine auT 1 rfl ?_
   refine au 4 rfl ?_
   refine zt s rfl rfl rfl binI_lss_t binI_lss_f (fun s => ?_) fun s => ?_
   ·refine au 7 rfl ?_
    exact zr (s.imp fun _ q => ⟨_, _, rfl, q⟩)
   ·refine au 6 rfl ?_
    refine znil s rfl rfl fun A52 s => ?_
    refine au 2 rfl ?_
    refine zl s rfl rfl TF.agg_93 fun p54 s => ?_
    refine au 1 rfl ?_
    refine zcall s rfl rfl TF.goes_99 ?_
    rintro _ h55 ⟨b56, rfl, s⟩
    refine au 7 rfl ?_
    exact zr (s.imp fun _ q => ⟨_, _, rfl, q⟩)
  ·refine au 8 rfl ?_
   exact zr (s.imp fun _ q => ⟨_, _, rfl, q⟩)
 refine au 4 rfl ?_
 by_cases hb57 : p1 = none
 ·replace s := s.1 hb57
  refine zg rfl (sem_ptrNilT p1 (.inl rfl) true rfl rfl TF.ptr_30 hb57 rfl ?_)
  refine au 8 rfl ?_
  exact zr (s.imp fun _ q => ⟨_, _, rfl, q⟩)
 ·replace s := s.2 hb57
  refine zg rfl (sem_ptrNilF p1 (.inl rfl) false rfl rfl TF.ptr_30 hb57 rfl ?_)
  refine au 6 rfl ?_
  refine zt s rfl rfl rfl binI_lss_t binI_lss_f (fun s => ?_) fun s => ?_
  ·refine au 12 rfl ?_
   exact zr (s.imp fun _ q => ⟨_, _, rfl, q⟩)
  ·refine au 2 rfl ?_
   refine zt s rfl rfl rfl binI_geq_t binI_geq_f (fun s => ?_) fun s => ?_
   ·refine au 9 rfl ?_
    exact zr (s.imp fun _ q => ⟨_, _, rfl, q⟩)
   ·refine au 6 rfl ?_
    exact Run.of_fin (s.imp fun h' s => j5 _ _ ⟨⟨rfl, rfl, trivial⟩, s⟩)
theorem C_feed_Feed_is.of {B : RO} {p1 : Option Addr} {i2 : Int} {h : Heap} {Q : Bool → Heap → Prop} (s : S_feed_Feed_is B p1 i2 h Q) : C_feed_Feed_is B p1 i2 h Q := by
 refine zspec Tryz.func58 [ResultVar.tmp 4] rfl rfl rfl rfl rfl ?_
 refine au 7 rfl ?_
 by_cases hb4 : p1 = none
 ·replace s := s.1 hb4
  refine zg rfl (sem_ptrNilT p1 (.inr rfl) false rfl rfl TF.ptr_41 hb4 rfl ?_)
  refine au 10 rfl ?_
  exact zr (s.imp fun _ q => ⟨_, rfl, q⟩)
 ·replace s := s.2 hb4
  refine zg rfl (sem_ptrNilF p1 (.inr rfl) true rfl rfl TF.ptr_41 hb4 rfl ?_)
  refine au 2 rfl ?_
  refine zt s rfl rfl rfl binI_geq_t binI_geq_f (fun s => ?_) fun s => ?_
  ·refine au 7 rfl ?_
   exact zr (s.imp fun _ q => ⟨_, rfl, q⟩)
  ·refine au 7 rfl ?_
   exact zr (s.imp fun _ q => ⟨_, rfl, q⟩)
theorem C_countermandref09_At.of {B : RO} {b1 : Bool} {s2 : ByteArray} {i3 : Int} {h : Heap} {Q : Int → Heap → Prop} (s : S_countermandref09_At B b1 s2 i3 h Q) : C_countermandref09_At B b1 s2 i3 h Q := by
 refine zspec Tryz.func59 [ResultVar.tmp 4] rfl rfl rfl rfl rfl ?_
 refine au 2 rfl ?_
 refine zbn s rfl rfl rfl fun k5 h6 s => ?_
 refine au 8 rfl ?_
 obtain ⟨J12, m10, h0, s⟩ := s
 refine Run.of_fin (h0.imp fun h' h0 => ?_)
 refine Run.loop (σ := Int × Nat) (fun x e h => J12 x.1 x.2 h ∧ Agree [(1, (.int .i64 (i3))), (2, (.pointer (some ⟨k5, 0, none⟩))), (5, (.int .i64 (x.1)))] e) (fun x => x.2) ((0), m10) ⟨h0, ⟨rfl, rfl, rfl, trivial⟩⟩ ?_; clear h0
 rintro ⟨i7, m9⟩ e h8 ⟨hJ, hag⟩ ih11
 have s := s i7 m9 h8 hJ; clear hJ
 refine Run.env hag ?_; clear hag
 refine au 5 rfl ?_
 refine zl s rfl rfl TF.agg_9 fun s13 s => ?_
 refine zg rfl (sem_lenStr s13 rfl TF.isStr_9 ?_)
 refine zt s rfl rfl rfl binI_lss_t binI_lss_f (fun s => ?_) fun s => ?_
 ·refine au 9 rfl ?_
  refine zt s rfl rfl rfl binI_eql_t binI_eql_f (fun s => ?_) fun s => ?_
  ·refine au 5 rfl ?_
   refine zl s rfl rfl TF.agg_9 fun s14 s => ?_
   refine au 1 rfl ?_
   obtain ⟨hi0, hi1, s⟩ := s
   refine zg rfl (sem_indexStr' s14 .i64 (i7) rfl rfl TF.isStr_9 hi0 hi1 ?_)
   refine zg rfl (sem_convI .u8 .i64 (byteAt s14 (Int.toNat (i7))) rfl TF.int_5 TF.int_3 ?_)
   refine au 2 rfl ?_
   exact zr (s.imp fun _ q => ⟨_, rfl, q⟩)
  ·refine au 9 rfl ?_
   exact Run.of_fin (s.imp fun h' ⟨m', hm, s⟩ => ih11 ((IntKind.wrap .i64 ((i7) + (1))), m') _ _ ⟨s, ⟨rfl, rfl, rfl, trivial⟩⟩ hm)
 ·refine au 7 rfl ?_
  exact zr (s.imp fun _ q => ⟨_, rfl, q⟩)
theorem C_countermandref14_Sheet_Write.of {B : RO} {p1 : Option Addr} {i2 : Int} {i3 : Int} {i4 : Int} {h : Heap} {Q : Bool → Heap → Prop} (s : S_countermandref14_Sheet_Write B p1 i2 i3 i4 h Q) : C_countermandref14_Sheet_Write B p1 i2 i3 i4 h Q := by
 refine zspec Tryz.func60 [ResultVar.tmp 8] rfl rfl rfl rfl rfl ?_
 refine au 8 rfl ?_
 refine zcall s rfl rfl TF.goes_100 ?_
 rintro _ h6 ⟨b7, rfl, s⟩
 cases b7
 ·replace s := s.2 rfl
  refine au 6 rfl ?_
  refine zcall s rfl rfl TF.goes_100 ?_
  rintro _ h8 ⟨b9, rfl, s⟩
  refine au 2 rfl ?_
  exact zr (s.imp fun _ q => ⟨_, rfl, q⟩)
 ·replace s := s.1 rfl
  refine au 7 rfl ?_
  refine znil s rfl rfl fun A10 s => ?_
  refine au 1 rfl ?_
  obtain ⟨hi0, hi1, s⟩ := s
  refine zg rfl (sem_indexAddrA (Addr.add A10 12) .i64 (i2) rfl rfl TF.arr_52 hi0 hi1 ?_)
  obtain ⟨b12, s13, hl, s⟩ := s
  refine zn hl rfl rfl TF.agg_51 TF.sz_51 rfl ?_
  refine au 2 rfl ?_
  refine zcall s rfl rfl TF.goes_102 ?_
  rintro _ h14 ⟨b15, s16, rfl, s⟩
  refine zcall s rfl rfl TF.goes_101 ?_
  rintro _ h17 ⟨rfl, s⟩
  refine au 4 rfl ?_
  refine zcall s rfl rfl TF.goes_100 ?_
  rintro _ h18 ⟨b19, rfl, s⟩
  refine au 2 rfl ?_
  exact zr (s.imp fun _ q => ⟨_, rfl, q⟩)
theorem C_countermandref14_Sheet_Create.of {B : RO} {p1 : Option Addr} {i2 : Int} {h : Heap} {Q : Bool → Heap → Prop} (s : S_countermandref14_Sheet_Create B p1 i2 h Q) : C_countermandref14_Sheet_Create B p1 i2 h Q := by
 refine zspec Tryz.func61 [ResultVar.tmp 4] rfl rfl rfl rfl rfl ?_
 refine au 8 rfl ?_
 refine zcall s rfl rfl TF.goes_100 ?_
 rintro _ h4 ⟨b5, rfl, s⟩
 cases b5
 ·replace s := s.2 rfl
  refine au 6 rfl ?_
  refine zcall s rfl rfl TF.goes_100 ?_
  rintro _ h6 ⟨b7, rfl, s⟩
  refine au 2 rfl ?_
  exact zr (s.imp fun _ q => ⟨_, rfl, q⟩)
 ·replace s := s.1 rfl
  refine au 7 rfl ?_
  refine znil s rfl rfl fun A8 s => ?_
  refine au 1 rfl ?_
  obtain ⟨hi0, hi1, s⟩ := s
  refine zg rfl (sem_indexAddrA (Addr.add A8 12) .i64 (i2) rfl rfl TF.arr_52 hi0 hi1 ?_)
  refine au 1 rfl ?_
  refine zl s rfl rfl TF.agg_9 fun s10 s => ?_
  refine zg rfl (sem_buildSL [(0, (.bool true)), (1, (.string s10))] [(.bool true), (.string s10)] TF.zero_51 TF.places_51 rfl rfl ?_)
  refine zcall s rfl rfl TF.goes_101 ?_
  rintro _ h11 ⟨rfl, s⟩
  refine au 4 rfl ?_
  refine zcall s rfl rfl TF.goes_100 ?_
  rintro _ h12 ⟨b13, rfl, s⟩
  refine au 2 rfl ?_
  exact zr (s.imp fun _ q => ⟨_, rfl, q⟩)
theorem C_countermandref14_Sheet_Remove.of {B : RO} {p1 : Option Addr} {i2 : Int} {h : Heap} {Q : Bool → Heap → Prop} (s : S_countermandref14_Sheet_Remove B p1 i2 h Q) : C_countermandref14_Sheet_Remove B p1 i2 h Q := by
 refine zspec Tryz.func62 [ResultVar.tmp 4] rfl rfl rfl rfl rfl ?_
 refine au 8 rfl ?_
 refine zcall s rfl rfl TF.goes_100 ?_
 rintro _ h4 ⟨b5, rfl, s⟩
 cases b5
 ·replace s := s.2 rfl
  refine au 6 rfl ?_
  refine zcall s rfl rfl TF.goes_100 ?_
  rintro _ h6 ⟨b7, rfl, s⟩
  refine au 2 rfl ?_
  exact zr (s.imp fun _ q => ⟨_, rfl, q⟩)
 ·replace s := s.1 rfl
  refine au 5 rfl ?_
  refine zg rfl (sem_buildSL [] [(.bool false), (.string ByteArray.empty)] TF.zero_51 TF.places_51 rfl rfl ?_)
  refine zcall s rfl rfl TF.goes_101 ?_
  rintro _ h8 ⟨rfl, s⟩
  refine au 4 rfl ?_
  refine zcall s rfl rfl TF.goes_100 ?_
  rintro _ h9 ⟨b10, rfl, s⟩
  refine au 2 rfl ?_
  exact zr (s.imp fun _ q => ⟨_, rfl, q⟩)
theorem C_countermandref14_Sheet_Rename.of {B : RO} {p1 : Option Addr} {i2 : Int} {i3 : Int} {h : Heap} {Q : Bool → Heap → Prop} (s : S_countermandref14_Sheet_Rename B p1 i2 i3 h Q) : C_countermandref14_Sheet_Rename B p1 i2 i3 h Q := by
 refine zspec Tryz.func63 [ResultVar.tmp 6] rfl rfl rfl rfl rfl ?_
 refine au 4 rfl ?_
 refine Run.seqJ (fun e h6 => Agree [(0, (.pointer p1)), (1, (.int .i64 (i2))), (2, (.int .i64 (i3)))] e ∧ S_countermandref14_Sheet_Rename_J1 B p1 i2 i3 h6 Q) ?_ fun j5 => ?_
 ·rintro e h6 ⟨hag, s⟩
  refine Run.env hag ?_; clear hag
  refine au 1 rfl ?_
  refine Run.seqJ (fun e h9 => ∃ b8 : Bool, Agree [(0, (.pointer p1)), (1, (.int .i64 (i2))), (2, (.int .i64 (i3))), (26, (.bool b8))] e ∧ S_countermandref14_Sheet_Rename_J2 B p1 i2 i3 b8 h9 Q) ?_ fun j7 => ?_
  ·rintro e h9 ⟨b8, hag, s⟩
   refine Run.env hag ?_; clear hag
   cases b8
   ·replace s := s.2 rfl
    refine au 6 rfl ?_
    exact zr (s.imp fun _ q => ⟨_, rfl, q⟩)
   ·replace s := s.1 rfl
    refine au 7 rfl ?_
    refine znil s rfl rfl fun A10 s => ?_
    refine au 1 rfl ?_
    obtain ⟨hi0, hi1, s⟩ := s
    refine zg rfl (sem_indexAddrA (Addr.add A10 12) .i64 (i2) rfl rfl TF.arr_52 hi0 hi1 ?_)
    obtain ⟨b12, s13, hl, s⟩ := s
    refine zn hl rfl rfl TF.agg_51 TF.sz_51 rfl ?_
    refine zcall s rfl rfl TF.goes_101 ?_
    rintro _ h14 ⟨rfl, s⟩
    refine au 4 rfl ?_
    refine zg rfl (sem_buildSL [] [(.bool false), (.string ByteArray.empty)] TF.zero_51 TF.places_51 rfl rfl ?_)
    refine zcall s rfl rfl TF.goes_101 ?_
    rintro _ h15 ⟨rfl, s⟩
    refine au 5 rfl ?_
    exact zr (s.imp fun _ q => ⟨_, rfl, q⟩)
  refine au 3 rfl ?_
  refine znil s rfl rfl fun A16 s => ?_
  refine au 1 rfl ?_
  obtain ⟨hi0, hi1, s⟩ := s
  refine zg rfl (sem_indexAddrA (Addr.add A16 12) .i64 (i2) rfl rfl TF.arr_52 hi0 hi1 ?_)
  refine au 1 rfl ?_
  refine zl s rfl rfl TF.agg_4 fun b18 s => ?_
  cases b18
  ·replace s := s.2 rfl
   refine au 6 rfl ?_
   exact Run.of_fin (s.imp fun h' s => j7 _ _ ⟨(false), ⟨rfl, rfl, rfl, rfl, trivial⟩, s⟩)
  ·replace s := s.1 rfl
   refine au 3 rfl ?_
   refine zu s rfl rfl rfl binI_neq_t binI_neq_f (fun s => ?_) fun s => ?_
   ·refine au 2 rfl ?_
    exact Run.of_fin (s.imp fun h' s => j7 _ _ ⟨(false), ⟨rfl, rfl, rfl, rfl, trivial⟩, s⟩)
   ·refine au 2 rfl ?_
    exact Run.of_fin (s.imp fun h' s => j7 _ _ ⟨(true), ⟨rfl, rfl, rfl, rfl, trivial⟩, s⟩)
 refine au 3 rfl ?_
 refine zcall s rfl rfl TF.goes_100 ?_
 rintro _ h19 ⟨b20, rfl, s⟩
 cases b20
 ·replace s := s.2 rfl
  refine au 12 rfl ?_
  exact zr (s.imp fun _ q => ⟨_, rfl, q⟩)
 ·replace s := s.1 rfl
  refine au 3 rfl ?_
  refine zcall s rfl rfl TF.goes_100 ?_
  rintro _ h21 ⟨b22, rfl, s⟩
  cases b22
  ·replace s := s.2 rfl
   refine au 8 rfl ?_
   exact zr (s.imp fun _ q => ⟨_, rfl, q⟩)
  ·replace s := s.1 rfl
   refine au 5 rfl ?_
   exact Run.of_fin (s.imp fun h' s => j5 _ _ ⟨⟨rfl, rfl, rfl, trivial⟩, s⟩)
theorem C_countermandref14_Sheet_Cut.of {B : RO} {p1 : Option Addr} {i2 : Int} {i3 : Int} {h : Heap} {Q : Bool → Heap → Prop} (s : S_countermandref14_Sheet_Cut B p1 i2 i3 h Q) : C_countermandref14_Sheet_Cut B p1 i2 i3 h Q := by
 refine zspec Tryz.func64 [ResultVar.tmp 6] rfl rfl rfl rfl rfl ?_
 refine au 8 rfl ?_
 refine zcall s rfl rfl TF.goes_100 ?_
 rintro _ h5 ⟨b6, rfl, s⟩
 cases b6
 ·replace s := s.2 rfl
  refine au 6 rfl ?_
  refine zcall s rfl rfl TF.goes_100 ?_
  rintro _ h7 ⟨b8, rfl, s⟩
  refine au 2 rfl ?_
  exact zr (s.imp fun _ q => ⟨_, rfl, q⟩)
 ·replace s := s.1 rfl
  refine au 7 rfl ?_
  refine znil s rfl rfl fun A9 s => ?_
  refine au 1 rfl ?_
  obtain ⟨hi0, hi1, s⟩ := s
  refine zg rfl (sem_indexAddrA (Addr.add A9 12) .i64 (i2) rfl rfl TF.arr_52 hi0 hi1 ?_)
  obtain ⟨b11, s12, hl, s⟩ := s
  refine zn hl rfl rfl TF.agg_51 TF.sz_51 rfl ?_
  refine au 1 rfl ?_
  refine zcall s rfl rfl TF.goes_103 ?_
  rintro _ h13 ⟨b14, s15, rfl, s⟩
  refine zcall s rfl rfl TF.goes_101 ?_
  rintro _ h16 ⟨rfl, s⟩
  refine au 4 rfl ?_
  refine zcall s rfl rfl TF.goes_100 ?_
  rintro _ h17 ⟨b18, rfl, s⟩
  refine au 2 rfl ?_
  exact zr (s.imp fun _ q => ⟨_, rfl, q⟩)
theorem C_cell_Row_int_Version.of {B : RO} {p1 : Option Addr} {i2 : Int} {h : Heap} {Q : Int → Heap → Prop} (s : S_cell_Row_int_Version B p1 i2 h Q) : C_cell_Row_int_Version B p1 i2 h Q := by
 refine zspec Tryz.func65 [ResultVar.tmp 4] rfl rfl rfl rfl rfl ?_
 refine au 8 rfl ?_
 refine zcall s rfl rfl TF.goes_41 ?_
 rintro _ h4 ⟨i5, i6, rfl, s⟩
 refine au 11 rfl ?_
 exact zr (s.imp fun _ q => ⟨_, rfl, q⟩)
theorem C_draft_Draft_int_Put.of {B : RO} {p1 : Option Addr} {i2 : Int} {i3 : Int} {h : Heap} {Q : Bool → Heap → Prop} (s : S_draft_Draft_int_Put B p1 i2 i3 h Q) : C_draft_Draft_int_Put B p1 i2 i3 h Q := by
 refine zspec Tryz.func66 [ResultVar.tmp 6] rfl rfl rfl rfl rfl ?_
 refine au 8 rfl ?_
 by_cases hb5 : p1 = none
 ·replace s := s.1 hb5
  refine zg rfl (sem_ptrNilT p1 (.inl rfl) true rfl rfl TF.ptr_91 hb5 rfl ?_)
  refine au 6 rfl ?_
  exact zr (s.imp fun _ q => ⟨_, rfl, q⟩)
 ·replace s := s.2 hb5
  refine zg rfl (sem_ptrNilF p1 (.inl rfl) false rfl rfl TF.ptr_91 hb5 rfl ?_)
  refine au 7 rfl ?_
  refine zcall s rfl rfl TF.goes_81 ?_
  rintro _ h6 ⟨i7, b8, rfl, s⟩
  refine au 2 rfl ?_
  cases b8
  ·replace s := s.2 rfl
   refine au 1 rfl ?_
   refine au 12 rfl ?_
   refine znil s rfl rfl fun A9 s => ?_
   refine au 1 rfl ?_
   refine Run.ldSl s fun a11 n12 c13 h14 hl s => ?_
   refine zg rfl (sem_load1 A9 ((.slice a11 n12 c13)) rfl TF.agg_164 hl ?_)
   refine au 3 rfl ?_
   refine zg rfl (sem_buildSL [(0, (.int .i64 (i2))), (1, (.int .i64 (i3)))] [(.int .i64 (i2)), (.int .i64 (i3))] TF.zero_163 TF.places_163 rfl rfl ?_)
   refine zg rfl (sem_buildSliceL [(0, (.agg #[(.int .i64 (i2)), (.int .i64 (i3))]))] [(.int .i64 (i2)), (.int .i64 (i3))] TF.slc_164 TF.zero_163 rfl (by decide) (by decide) rfl rfl (fun k15 hb1 hb2 h16 hb3 => ?_))
   have s := s k15 hb1 hb2 h16 hb3
   refine zcall s rfl rfl TF.goes_104 ?_
   rintro _ h17 ⟨a18, n19, c20, rfl, s⟩
   refine znil s rfl rfl fun A21 s => ?_
   refine au 1 rfl ?_
   refine zs1 s rfl rfl rfl rfl TF.sz_164 fun h23 s => ?_
   refine au 5 rfl ?_
   exact zr (s.imp fun _ q => ⟨_, rfl, q⟩)
  ·replace s := s.1 rfl
   refine au 1 rfl ?_
   refine au 11 rfl ?_
   refine znil s rfl rfl fun A24 s => ?_
   refine au 1 rfl ?_
   refine Run.ldSl s fun a26 n27 c28 h29 hl s => ?_
   refine zg rfl (sem_load1 A24 ((.slice a26 n27 c28)) rfl TF.agg_164 hl ?_)
   refine au 2 rfl ?_
   obtain ⟨A30, e31, hi0, hi1, s⟩ := s
   refine zg rfl (sem_indexAddrS A30 n27 c28 .i64 (i7) (congrArg (fun a => Value.slice a n27 c28) e31) rfl TF.slc_164 hi0 hi1 ?_)
   refine au 1 rfl ?_
   refine zs1 s rfl rfl rfl rfl TF.sz_3 fun h32 s => ?_
   refine au 5 rfl ?_
   exact zr (s.imp fun _ q => ⟨_, rfl, q⟩)
theorem C_cell_New_int.of {B : RO} {i1 : Int} {i2 : Int} {h : Heap} {Q : Option Addr → Heap → Prop} (s : S_cell_New_int B i1 i2 h Q) : C_cell_New_int B i1 i2 h Q := by
 refine zspec Tryz.func67 [ResultVar.tmp 4] rfl rfl rfl rfl rfl ?_
 refine au 6 rfl ?_
 refine zg rfl (sem_buildSL [] [(.slice none 0 0)] TF.zero_172 TF.places_172 rfl rfl ?_)
 refine zbn s rfl rfl rfl fun k4 h5 s => ?_
 refine au 9 rfl ?_
 obtain ⟨J11, m9, h0, s⟩ := s
 refine Run.of_fin (h0.imp fun h' h0 => ?_)
 refine Run.loop (σ := Int × Nat) (fun x e h => J11 x.1 x.2 h ∧ Agree [(1, (.int .i64 (i2))), (5, (.pointer (some ⟨k4, 0, none⟩))), (8, (.int .i64 (i1))), (9, (.int .i64 (x.1)))] e) (fun x => x.2) ((0), m9) ⟨h0, ⟨rfl, rfl, rfl, rfl, trivial⟩⟩ ?_; clear h0
 rintro ⟨i6, m8⟩ e h7 ⟨hJ, hag⟩ ih10
 have s := s i6 m8 h7 hJ; clear hJ
 refine Run.env hag ?_; clear hag
 refine au 2 rfl ?_
 refine zt s rfl rfl rfl binI_lss_t binI_lss_f (fun s => ?_) fun s => ?_
 ·refine au 11 rfl ?_
  refine Run.ldSl s fun a12 n13 c14 h15 hl s => ?_
  refine zg rfl (sem_load1 ⟨k4, 0, none⟩ ((.slice a12 n13 c14)) rfl TF.agg_170 hl ?_)
  refine au 1 rfl ?_
  refine zg rfl (sem_buildSL [(0, (.int .i64 (i2)))] [(.int .i64 (i2)), (.int .i64 (0))] TF.zero_169 TF.places_169 rfl rfl ?_)
  refine zg rfl (sem_buildSliceL [(0, (.agg #[(.int .i64 (i2)), (.int .i64 (0))]))] [(.int .i64 (i2)), (.int .i64 (0))] TF.slc_170 TF.zero_169 rfl (by decide) (by decide) rfl rfl (fun k16 hb1 hb2 h17 hb3 => ?_))
  have s := s k16 hb1 hb2 h17 hb3
  refine zg rfl (sem_appendL [(.slice a12 n13 c14), (.slice (some ⟨k16, 0, none⟩) 1 1)] rfl (semH_mono (fun v h18 hv => ?_) s))
  obtain ⟨a19, n20, c21, rfl, s⟩ := hv
  refine au 2 rfl ?_
  refine zs1 s rfl rfl rfl rfl TF.sz_170 fun h22 s => ?_
  refine au 6 rfl ?_
  exact Run.of_fin (s.imp fun h' ⟨m', hm, s⟩ => ih10 ((IntKind.wrap .i64 ((i6) + (1))), m') _ _ ⟨s, ⟨rfl, rfl, rfl, rfl, trivial⟩⟩ hm)
 ·refine au 9 rfl ?_
  exact zr (s.imp fun _ q => ⟨_, rfl, q⟩)
theorem C_tome_New.of {B : RO} {h : Heap} {Q : Option Addr → Heap → Prop} (s : S_tome_New B h Q) : C_tome_New B h Q := by
 refine zspec Tryz.func68 [ResultVar.tmp 0] rfl rfl rfl rfl rfl ?_
 refine au 6 rfl ?_
 refine zg rfl (sem_buildSL [] [(.bool false), (.string ByteArray.empty)] TF.zero_119 TF.places_119 rfl rfl ?_)
 refine zcall s rfl rfl TF.goes_105 ?_
 rintro _ h2 ⟨p3, rfl, s⟩
 refine zg rfl (sem_buildSL [(0, (.pointer p3))] [(.pointer p3)] TF.zero_184 TF.places_184 rfl rfl ?_)
 refine zbn s rfl rfl rfl fun k4 h5 s => ?_
 refine au 2 rfl ?_
 exact zr (s.imp fun _ q => ⟨_, rfl, q⟩)
theorem C_feed_New.of {B : RO} {h : Heap} {Q : Option Addr → Heap → Prop} (s : S_feed_New B h Q) : C_feed_New B h Q := by
 refine zspec Tryz.func69 [ResultVar.tmp 0] rfl rfl rfl rfl rfl ?_
 refine au 6 rfl ?_
 refine zcall s rfl rfl TF.goes_67 ?_
 rintro _ h2 ⟨p3, rfl, s⟩
 refine zg rfl (sem_buildSL [(1, (.pointer p3))] [(.string ByteArray.empty), (.string ByteArray.empty), (.string ByteArray.empty), (.pointer p3)] TF.zero_128 TF.places_128 rfl rfl ?_)
 refine zbn s rfl rfl rfl fun k4 h5 s => ?_
 refine au 2 rfl ?_
 exact zr (s.imp fun _ q => ⟨_, rfl, q⟩)
theorem C_reads_New.of {B : RO} {i1 : Int} {h : Heap} {Q : Option Addr → Heap → Prop} (s : S_reads_New B i1 h Q) : C_reads_New B i1 h Q := by
 refine zspec Tryz.func70 [ResultVar.tmp 2] rfl rfl rfl rfl rfl ?_
 refine au 7 rfl ?_
 refine zg rfl (sem_buildSL [(1, (.int .i64 (i1)))] [(.slice none 0 0), (.int .i64 (i1))] TF.zero_137 TF.places_137 rfl rfl ?_)
 refine zbn s rfl rfl rfl fun k3 h4 s => ?_
 refine au 2 rfl ?_
 exact zr (s.imp fun _ q => ⟨_, rfl, q⟩)
theorem C_mark_Fresh.of {B : RO} {i1 : Int} {i2 : Int} {i3 : Int} {i4 : Int} {h : Heap} {Q : Option Addr → Option Addr → Option Addr → Int → Int → Int → Int → Heap → Prop} (s : S_mark_Fresh B i1 i2 i3 i4 h Q) : C_mark_Fresh B i1 i2 i3 i4 h Q := by
 refine zspec Tryz.func71 [ResultVar.cell 2 95] rfl rfl rfl rfl rfl ?_
 refine au 2 rfl ?_
 refine zbn s rfl rfl rfl fun k12 h13 s => ?_
 refine zal s rfl TF.zero_95 rfl fun k14 h15 s => ?_
 refine au 2 rfl ?_
 obtain ⟨i18, i19, i20, i21, hl, s⟩ := s
 have f22 := hl
 refine Run.drawM (fun h' => CellsAt B h' ⟨k12, 0, none⟩ 0 [(.int .i64 (i18)), (.int .i64 (i19)), (.int .i64 (i20)), (.int .i64 (i21))] ∧ True) [7] ⟨[0, 1, 0, 0, 8, 0, 54, 127], [255, 254, 255, 255, 247, 255, 201, 191], [0, 1, 0, 0, 8, 0, 63, 127], 128⟩ (.q 0 (.q 3 (.q 5 (.x 1 (.x 2 (.x 4 (.q 6 (.x 7 .nil .no)) .no) (.x 4 (.x 2 (.q 6 (.x 7 .nil .no)) .no) .no)) (.x 2 (.x 1 (.x 4 (.q 6 (.x 7 .nil .no)) .no) (.x 4 (.x 1 (.q 6 (.x 7 .nil .no)) .no) .no)) (.x 4 (.x 1 (.x 2 (.q 6 (.x 7 .nil .no)) .no) (.x 2 (.x 1 (.q 6 (.x 7 .nil .no)) .no) .no)) .no)))))) TF.mixed (by kernel_rfl) ⟨f22, trivial⟩ ?_
 refine zq rfl (fun _ hC => sem_buildSL [] [(.slice none 0 0)] TF.zero_166 TF.places_166 rfl rfl ⟨rfl, rfl⟩) ?_
 refine zq rfl (fun _ hC => sem_buildSL [] [(.int .i64 (0)), (.int .i64 (0)), (.int .i64 (0))] TF.zero_181 TF.places_181 rfl rfl ⟨rfl, rfl⟩) ?_
 refine zq rfl (fun _ hC => sem_loadN ⟨k12, 0, none⟩ [(.int .i64 (i18)), (.int .i64 (i19)), (.int .i64 (i20)), (.int .i64 (i21))] rfl TF.agg_26 TF.sz_26 hC.1 ⟨rfl, rfl⟩) ?_
 refine RunT.joinJ (t := (.q 6 (.x 7 .nil .no))) (fun e h72 => ∃ A69 : Addr, ∃ p70 : Option Addr, ∃ A71 : Addr, Agree [(2, (.pointer (some ⟨k14, 0, none⟩))), (4, (.pointer (some A69))), (5, (.pointer p70)), (7, (.pointer (some A71))), (8, (.agg #[(.int .i64 (i18)), (.int .i64 (i19)), (.int .i64 (i20)), (.int .i64 (i21))]))] e ∧ CellsAt B h72 ⟨k12, 0, none⟩ 0 [(.int .i64 (i18)), (.int .i64 (i19)), (.int .i64 (i20)), (.int .i64 (i21))] ∧ S_mark_Fresh_J1 B k12 k14 i18 i19 i20 i21 A69 p70 A71 h72 Q) ?_ fun j68 => ?_
 ·rintro e h72 ⟨A69, p70, A71, hag, g73, s⟩
  refine RunT.env hag ?_; clear hag
  refine zq rfl (fun _ _ => sem_buildSL [(0, (.pointer (some A69))), (1, (.pointer p70)), (2, (.pointer (some A71))), (3, (.agg #[(.int .i64 (i18)), (.int .i64 (i19)), (.int .i64 (i20)), (.int .i64 (i21))]))] [(.pointer (some A69)), (.pointer p70), (.pointer (some A71)), (.int .i64 (i18)), (.int .i64 (i19)), (.int .i64 (i20)), (.int .i64 (i21))] TF.zero_95 TF.places_95 rfl rfl ⟨rfl, rfl⟩) ?_
  obtain ⟨h74, hst, s⟩ := s
  refine ⟨zo0 rfl (sem_storeN ⟨k14, 0, none⟩ [(.pointer (some A69)), (.pointer p70), (.pointer (some A71)), (.int .i64 (i18)), (.int .i64 (i19)), (.int .i64 (i20)), (.int .i64 (i21))] h74 rfl rfl TF.sz_95 hst ?_), trivial⟩
  refine ⟨fun hz => Bool.noConfusion hz, ?_⟩
  obtain ⟨p75, p76, p77, i78, i79, i80, i81, hl0, s⟩ := s
  exact zr (⟨⟨k14, 0, none⟩, (.agg #[(.pointer p75), (.pointer p76), (.pointer p77), (.int .i64 (i78)), (.int .i64 (i79)), (.int .i64 (i80)), (.int .i64 (i81))]), rfl, loadHN TF.agg_95 TF.sz_95 hl0, s.imp fun _ q => ⟨_, _, _, _, _, _, _, rfl, q⟩⟩)
 refine ⟨?_, ?_, ?_, trivial⟩
 ·have s := s.1
  refine zo rfl (sem_boxNN [(.slice none 0 0)] rfl (fun k82 hb1 hb2 h83 hb3 => ?_))
  have s := s k82 hb1 hb2 h83 hb3
  obtain ⟨g84, s⟩ := s
  refine ⟨fun _ => ⟨g84, trivial⟩, ?_⟩
  refine ⟨?_, ?_, trivial⟩
  ·have s := s.1
   refine zo rfl (sem_callL [] (TF.goes_106) rfl rfl (Spec.mono s fun v h85 hv => ?_))
   obtain ⟨p86, rfl, s⟩ := hv
   obtain ⟨g87, s⟩ := s
   refine ⟨fun _ => ⟨g87, trivial⟩, ?_⟩
   refine ⟨zo rfl (sem_boxNN [(.int .i64 (0)), (.int .i64 (0)), (.int .i64 (0))] rfl (fun k88 hb1 hb2 h89 hb3 => ?_)), trivial⟩
   have s := s k88 hb1 hb2 h89 hb3
   obtain ⟨g90, s⟩ := s
   refine ⟨fun _ => ⟨g90, trivial⟩, ?_⟩
   exact j68 _ _ ⟨⟨k82, 0, none⟩, p86, ⟨k88, 0, none⟩, ⟨rfl, rfl, rfl, rfl, rfl, trivial⟩, g90, s⟩
  ·have s := s.2
   refine zo rfl (sem_boxNN [(.int .i64 (0)), (.int .i64 (0)), (.int .i64 (0))] rfl (fun k91 hb1 hb2 h92 hb3 => ?_))
   have s := s k91 hb1 hb2 h92 hb3
   obtain ⟨g93, s⟩ := s
   refine ⟨fun _ => ⟨g93, trivial⟩, ?_⟩
   refine ⟨zo rfl (sem_callL [] (TF.goes_106) rfl rfl (Spec.mono s fun v h94 hv => ?_)), trivial⟩
   obtain ⟨p95, rfl, s⟩ := hv
   obtain ⟨g96, s⟩ := s
   refine ⟨fun _ => ⟨g96, trivial⟩, ?_⟩
   exact j68 _ _ ⟨⟨k82, 0, none⟩, p95, ⟨k91, 0, none⟩, ⟨rfl, rfl, rfl, rfl, rfl, trivial⟩, g96, s⟩
 ·have s := s.2.1
  refine zo rfl (sem_callL [] (TF.goes_106) rfl rfl (Spec.mono s fun v h97 hv => ?_))
  obtain ⟨p98, rfl, s⟩ := hv
  obtain ⟨g99, s⟩ := s
  refine ⟨fun _ => ⟨g99, trivial⟩, ?_⟩
  refine ⟨?_, ?_, trivial⟩
  ·have s := s.1
   refine zo rfl (sem_boxNN [(.slice none 0 0)] rfl (fun k100 hb1 hb2 h101 hb3 => ?_))
   have s := s k100 hb1 hb2 h101 hb3
   obtain ⟨g102, s⟩ := s
   refine ⟨fun _ => ⟨g102, trivial⟩, ?_⟩
   refine ⟨zo rfl (sem_boxNN [(.int .i64 (0)), (.int .i64 (0)), (.int .i64 (0))] rfl (fun k103 hb1 hb2 h104 hb3 => ?_)), trivial⟩
   have s := s k103 hb1 hb2 h104 hb3
   obtain ⟨g105, s⟩ := s
   refine ⟨fun _ => ⟨g105, trivial⟩, ?_⟩
   exact j68 _ _ ⟨⟨k100, 0, none⟩, p98, ⟨k103, 0, none⟩, ⟨rfl, rfl, rfl, rfl, rfl, trivial⟩, g105, s⟩
  ·have s := s.2
   refine zo rfl (sem_boxNN [(.int .i64 (0)), (.int .i64 (0)), (.int .i64 (0))] rfl (fun k106 hb1 hb2 h107 hb3 => ?_))
   have s := s k106 hb1 hb2 h107 hb3
   obtain ⟨g108, s⟩ := s
   refine ⟨fun _ => ⟨g108, trivial⟩, ?_⟩
   refine ⟨zo rfl (sem_boxNN [(.slice none 0 0)] rfl (fun k109 hb1 hb2 h110 hb3 => ?_)), trivial⟩
   have s := s k109 hb1 hb2 h110 hb3
   obtain ⟨g111, s⟩ := s
   refine ⟨fun _ => ⟨g111, trivial⟩, ?_⟩
   exact j68 _ _ ⟨⟨k109, 0, none⟩, p98, ⟨k106, 0, none⟩, ⟨rfl, rfl, rfl, rfl, rfl, trivial⟩, g111, s⟩
 ·have s := s.2.2
  refine zo rfl (sem_boxNN [(.int .i64 (0)), (.int .i64 (0)), (.int .i64 (0))] rfl (fun k112 hb1 hb2 h113 hb3 => ?_))
  have s := s k112 hb1 hb2 h113 hb3
  obtain ⟨g114, s⟩ := s
  refine ⟨fun _ => ⟨g114, trivial⟩, ?_⟩
  refine ⟨?_, ?_, trivial⟩
  ·have s := s.1
   refine zo rfl (sem_boxNN [(.slice none 0 0)] rfl (fun k115 hb1 hb2 h116 hb3 => ?_))
   have s := s k115 hb1 hb2 h116 hb3
   obtain ⟨g117, s⟩ := s
   refine ⟨fun _ => ⟨g117, trivial⟩, ?_⟩
   refine ⟨zo rfl (sem_callL [] (TF.goes_106) rfl rfl (Spec.mono s fun v h118 hv => ?_)), trivial⟩
   obtain ⟨p119, rfl, s⟩ := hv
   obtain ⟨g120, s⟩ := s
   refine ⟨fun _ => ⟨g120, trivial⟩, ?_⟩
   exact j68 _ _ ⟨⟨k115, 0, none⟩, p119, ⟨k112, 0, none⟩, ⟨rfl, rfl, rfl, rfl, rfl, trivial⟩, g120, s⟩
  ·have s := s.2
   refine zo rfl (sem_callL [] (TF.goes_106) rfl rfl (Spec.mono s fun v h121 hv => ?_))
   obtain ⟨p122, rfl, s⟩ := hv
   obtain ⟨g123, s⟩ := s
   refine ⟨fun _ => ⟨g123, trivial⟩, ?_⟩
   refine ⟨zo rfl (sem_boxNN [(.slice none 0 0)] rfl (fun k124 hb1 hb2 h125 hb3 => ?_)), trivial⟩
   have s := s k124 hb1 hb2 h125 hb3
   obtain ⟨g126, s⟩ := s
   refine ⟨fun _ => ⟨g126, trivial⟩, ?_⟩
   exact j68 _ _ ⟨⟨k124, 0, none⟩, p122, ⟨k112, 0, none⟩, ⟨rfl, rfl, rfl, rfl, rfl, trivial⟩, g126, s⟩
theorem C_mark_Stack_Push.of {B : RO} {p1 : Option Addr} {p2 : Option Addr} {p3 : Option Addr} {p4 : Option Addr} {i5 : Int} {i6 : Int} {i7 : Int} {i8 : Int} {i9 : Int} {i10 : Int} {i11 : Int} {i12 : Int} {i13 : Int} {h : Heap} {Q : Bool → Heap → Prop} (s : S_mark_Stack_Push B p1 p2 p3 p4 i5 i6 i7 i8 i9 i10 i11 i12 i13 h Q) : C_mark_Stack_Push B p1 p2 p3 p4 i5 i6 i7 i8 i9 i10 i11 i12 i13 h Q := by
 refine zspec Tryz.func72 [ResultVar.tmp 4] rfl rfl rfl rfl rfl ?_
 refine au 2 rfl ?_
 refine zbn s rfl rfl rfl fun k15 h16 s => ?_
 refine au 6 rfl ?_
 by_cases hb17 : p1 = none
 ·replace s := s.1 hb17
  refine zg rfl (sem_ptrNilT p1 (.inl rfl) true rfl rfl TF.ptr_105 hb17 rfl ?_)
  refine au 6 rfl ?_
  exact zr (s.imp fun _ q => ⟨_, rfl, q⟩)
 ·replace s := s.2 hb17
  refine zg rfl (sem_ptrNilF p1 (.inl rfl) false rfl rfl TF.ptr_105 hb17 rfl ?_)
  refine au 6 rfl ?_
  obtain ⟨p18, p19, p20, i21, i22, i23, i24, hl, s⟩ := s
  refine zn hl rfl rfl TF.agg_95 TF.sz_95 rfl ?_
  refine zcall s rfl rfl TF.goes_107 ?_
  rintro _ h25 ⟨p26, p27, p28, i29, i30, i31, i32, rfl, s⟩
  refine au 1 rfl ?_
  refine zsn s rfl rfl rfl TF.sz_95 rfl fun h33 s => ?_
  refine au 2 rfl ?_
  obtain ⟨A36, e37, s⟩ := s
  obtain ⟨a40, n41, c42, hl, s⟩ := s
  have f43 := hl
  obtain ⟨p44, p45, p46, i47, i48, i49, i50, i51, i52, i53, i54, i55, hl, s⟩ := s
  have f56 := hl
  refine Run.drawM (fun h' => cellH B h' A36 = some (.slice a40 n41 c42) ∧ CellsAt B h' ⟨k15, 0, none⟩ 0 [(.pointer p44), (.pointer p45), (.pointer p46), (.int .i64 (i47)), (.int .i64 (i48)), (.int .i64 (i49)), (.int .i64 (i50)), (.int .i64 (i51)), (.int .i64 (i52)), (.int .i64 (i53)), (.int .i64 (i54)), (.int .i64 (i55))] ∧ True) [10] ⟨[0, 0, 2, 4, 8, 0, 32, 80, 255, 511, 767], [2047, 2047, 2045, 2043, 2039, 2047, 2015, 1967, 2046, 1791, 1407], [0, 0, 2, 6, 14, 0, 32, 126, 255, 511, 1023], 1024⟩ (.q 0 (.q 1 (.q 2 (.q 3 (.q 4 (.q 5 (.x 6 (.x 7 (.q 8 (.q 9 (.x 10 .nil .no))) .no) .no))))))) TF.mixed (by kernel_rfl) ⟨f43, f56, trivial⟩ ?_
  refine auT 2 rfl ?_
  refine zq rfl (fun _ hC => sem_nilCheck A36 (congrArg Value.pointer e37) ⟨rfl, rfl⟩) ?_
  refine auT 1 rfl ?_
  refine zq rfl (fun _ hC => sem_load1 A36 ((.slice a40 n41 c42)) rfl TF.agg_145 hC.1 ⟨rfl, rfl⟩) ?_
  refine zq rfl (fun _ hC => sem_loadN ⟨k15, 0, none⟩ [(.pointer p44), (.pointer p45), (.pointer p46), (.int .i64 (i47)), (.int .i64 (i48)), (.int .i64 (i49)), (.int .i64 (i50)), (.int .i64 (i51)), (.int .i64 (i52)), (.int .i64 (i53)), (.int .i64 (i54)), (.int .i64 (i55))] rfl TF.agg_152 TF.sz_152 hC.2.1 ⟨rfl, rfl⟩) ?_
  refine ⟨zo rfl (sem_buildSliceL [(0, (.agg #[(.pointer p44), (.pointer p45), (.pointer p46), (.int .i64 (i47)), (.int .i64 (i48)), (.int .i64 (i49)), (.int .i64 (i50)), (.int .i64 (i51)), (.int .i64 (i52)), (.int .i64 (i53)), (.int .i64 (i54)), (.int .i64 (i55))]))] [(.pointer p44), (.pointer p45), (.pointer p46), (.int .i64 (i47)), (.int .i64 (i48)), (.int .i64 (i49)), (.int .i64 (i50)), (.int .i64 (i51)), (.int .i64 (i52)), (.int .i64 (i53)), (.int .i64 (i54)), (.int .i64 (i55))] TF.slc_145 TF.zero_152 rfl (by decide) (by decide) rfl rfl (fun k57 hb1 hb2 h58 hb3 => ?_)), trivial⟩
  have s := s k57 hb1 hb2 h58 hb3
  obtain ⟨g59, g60, s⟩ := s
  refine ⟨fun _ => ⟨g59, g60, trivial⟩, ?_⟩
  refine ⟨zo rfl (sem_appendL [(.slice a40 n41 c42), (.slice (some ⟨k57, 0, none⟩) 1 1)] rfl (semH_mono (fun v h61 hv => ?_) s)), trivial⟩
  obtain ⟨a62, n63, c64, rfl, s⟩ := hv
  obtain ⟨g65, g66, s⟩ := s
  refine ⟨fun _ => ⟨g65, g66, trivial⟩, ?_⟩
  obtain ⟨A67, e68, s⟩ := s
  refine zq rfl (fun _ _ => sem_nilCheck A67 (congrArg Value.pointer e68) ⟨rfl, rfl⟩) ?_
  refine auT 1 rfl ?_
  obtain ⟨h69, hst, s⟩ := s
  refine ⟨zo0 rfl (sem_store1 A67 ((.slice a62 n63 c64)) h69 rfl rfl rfl TF.sz_145 hst ?_), trivial⟩
  refine ⟨fun hz => Bool.noConfusion hz, ?_⟩
  refine au 4 rfl ?_
  exact zr (s.imp fun _ q => ⟨_, rfl, q⟩)
theorem C_acts_Acts_Mark.of {B : RO} {p1 : Option Addr} {h : Heap} {Q : Int → Int → Int → Int → Heap → Prop} (s : S_acts_Acts_Mark B p1 h Q) : C_acts_Acts_Mark B p1 h Q := by
 refine zspec Tryz.func73 [ResultVar.cell 2 149] rfl rfl rfl rfl rfl ?_
 refine au 2 rfl ?_
 refine zal s rfl TF.zero_149 rfl fun k6 h7 s => ?_
 refine au 5 rfl ?_
 by_cases hb8 : p1 = none
 ·replace s := s.1 hb8
  refine zg rfl (sem_ptrNilT p1 (.inl rfl) true rfl rfl TF.ptr_88 hb8 rfl ?_)
  refine au 4 rfl ?_
  refine zg rfl (sem_buildAL [] [(.int .i64 (0)), (.int .i64 (0)), (.int .i64 (0)), (.int .i64 (0))] TF.zero_149 TF.arr_149 rfl rfl ?_)
  refine zsn s rfl rfl rfl TF.sz_149 rfl fun h9 s => ?_
  refine au 1 rfl ?_
  obtain ⟨i10, i11, i12, i13, hl0, s⟩ := s
  exact zr (⟨⟨k6, 0, none⟩, (.agg #[(.int .i64 (i10)), (.int .i64 (i11)), (.int .i64 (i12)), (.int .i64 (i13))]), rfl, loadHN TF.agg_149 TF.sz_149 hl0, s.imp fun _ q => ⟨_, _, _, _, rfl, q⟩⟩)
 ·replace s := s.2 hb8
  refine zg rfl (sem_ptrNilF p1 (.inl rfl) false rfl rfl TF.ptr_88 hb8 rfl ?_)
  refine au 4 rfl ?_
  refine Run.drawM (fun h' => h' = h7) [21] ⟨[0, 1, 2, 4, 8, 0, 32, 64, 128, 256, 0, 1024, 2048, 4096, 8192, 0, 32768, 65536, 131072, 262144, 541200, 2097151], [4194303, 4194302, 4194301, 4194299, 4194295, 4194303, 4194271, 4194239, 4194175, 4194047, 4194303, 4193279, 4192255, 4190207, 4186111, 4194303, 4161535, 4128767, 4063231, 3932159, 3653103, 3145727], [0, 1, 3, 7, 15, 0, 32, 96, 224, 480, 0, 1024, 3072, 7168, 15360, 0, 32768, 98304, 229376, 491520, 1048575, 2097151], 2097152⟩ (.q 0 (.q 1 (.q 2 (.q 3 (.q 4 (.q 5 (.q 6 (.q 7 (.q 8 (.q 9 (.q 10 (.q 11 (.q 12 (.q 13 (.q 14 (.q 15 (.q 16 (.q 17 (.q 18 (.q 19 (.q 20 (.x 21 .nil .no)))))))))))))))))))))) TF.mixed (by kernel_rfl) rfl ?_
  refine auT 1 rfl ?_
  obtain ⟨A14, e15, s⟩ := s
  refine zqe rfl (sem_nilCheck A14 (congrArg Value.pointer e15) ⟨rfl, rfl⟩) ?_
  refine auT 1 rfl ?_
  obtain ⟨a16, n17, c18, hl, s⟩ := s
  refine zqe rfl (sem_load1 A14 ((.slice a16 n17 c18)) rfl TF.agg_101 hl ⟨rfl, rfl⟩) ?_
  refine zqe rfl (sem_lenSl a16 n17 c18 rfl TF.sl_101 ⟨rfl, rfl⟩) ?_
  refine auT 1 rfl ?_
  obtain ⟨A19, e20, s⟩ := s
  refine zqe rfl (sem_nilCheck A19 (congrArg Value.pointer e20) ⟨rfl, rfl⟩) ?_
  refine auT 1 rfl ?_
  obtain ⟨a21, n22, c23, hl, s⟩ := s
  refine zqe rfl (sem_load1 (Addr.add A19 1) ((.slice a21 n22 c23)) rfl TF.agg_101 hl ⟨rfl, rfl⟩) ?_
  refine zqe rfl (sem_lenSl a21 n22 c23 rfl TF.sl_101 ⟨rfl, rfl⟩) ?_
  refine auT 1 rfl ?_
  obtain ⟨A24, e25, s⟩ := s
  refine zqe rfl (sem_nilCheck A24 (congrArg Value.pointer e25) ⟨rfl, rfl⟩) ?_
  refine auT 1 rfl ?_
  obtain ⟨a26, n27, c28, hl, s⟩ := s
  refine zqe rfl (sem_load1 (Addr.add A24 2) ((.slice a26 n27 c28)) rfl TF.agg_76 hl ⟨rfl, rfl⟩) ?_
  refine zqe rfl (sem_lenSl a26 n27 c28 rfl TF.sl_76 ⟨rfl, rfl⟩) ?_
  refine auT 1 rfl ?_
  obtain ⟨A29, e30, s⟩ := s
  refine zqe rfl (sem_nilCheck A29 (congrArg Value.pointer e30) ⟨rfl, rfl⟩) ?_
  refine auT 1 rfl ?_
  obtain ⟨a31, n32, c33, hl, s⟩ := s
  refine zqe rfl (sem_load1 (Addr.add A29 3) ((.slice a31 n32 c33)) rfl TF.agg_80 hl ⟨rfl, rfl⟩) ?_
  refine zqe rfl (sem_lenSl a31 n32 c33 rfl TF.sl_80 ⟨rfl, rfl⟩) ?_
  refine zqe rfl (sem_buildAL [(0, (.int .i64 ((n17 : Nat)))), (1, (.int .i64 ((n22 : Nat)))), (2, (.int .i64 ((n27 : Nat)))), (3, (.int .i64 ((n32 : Nat))))] [(.int .i64 ((n17 : Nat))), (.int .i64 ((n22 : Nat))), (.int .i64 ((n27 : Nat))), (.int .i64 ((n32 : Nat)))] TF.zero_149 TF.arr_149 rfl rfl ⟨rfl, rfl⟩) ?_
  obtain ⟨h34, hst, s⟩ := s
  refine ⟨zo0 rfl (sem_storeN ⟨k6, 0, none⟩ [(.int .i64 ((n17 : Nat))), (.int .i64 ((n22 : Nat))), (.int .i64 ((n27 : Nat))), (.int .i64 ((n32 : Nat)))] h34 rfl rfl TF.sz_149 hst ?_), trivial⟩
  refine ⟨fun hz => Bool.noConfusion hz, ?_⟩
  obtain ⟨i35, i36, i37, i38, hl0, s⟩ := s
  exact zr (⟨⟨k6, 0, none⟩, (.agg #[(.int .i64 (i35)), (.int .i64 (i36)), (.int .i64 (i37)), (.int .i64 (i38))]), rfl, loadHN TF.agg_149 TF.sz_149 hl0, s.imp fun _ q => ⟨_, _, _, _, rfl, q⟩⟩)
theorem C_mark_Stack_Pop.of {B : RO} {p1 : Option Addr} {h : Heap} {Q : Option Addr → Option Addr → Option Addr → Int → Int → Int → Int → Int → Int → Int → Int → Int → Bool → Heap → Prop} (s : S_mark_Stack_Pop B p1 h Q) : C_mark_Stack_Pop B p1 h Q := by
 refine zspec Tryz.func74 [ResultVar.cell 2 152, ResultVar.tmp 3] rfl rfl rfl rfl rfl ?_
 refine au 2 rfl ?_
 refine zal s rfl TF.zero_152 rfl fun k15 h16 s => ?_
 refine au 2 rfl ?_
 refine Run.seqJ (fun e h18 => Agree [(0, (.pointer p1)), (2, (.pointer (some ⟨k15, 0, none⟩)))] e ∧ S_mark_Stack_Pop_J1 B p1 k15 h18 Q) ?_ fun j17 => ?_
 ·rintro e h18 ⟨hag, s⟩
  refine Run.env hag ?_; clear hag
  refine au 3 rfl ?_
  refine znil s rfl rfl fun A19 s => ?_
  refine au 1 rfl ?_
  refine Run.ldSl s fun a21 n22 c23 h24 hl s => ?_
  refine zg rfl (sem_load1 A19 ((.slice a21 n22 c23)) rfl TF.agg_145 hl ?_)
  refine zg rfl (sem_lenSl a21 n22 c23 rfl TF.sl_145 ?_)
  refine au 6 rfl ?_
  refine znil s rfl rfl fun A25 s => ?_
  refine au 1 rfl ?_
  refine Run.ldSl s fun a27 n28 c29 h30 hl s => ?_
  refine zg rfl (sem_load1 A25 ((.slice a27 n28 c29)) rfl TF.agg_145 hl ?_)
  refine au 1 rfl ?_
  obtain ⟨A31, e32, hi0, hi1, s⟩ := s
  refine zg rfl (sem_indexAddrS A31 n28 c29 .i64 (IntKind.wrap .i64 (((n22 : Nat)) - (1))) (congrArg (fun a => Value.slice a n28 c29) e32) rfl TF.slc_145 hi0 hi1 ?_)
  obtain ⟨p33, p34, p35, i36, i37, i38, i39, i40, i41, i42, i43, i44, hl, s⟩ := s
  refine zn hl rfl rfl TF.agg_152 TF.sz_152 rfl ?_
  refine zal s rfl TF.zero_152 rfl fun k45 h46 s => ?_
  refine zsn s rfl rfl rfl TF.sz_152 rfl fun h47 s => ?_
  refine au 5 rfl ?_
  refine znil s rfl rfl fun A48 s => ?_
  refine au 1 rfl ?_
  refine Run.ldSl s fun a50 n51 c52 h53 hl s => ?_
  refine zg rfl (sem_load1 A48 ((.slice a50 n51 c52)) rfl TF.agg_145 hl ?_)
  refine au 3 rfl ?_
  refine zcall s rfl rfl TF.goes_108 ?_
  rintro _ h54 ⟨a55, n56, c57, rfl, s⟩
  refine znil s rfl rfl fun A58 s => ?_
  refine au 1 rfl ?_
  refine zs1 s rfl rfl rfl rfl TF.sz_145 fun h60 s => ?_
  refine au 3 rfl ?_
  obtain ⟨p61, p62, p63, i64, i65, i66, i67, i68, i69, i70, i71, i72, hl, s⟩ := s
  refine zn hl rfl rfl TF.agg_152 TF.sz_152 rfl ?_
  refine zsn s rfl rfl rfl TF.sz_152 rfl fun h73 s => ?_
  refine au 2 rfl ?_
  obtain ⟨p74, p75, p76, i77, i78, i79, i80, i81, i82, i83, i84, i85, hl0, s⟩ := s
  exact zr (⟨⟨k15, 0, none⟩, (.agg #[(.pointer p74), (.pointer p75), (.pointer p76), (.int .i64 (i77)), (.int .i64 (i78)), (.int .i64 (i79)), (.int .i64 (i80)), (.int .i64 (i81)), (.int .i64 (i82)), (.int .i64 (i83)), (.int .i64 (i84)), (.int .i64 (i85))]), rfl, loadHN TF.agg_152 TF.sz_152 hl0, s.imp fun _ q => ⟨_, _, _, _, _, _, _, _, _, _, _, _, _, rfl, q⟩⟩)
 refine au 3 rfl ?_
 by_cases hb86 : p1 = none
 ·replace s := s.1 hb86
  refine zg rfl (sem_ptrNilT p1 (.inl rfl) true rfl rfl TF.ptr_105 hb86 rfl ?_)
  refine au 12 rfl ?_
  refine zg rfl (sem_buildSL [] [(.pointer none), (.pointer none), (.pointer none), (.int .i64 (0)), (.int .i64 (0)), (.int .i64 (0)), (.int .i64 (0)), (.int .i64 (0)), (.int .i64 (0)), (.int .i64 (0)), (.int .i64 (0)), (.int .i64 (0))] TF.zero_152 TF.places_152 rfl rfl ?_)
  refine zsn s rfl rfl rfl TF.sz_152 rfl fun h87 s => ?_
  refine au 2 rfl ?_
  obtain ⟨p88, p89, p90, i91, i92, i93, i94, i95, i96, i97, i98, i99, hl0, s⟩ := s
  exact zr (⟨⟨k15, 0, none⟩, (.agg #[(.pointer p88), (.pointer p89), (.pointer p90), (.int .i64 (i91)), (.int .i64 (i92)), (.int .i64 (i93)), (.int .i64 (i94)), (.int .i64 (i95)), (.int .i64 (i96)), (.int .i64 (i97)), (.int .i64 (i98)), (.int .i64 (i99))]), rfl, loadHN TF.agg_152 TF.sz_152 hl0, s.imp fun _ q => ⟨_, _, _, _, _, _, _, _, _, _, _, _, _, rfl, q⟩⟩)
 ·replace s := s.2 hb86
  refine zg rfl (sem_ptrNilF p1 (.inl rfl) false rfl rfl TF.ptr_105 hb86 rfl ?_)
  refine au 2 rfl ?_
  refine znil s rfl rfl fun A100 s => ?_
  refine au 1 rfl ?_
  refine Run.ldSl s fun a102 n103 c104 h105 hl s => ?_
  refine zg rfl (sem_load1 A100 ((.slice a102 n103 c104)) rfl TF.agg_145 hl ?_)
  refine zg rfl (sem_lenSl a102 n103 c104 rfl TF.sl_145 ?_)
  refine zt s rfl rfl rfl binI_eql_t binI_eql_f (fun s => ?_) fun s => ?_
  ·refine au 5 rfl ?_
   refine zg rfl (sem_buildSL [] [(.pointer none), (.pointer none), (.pointer none), (.int .i64 (0)), (.int .i64 (0)), (.int .i64 (0)), (.int .i64 (0)), (.int .i64 (0)), (.int .i64 (0)), (.int .i64 (0)), (.int .i64 (0)), (.int .i64 (0))] TF.zero_152 TF.places_152 rfl rfl ?_)
   refine zsn s rfl rfl rfl TF.sz_152 rfl fun h106 s => ?_
   refine au 2 rfl ?_
   obtain ⟨p107, p108, p109, i110, i111, i112, i113, i114, i115, i116, i117, i118, hl0, s⟩ := s
   exact zr (⟨⟨k15, 0, none⟩, (.agg #[(.pointer p107), (.pointer p108), (.pointer p109), (.int .i64 (i110)), (.int .i64 (i111)), (.int .i64 (i112)), (.int .i64 (i113)), (.int .i64 (i114)), (.int .i64 (i115)), (.int .i64 (i116)), (.int .i64 (i117)), (.int .i64 (i118))]), rfl, loadHN TF.agg_152 TF.sz_152 hl0, s.imp fun _ q => ⟨_, _, _, _, _, _, _, _, _, _, _, _, _, rfl, q⟩⟩)
  ·refine au 4 rfl ?_
   exact Run.of_fin (s.imp fun h' s => j17 _ _ ⟨⟨rfl, rfl, trivial⟩, s⟩)
theorem C_acts_Acts_Back.of {B : RO} {p1 : Option Addr} {i2 : Int} {i3 : Int} {i4 : Int} {i5 : Int} {h : Heap} {Q : Option Addr → Nat → Nat → Heap → Prop} (s : S_acts_Acts_Back B p1 i2 i3 i4 i5 h Q) : C_acts_Acts_Back B p1 i2 i3 i4 i5 h Q := by
 refine zspec Tryz.func75 [ResultVar.tmp 4] rfl rfl rfl rfl rfl ?_
 refine au 2 rfl ?_
 refine zbn s rfl rfl rfl fun k9 h10 s => ?_
 refine au 6 rfl ?_
 by_cases hb11 : p1 = none
 ·replace s := s.1 hb11
  refine zg rfl (sem_ptrNilT p1 (.inl rfl) true rfl rfl TF.ptr_88 hb11 rfl ?_)
  refine au 6 rfl ?_
  exact zr (s.imp fun _ q => ⟨_, _, _, rfl, q⟩)
 ·replace s := s.2 hb11
  refine zg rfl (sem_ptrNilF p1 (.inl rfl) false rfl rfl TF.ptr_88 hb11 rfl ?_)
  refine au 4 rfl ?_
  obtain ⟨A14, e15, s⟩ := s
  obtain ⟨a18, n19, c20, hl, s⟩ := s
  have f21 := hl
  obtain ⟨hi0, hi1, s⟩ := s
  have f23 := hi0; have f24 := hi1
  obtain ⟨i25, hl, s⟩ := s
  have f26 := hl
  refine Run.drawM (fun h' => cellH B h' A14 = some (.slice a18 n19 c20) ∧ cellH B h' ⟨k9, 0, none⟩ = some (.int .i64 (i25)) ∧ True) [10] ⟨[0, 0, 2, 4, 8, 0, 32, 80, 255, 511, 767], [2047, 2047, 2045, 2043, 2039, 2047, 2015, 1967, 2046, 1791, 1407], [0, 0, 2, 6, 14, 0, 32, 126, 255, 511, 1023], 1024⟩ (.q 0 (.q 1 (.q 2 (.q 3 (.q 4 (.q 5 (.q 6 (.x 7 (.q 8 (.q 9 (.x 10 .nil .no))) .no)))))))) TF.mixed (by kernel_rfl) ⟨f21, f26, trivial⟩ ?_
  refine auT 2 rfl ?_
  refine zq rfl (fun _ hC => sem_nilCheck A14 (congrArg Value.pointer e15) ⟨rfl, rfl⟩) ?_
  refine auT 1 rfl ?_
  refine zq rfl (fun _ hC => sem_load1 A14 ((.slice a18 n19 c20)) rfl TF.agg_101 hC.1 ⟨rfl, rfl⟩) ?_
  refine zq rfl (fun _ hC => sem_indexAddrA ⟨k9, 0, none⟩ .i64 (0) rfl rfl TF.arr_149 f23 f24 ⟨rfl, rfl⟩) ?_
  refine zq rfl (fun _ hC => sem_load1 ⟨k9, 0, none⟩ ((.int .i64 (i25))) rfl TF.agg_3 hC.2.1 ⟨rfl, rfl⟩) ?_
  refine ⟨zo rfl (sem_callL [(.slice a18 n19 c20), (.int .i64 (i25))] (TF.goes_109) rfl rfl (Spec.mono s fun v h27 hv => ?_)), trivial⟩
  obtain ⟨a28, n29, c30, rfl, s⟩ := hv
  obtain ⟨g31, g32, s⟩ := s
  refine ⟨fun _ => ⟨g31, g32, trivial⟩, ?_⟩
  obtain ⟨A33, e34, s⟩ := s
  refine zq rfl (fun _ _ => sem_nilCheck A33 (congrArg Value.pointer e34) ⟨rfl, rfl⟩) ?_
  refine auT 1 rfl ?_
  obtain ⟨h35, hst, s⟩ := s
  refine ⟨zo0 rfl (sem_store1 A33 ((.slice a28 n29 c30)) h35 rfl rfl rfl TF.sz_101 hst ?_), trivial⟩
  refine ⟨fun hz => Bool.noConfusion hz, ?_⟩
  refine au 1 rfl ?_
  obtain ⟨A38, e39, s⟩ := s
  obtain ⟨a42, n43, c44, hl, s⟩ := s
  have f45 := hl
  obtain ⟨hi0, hi1, s⟩ := s
  have f47 := hi0; have f48 := hi1
  obtain ⟨i49, hl, s⟩ := s
  have f50 := hl
  refine Run.drawM (fun h' => cellH B h' (Addr.add A38 1) = some (.slice a42 n43 c44) ∧ cellH B h' ⟨k9, 1, none⟩ = some (.int .i64 (i49)) ∧ True) [10] ⟨[0, 0, 2, 4, 8, 0, 32, 80, 255, 511, 767], [2047, 2047, 2045, 2043, 2039, 2047, 2015, 1967, 2046, 1791, 1407], [0, 0, 2, 6, 14, 0, 32, 126, 255, 511, 1023], 1024⟩ (.q 0 (.q 1 (.q 2 (.q 3 (.q 4 (.q 5 (.q 6 (.x 7 (.q 8 (.q 9 (.x 10 .nil .no))) .no)))))))) TF.mixed (by kernel_rfl) ⟨f45, f50, trivial⟩ ?_
  refine auT 2 rfl ?_
  refine zq rfl (fun _ hC => sem_nilCheck A38 (congrArg Value.pointer e39) ⟨rfl, rfl⟩) ?_
  refine auT 1 rfl ?_
  refine zq rfl (fun _ hC => sem_load1 (Addr.add A38 1) ((.slice a42 n43 c44)) rfl TF.agg_101 hC.1 ⟨rfl, rfl⟩) ?_
  refine zq rfl (fun _ hC => sem_indexAddrA ⟨k9, 0, none⟩ .i64 (1) rfl rfl TF.arr_149 f47 f48 ⟨rfl, rfl⟩) ?_
  refine zq rfl (fun _ hC => sem_load1 ⟨k9, 1, none⟩ ((.int .i64 (i49))) rfl TF.agg_3 hC.2.1 ⟨rfl, rfl⟩) ?_
  refine ⟨zo rfl (sem_callL [(.slice a42 n43 c44), (.int .i64 (i49))] (TF.goes_109) rfl rfl (Spec.mono s fun v h51 hv => ?_)), trivial⟩
  obtain ⟨a52, n53, c54, rfl, s⟩ := hv
  obtain ⟨g55, g56, s⟩ := s
  refine ⟨fun _ => ⟨g55, g56, trivial⟩, ?_⟩
  obtain ⟨A57, e58, s⟩ := s
  refine zq rfl (fun _ _ => sem_nilCheck A57 (congrArg Value.pointer e58) ⟨rfl, rfl⟩) ?_
  refine auT 1 rfl ?_
  obtain ⟨h59, hst, s⟩ := s
  refine ⟨zo0 rfl (sem_store1 (Addr.add A57 1) ((.slice a52 n53 c54)) h59 rfl rfl rfl TF.sz_101 hst ?_), trivial⟩
  refine ⟨fun hz => Bool.noConfusion hz, ?_⟩
  refine au 1 rfl ?_
  obtain ⟨A62, e63, s⟩ := s
  obtain ⟨a66, n67, c68, hl, s⟩ := s
  have f69 := hl
  obtain ⟨hi0, hi1, s⟩ := s
  have f71 := hi0; have f72 := hi1
  obtain ⟨i73, hl, s⟩ := s
  have f74 := hl
  refine Run.drawM (fun h' => cellH B h' (Addr.add A62 2) = some (.slice a66 n67 c68) ∧ cellH B h' ⟨k9, 2, none⟩ = some (.int .i64 (i73)) ∧ True) [10] ⟨[0, 0, 2, 4, 8, 0, 32, 80, 255, 511, 767], [2047, 2047, 2045, 2043, 2039, 2047, 2015, 1967, 2046, 1791, 1407], [0, 0, 2, 6, 14, 0, 32, 126, 255, 511, 1023], 1024⟩ (.q 0 (.q 1 (.q 2 (.q 3 (.q 4 (.q 5 (.q 6 (.x 7 (.q 8 (.q 9 (.x 10 .nil .no))) .no)))))))) TF.mixed (by kernel_rfl) ⟨f69, f74, trivial⟩ ?_
  refine auT 2 rfl ?_
  refine zq rfl (fun _ hC => sem_nilCheck A62 (congrArg Value.pointer e63) ⟨rfl, rfl⟩) ?_
  refine auT 1 rfl ?_
  refine zq rfl (fun _ hC => sem_load1 (Addr.add A62 2) ((.slice a66 n67 c68)) rfl TF.agg_76 hC.1 ⟨rfl, rfl⟩) ?_
  refine zq rfl (fun _ hC => sem_indexAddrA ⟨k9, 0, none⟩ .i64 (2) rfl rfl TF.arr_149 f71 f72 ⟨rfl, rfl⟩) ?_
  refine zq rfl (fun _ hC => sem_load1 ⟨k9, 2, none⟩ ((.int .i64 (i73))) rfl TF.agg_3 hC.2.1 ⟨rfl, rfl⟩) ?_
  refine ⟨zo rfl (sem_callL [(.slice a66 n67 c68), (.int .i64 (i73))] (TF.goes_110) rfl rfl (Spec.mono s fun v h75 hv => ?_)), trivial⟩
  obtain ⟨a76, n77, c78, rfl, s⟩ := hv
  obtain ⟨g79, g80, s⟩ := s
  refine ⟨fun _ => ⟨g79, g80, trivial⟩, ?_⟩
  obtain ⟨A81, e82, s⟩ := s
  refine zq rfl (fun _ _ => sem_nilCheck A81 (congrArg Value.pointer e82) ⟨rfl, rfl⟩) ?_
  refine auT 1 rfl ?_
  obtain ⟨h83, hst, s⟩ := s
  refine ⟨zo0 rfl (sem_store1 (Addr.add A81 2) ((.slice a76 n77 c78)) h83 rfl rfl rfl TF.sz_76 hst ?_), trivial⟩
  refine ⟨fun hz => Bool.noConfusion hz, ?_⟩
  refine au 1 rfl ?_
  obtain ⟨A85, e86, s⟩ := s
  obtain ⟨a89, n90, c91, hl, s⟩ := s
  have f92 := hl
  obtain ⟨hi0, hi1, s⟩ := s
  have f94 := hi0; have f95 := hi1
  obtain ⟨i96, hl, s⟩ := s
  have f97 := hl
  refine Run.drawM (fun h' => cellH B h' (Addr.add A85 3) = some (.slice a89 n90 c91) ∧ cellH B h' ⟨k9, 3, none⟩ = some (.int .i64 (i96)) ∧ True) [] ⟨[0, 1, 2, 4, 0, 16, 40, 127], [255, 254, 253, 251, 255, 239, 215, 191], [0, 0, 0, 0, 0, 0, 0, 0], 0⟩ (.q 0 (.q 1 (.q 2 (.q 3 (.q 4 (.q 5 (.x 6 (.q 7 .nil) .no))))))) TF.mixed (by kernel_rfl) ⟨f92, f97, trivial⟩ ?_
  refine auT 1 rfl ?_
  refine zq rfl (fun _ hC => sem_nilCheck A85 (congrArg Value.pointer e86) ⟨rfl, rfl⟩) ?_
  refine auT 1 rfl ?_
  refine zq rfl (fun _ hC => sem_load1 (Addr.add A85 3) ((.slice a89 n90 c91)) rfl TF.agg_80 hC.1 ⟨rfl, rfl⟩) ?_
  refine zq rfl (fun _ hC => sem_indexAddrA ⟨k9, 0, none⟩ .i64 (3) rfl rfl TF.arr_149 f94 f95 ⟨rfl, rfl⟩) ?_
  refine zq rfl (fun _ hC => sem_load1 ⟨k9, 3, none⟩ ((.int .i64 (i96))) rfl TF.agg_3 hC.2.1 ⟨rfl, rfl⟩) ?_
  refine ⟨zo rfl (sem_callL [(.slice a89 n90 c91), (.int .i64 (i96))] (TF.goes_111) rfl rfl (Spec.mono s fun v h98 hv => ?_)), trivial⟩
  obtain ⟨a99, n100, c101, rfl, s⟩ := hv
  obtain ⟨g102, g103, s⟩ := s
  refine ⟨fun _ => ⟨g102, g103, trivial⟩, ?_⟩
  refine auT 1 rfl ?_
  refine au 3 rfl ?_
  refine znil s rfl rfl fun A104 s => ?_
  refine au 1 rfl ?_
  refine Run.ldSl s fun a106 n107 c108 h109 hl s => ?_
  refine zg rfl (sem_load1 (Addr.add A104 3) ((.slice a106 n107 c108)) rfl TF.agg_80 hl ?_)
  refine au 1 rfl ?_
  refine zg rfl (sem_lenSl a99 n100 c101 rfl TF.sl_80 ?_)
  obtain ⟨hi0, hi1, hi2, s⟩ := s
  refine zg rfl (sem_sliceSlI a106 n107 c108 ((n100 : Nat)) ((n107 : Nat)) rfl TF.slc_80 ⟨_, rfl⟩ rfl hi0 hi1 hi2 ?_)
  refine zcall s rfl rfl TF.goes_112 ?_
  rintro _ h110 ⟨a111, n112, c113, rfl, s⟩
  refine au 6 rfl ?_
  refine znil s rfl rfl fun A114 s => ?_
  refine au 1 rfl ?_
  refine zs1 s rfl rfl rfl rfl TF.sz_80 fun h116 s => ?_
  refine au 6 rfl ?_
  exact zr (s.imp fun _ q => ⟨_, _, _, rfl, q⟩)
theorem C_sheet_Sheet_Draft.of {B : RO} {p1 : Option Addr} {h : Heap} {Q : Option Addr → Heap → Prop} (s : S_sheet_Sheet_Draft B p1 h Q) : C_sheet_Sheet_Draft B p1 h Q := by
 refine zspec Tryz.func78 [ResultVar.tmp 2] rfl rfl rfl rfl rfl ?_
 refine au 8 rfl ?_
 by_cases hb3 : p1 = none
 ·replace s := s.1 hb3
  refine zg rfl (sem_ptrNilT p1 (.inl rfl) true rfl rfl TF.ptr_92 hb3 rfl ?_)
  refine au 6 rfl ?_
  exact zr (s.imp fun _ q => ⟨_, rfl, q⟩)
 ·replace s := s.2 hb3
  refine zg rfl (sem_ptrNilF p1 (.inl rfl) false rfl rfl TF.ptr_92 hb3 rfl ?_)
  refine au 6 rfl ?_
  refine znil s rfl rfl fun A4 s => ?_
  refine au 1 rfl ?_
  refine zl s rfl rfl TF.agg_157 fun p6 s => ?_
  refine au 2 rfl ?_
  exact zr (s.imp fun _ q => ⟨_, rfl, q⟩)
theorem C_draft_Draft_int_find.of {B : RO} {p1 : Option Addr} {i2 : Int} {h : Heap} {Q : Int → Bool → Heap → Prop} (s : S_draft_Draft_int_find B p1 i2 h Q) : C_draft_Draft_int_find B p1 i2 h Q := by
 refine zspec Tryz.func81 [ResultVar.tmp 4, ResultVar.tmp 5] rfl rfl rfl rfl rfl ?_
 refine au 8 rfl ?_
 refine znil s rfl rfl fun A5 s => ?_
 refine au 1 rfl ?_
 refine Run.ldSl s fun a7 n8 c9 h10 hl s => ?_
 refine zg rfl (sem_load1 A5 ((.slice a7 n8 c9)) rfl TF.agg_164 hl ?_)
 refine au 1 rfl ?_
 refine zcall s rfl rfl TF.goes_114 ?_
 rintro _ h11 ⟨i12, b13, rfl, s⟩
 refine au 5 rfl ?_
 exact zr (s.imp fun _ q => ⟨_, _, rfl, q⟩)
theorem C_reads_Set_Note.of {B : RO} {p1 : Option Addr} {l2 : List Value} {i3 : Int} {i4 : Int} {h : Heap} {Q : Bool → Heap → Prop} (s : S_reads_Set_Note B p1 l2 i3 i4 h Q) : C_reads_Set_Note B p1 l2 i3 i4 h Q := by
 refine zspec Tryz.func82 [ResultVar.tmp 8] rfl rfl rfl rfl rfl ?_
 refine au 2 rfl ?_
 refine zg rfl (sem_boxNN l2 rfl (fun k6 hb1 hb2 h7 hb3 => ?_))
 have s := s k6 hb1 hb2 h7 hb3
 refine au 6 rfl ?_
 by_cases hb8 : p1 = none
 ·replace s := s.1 hb8
  refine zg rfl (sem_ptrNilT p1 (.inl rfl) true rfl rfl TF.ptr_69 hb8 rfl ?_)
  refine au 6 rfl ?_
  exact zr (s.imp fun _ q => ⟨_, rfl, q⟩)
 ·replace s := s.2 hb8
  refine zg rfl (sem_ptrNilF p1 (.inl rfl) false rfl rfl TF.ptr_69 hb8 rfl ?_)
  refine au 5 rfl ?_
  obtain ⟨l9, nl9, hl, s⟩ := s
  refine zg rfl (sem_loadN ⟨k6, 0, none⟩ l9 rfl TF.agg_65 (TF.sz_65.trans (congrArg some nl9.symm)) hl ?_)
  refine au 2 rfl ?_
  refine zcall s rfl rfl TF.goes_84 ?_
  rintro _ h10 ⟨i11, rfl, s⟩
  refine au 8 rfl ?_
  refine zcall s rfl rfl TF.goes_116 ?_
  rintro _ h12 ⟨i13, rfl, s⟩
  refine au 5 rfl ?_
  refine zt s rfl rfl rfl binI_geq_t binI_geq_f (fun s => ?_) fun s => ?_
  ·refine au 5 rfl ?_
   refine znil s rfl rfl fun A14 s => ?_
   refine au 1 rfl ?_
   refine Run.ldSl s fun a16 n17 c18 h19 hl s => ?_
   refine zg rfl (sem_load1 A14 ((.slice a16 n17 c18)) rfl TF.agg_135 hl ?_)
   refine au 1 rfl ?_
   obtain ⟨A20, e21, hi0, hi1, s⟩ := s
   refine zg rfl (sem_indexAddrS A20 n17 c18 .i64 (i13) (congrArg (fun a => Value.slice a n17 c18) e21) rfl TF.slc_135 hi0 hi1 ?_)
   refine au 1 rfl ?_
   refine zl s rfl rfl TF.agg_3 fun i22 s => ?_
   refine au 4 rfl ?_
   exact zr (s.imp fun _ q => ⟨_, rfl, q⟩)
  ·refine au 3 rfl ?_
   refine Run.seqJ (fun e h24 => Agree [(0, (.pointer p1)), (2, (.int .i64 (i3))), (3, (.int .i64 (i4))), (9, (.int .i64 (i11)))] e ∧ S_reads_Set_Note_J1 B p1 i3 i4 i11 h24 Q) ?_ fun j23 => ?_
   ·rintro e h24 ⟨hag, s⟩
    refine Run.env hag ?_; clear hag
    refine au 4 rfl ?_
    refine znil s rfl rfl fun A25 s => ?_
    refine au 1 rfl ?_
    refine Run.ldSl s fun a27 n28 c29 h30 hl s => ?_
    refine zg rfl (sem_load1 A25 ((.slice a27 n28 c29)) rfl TF.agg_135 hl ?_)
    refine au 3 rfl ?_
    refine zg rfl (sem_buildSL [(0, (.int .i64 (i3))), (1, (.int .i64 (i4))), (2, (.int .i64 (i11)))] [(.int .i64 (i3)), (.int .i64 (i4)), (.int .i64 (i11))] TF.zero_174 TF.places_174 rfl rfl ?_)
    refine zg rfl (sem_buildSliceL [(0, (.agg #[(.int .i64 (i3)), (.int .i64 (i4)), (.int .i64 (i11))]))] [(.int .i64 (i3)), (.int .i64 (i4)), (.int .i64 (i11))] TF.slc_135 TF.zero_174 rfl (by decide) (by decide) rfl rfl (fun k31 hb1 hb2 h32 hb3 => ?_))
    have s := s k31 hb1 hb2 h32 hb3
    refine zg rfl (sem_appendL [(.slice a27 n28 c29), (.slice (some ⟨k31, 0, none⟩) 1 1)] rfl (semH_mono (fun v h33 hv => ?_) s))
    obtain ⟨a34, n35, c36, rfl, s⟩ := hv
    refine znil s rfl rfl fun A37 s => ?_
    refine au 1 rfl ?_
    refine zs1 s rfl rfl rfl rfl TF.sz_135 fun h39 s => ?_
    refine au 5 rfl ?_
    exact zr (s.imp fun _ q => ⟨_, rfl, q⟩)
   refine au 4 rfl ?_
   refine znil s rfl rfl fun A40 s => ?_
   refine au 1 rfl ?_
   refine zl s rfl rfl TF.agg_3 fun i42 s => ?_
   refine zt s rfl rfl rfl binI_gtr_t binI_gtr_f (fun s => ?_) fun s => ?_
   ·refine au 6 rfl ?_
    obtain ⟨l43, nl43, hl, s⟩ := s
    refine zg rfl (sem_loadN ⟨k6, 0, none⟩ l43 rfl TF.agg_65 (TF.sz_65.trans (congrArg some nl43.symm)) hl ?_)
    refine zcall s rfl rfl TF.goes_42 ?_
    rintro _ h44 ⟨b45, rfl, s⟩
    cases b45
    ·replace s := s.2 rfl
     refine au 7 rfl ?_
     exact zr (s.imp fun _ q => ⟨_, rfl, q⟩)
    ·replace s := s.1 rfl
     refine au 7 rfl ?_
     refine zl s rfl rfl TF.agg_3 fun i46 s => ?_
     refine znil s rfl rfl fun A47 s => ?_
     refine au 1 rfl ?_
     refine zs1 s rfl rfl rfl rfl TF.sz_3 fun h49 s => ?_
     refine au 1 rfl ?_
     exact Run.of_fin (s.imp fun h' s => j23 _ _ ⟨⟨rfl, rfl, rfl, rfl, trivial⟩, s⟩)
   ·refine au 3 rfl ?_
    exact Run.of_fin (s.imp fun h' s => j23 _ _ ⟨⟨rfl, rfl, rfl, rfl, trivial⟩, s⟩)
theorem C_cell_Row_int_is.of {B : RO} {p1 : Option Addr} {i2 : Int} {h : Heap} {Q : Bool → Heap → Prop} (s : S_cell_Row_int_is B p1 i2 h Q) : C_cell_Row_int_is B p1 i2 h Q := by
 refine zspec Tryz.func83 [ResultVar.tmp 4] rfl rfl rfl rfl rfl ?_
 refine au 7 rfl ?_
 by_cases hb4 : p1 = none
 ·replace s := s.1 hb4
  refine zg rfl (sem_ptrNilT p1 (.inr rfl) false rfl rfl TF.ptr_39 hb4 rfl ?_)
  refine au 15 rfl ?_
  exact zr (s.imp fun _ q => ⟨_, rfl, q⟩)
 ·replace s := s.2 hb4
  refine zg rfl (sem_ptrNilF p1 (.inr rfl) true rfl rfl TF.ptr_39 hb4 rfl ?_)
  refine au 2 rfl ?_
  refine zt s rfl rfl rfl binI_geq_t binI_geq_f (fun s => ?_) fun s => ?_
  ·refine au 4 rfl ?_
   refine znil s rfl rfl fun A5 s => ?_
   refine au 1 rfl ?_
   refine Run.ldSl s fun a7 n8 c9 h10 hl s => ?_
   refine zg rfl (sem_load1 A5 ((.slice a7 n8 c9)) rfl TF.agg_170 hl ?_)
   refine zg rfl (sem_lenSl a7 n8 c9 rfl TF.sl_170 ?_)
   refine au 4 rfl ?_
   exact zr (s.imp fun _ q => ⟨_, rfl, q⟩)
  ·refine au 12 rfl ?_
   exact zr (s.imp fun _ q => ⟨_, rfl, q⟩)
theorem C_reads_Now_Of.of {B : RO} {l1 : List Value} {i2 : Int} {i3 : Int} {h : Heap} {Q : Int → Heap → Prop} (s : S_reads_Now_Of B l1 i2 i3 h Q) : C_reads_Now_Of B l1 i2 i3 h Q := by
 refine zspec Tryz.func84 [ResultVar.tmp 6] rfl rfl rfl rfl rfl ?_
 refine au 2 rfl ?_
 refine zg rfl (sem_boxNN l1 rfl (fun k5 hb1 hb2 h6 hb3 => ?_))
 have s := s k5 hb1 hb2 h6 hb3
 refine au 2 rfl ?_
 refine Run.seqJ (fun e h8 => Agree [(1, (.int .i64 (i2))), (2, (.int .i64 (i3))), (3, (.pointer (some ⟨k5, 0, none⟩)))] e ∧ S_reads_Now_Of_J1 B i2 i3 k5 h8 Q) ?_ fun j7 => ?_
 ·rintro e h8 ⟨hag, s⟩
  refine Run.env hag ?_; clear hag
  refine au 5 rfl ?_
  obtain ⟨hi0, hi1, s⟩ := s
  refine zg rfl (sem_indexAddrA ⟨k5, 0, none⟩ .i64 (i2) rfl rfl TF.arr_63 hi0 hi1 ?_)
  obtain ⟨hi0, hi1, s⟩ := s
  refine zg rfl (sem_indexAddrA (Addr.add ⟨k5, 0, none⟩ (Int.toNat (i2) * 8)) .i64 (i3) rfl rfl TF.arr_49 hi0 hi1 ?_)
  refine zl s rfl rfl TF.agg_3 fun i9 s => ?_
  refine au 2 rfl ?_
  exact zr (s.imp fun _ q => ⟨_, rfl, q⟩)
 refine au 3 rfl ?_
 refine zt s rfl rfl rfl binI_lss_t binI_lss_f (fun s => ?_) fun s => ?_
 ·refine au 18 rfl ?_
  exact zr (s.imp fun _ q => ⟨_, rfl, q⟩)
 ·refine au 2 rfl ?_
  refine zt s rfl rfl rfl binI_gtr_t binI_gtr_f (fun s => ?_) fun s => ?_
  ·refine au 15 rfl ?_
   exact zr (s.imp fun _ q => ⟨_, rfl, q⟩)
  ·refine au 3 rfl ?_
   refine zt s rfl rfl rfl binI_lss_t binI_lss_f (fun s => ?_) fun s => ?_
   ·refine au 11 rfl ?_
    exact zr (s.imp fun _ q => ⟨_, rfl, q⟩)
   ·refine au 3 rfl ?_
    refine zt s rfl rfl rfl binI_geq_t binI_geq_f (fun s => ?_) fun s => ?_
    ·refine au 7 rfl ?_
     exact zr (s.imp fun _ q => ⟨_, rfl, q⟩)
    ·refine au 4 rfl ?_
     exact Run.of_fin (s.imp fun h' s => j7 _ _ ⟨⟨rfl, rfl, rfl, trivial⟩, s⟩)
theorem C_draft_Draft_int_All_1.of {B : RO} {v1 : Value} {A2 : Addr} {h : Heap} {Q : Heap → Prop} (s : S_draft_Draft_int_All_1 B v1 A2 h Q) : C_draft_Draft_int_All_1 B v1 A2 h Q := by
 refine zspec Tryz.func85 [] rfl rfl rfl rfl rfl ?_
 refine au 3 rfl ?_
 refine zl s rfl rfl TF.agg_91 fun p3 s => ?_
 by_cases hb4 : p3 = none
 ·replace s := s.1 hb4
  refine zg rfl (sem_ptrNilT p3 (.inl rfl) true rfl rfl TF.ptr_91 hb4 rfl ?_)
  refine au 2 rfl ?_
  exact zr (s.imp fun _ q => ⟨rfl, q⟩)
 ·replace s := s.2 hb4
  refine zg rfl (sem_ptrNilF p3 (.inl rfl) false rfl rfl TF.ptr_91 hb4 rfl ?_)
  refine au 5 rfl ?_
  refine zl s rfl rfl TF.agg_91 fun p5 s => ?_
  refine znil s rfl rfl fun A6 s => ?_
  refine au 1 rfl ?_
  refine Run.ldSl s fun a8 n9 c10 h11 hl s => ?_
  refine zg rfl (sem_load1 A6 ((.slice a8 n9 c10)) rfl TF.agg_164 hl ?_)
  refine zg rfl (sem_lenSl a8 n9 c10 rfl TF.sl_164 ?_)
  refine au 3 rfl ?_
  obtain ⟨J17, m15, h0, s⟩ := s
  refine Run.of_fin (h0.imp fun h' h0 => ?_)
  refine Run.loop (σ := Int × Nat) (fun x e h => J17 x.1 x.2 h ∧ Agree [(0, v1), (10, (.slice a8 n9 c10)), (11, (.int .i64 ((n9 : Nat)))), (12, (.int .i64 (x.1)))] e) (fun x => x.2) ((0), m15) ⟨h0, ⟨rfl, rfl, rfl, rfl, trivial⟩⟩ ?_; clear h0
  rintro ⟨i12, m14⟩ e h13 ⟨hJ, hag⟩ ih16
  have s := s i12 m14 h13 hJ; clear hJ
  refine Run.env hag ?_; clear hag
  refine au 2 rfl ?_
  refine zt s rfl rfl rfl binI_lss_t binI_lss_f (fun s => ?_) fun s => ?_
  ·refine au 8 rfl ?_
   obtain ⟨A18, e19, hi0, hi1, s⟩ := s
   refine zg rfl (sem_indexAddrS A18 n9 c10 .i64 (i12) (congrArg (fun a => Value.slice a n9 c10) e19) rfl TF.slc_164 hi0 hi1 ?_)
   obtain ⟨i20, i21, hl, s⟩ := s
   refine zn hl rfl rfl TF.agg_163 TF.sz_163 rfl ?_
   refine zal s rfl TF.zero_163 rfl fun k22 h23 s => ?_
   refine zsn s rfl rfl rfl TF.sz_163 rfl fun h24 s => ?_
   refine au 5 rfl ?_
   refine zl s rfl rfl TF.agg_3 fun i25 s => ?_
   refine au 1 rfl ?_
   refine zl s rfl rfl TF.agg_3 fun i26 s => ?_
   refine zg rfl (sem_callV (v1) [(.int .i64 (i25)), (.int .i64 (i26))] rfl rfl s (fun nx h' ha => ha.mono fun v h27 hv => ?_))
   obtain ⟨b28, rfl, s⟩ := hv
   cases b28
   ·replace s := s.2 rfl
    refine au 3 rfl ?_
    exact zr (s.imp fun _ q => ⟨rfl, q⟩)
   ·replace s := s.1 rfl
    refine au 9 rfl ?_
    exact Run.of_fin (s.imp fun h' ⟨m', hm, s⟩ => ih16 ((IntKind.wrap .i64 ((i12) + (1))), m') _ _ ⟨s, ⟨rfl, rfl, rfl, rfl, trivial⟩⟩ hm)
  ·refine au 4 rfl ?_
   exact zf (s.imp fun _ q => ⟨rfl, q⟩)
theorem C_draft_Draft_file_File_All.of {B : RO} {p1 : Option Addr} {h : Heap} {Q : Value → Heap → Prop} (s : S_draft_Draft_file_File_All B p1 h Q) : C_draft_Draft_file_File_All B p1 h Q := by
 refine zspec Tryz.func86 [ResultVar.tmp 2] rfl rfl rfl rfl rfl ?_
 refine au 2 rfl ?_
 refine zb1 s rfl rfl rfl rfl fun k3 h4 s => ?_
 refine au 7 rfl ?_
 exact zr (s.imp fun _ q => ⟨_, rfl, q⟩)
theorem C_tome_Tome_Set.of {B : RO} {p1 : Option Addr} {i2 : Int} {b3 : Bool} {s4 : ByteArray} {i5 : Int} {h : Heap} {Q : Bool → Heap → Prop} (s : S_tome_Tome_Set B p1 i2 b3 s4 i5 h Q) : C_tome_Tome_Set B p1 i2 b3 s4 i5 h Q := by
 refine zspec Tryz.func87 [ResultVar.tmp 8] rfl rfl rfl rfl rfl ?_
 refine au 2 rfl ?_
 refine zbn s rfl rfl rfl fun k7 h8 s => ?_
 refine au 3 rfl ?_
 by_cases hb10 : p1 = none
 ·replace s := s.1 hb10
  refine Run.drawM (fun h' => True) [] ⟨[0, 1, 2, 4, 12, 20, 48, 64, 192, 320, 576, 64, 64, 64, 15424, 16448, 65535], [131071, 131070, 131069, 131067, 131059, 131051, 131039, 131007, 130879, 130751, 130495, 131007, 131007, 131007, 115647, 114623, 98303], [0, 0, 0, 0, 0, 0, 0, 0, 0, 0, 0, 0, 0, 0, 0, 0, 0], 0⟩ (.q 0 (.q 1 (.q 2 (.q 3 (.x 4 (.q 5 (.q 6 (.q 7 (.q 8 (.q 9 (.q 11 (.q 13 (.x 10 (.x 12 (.x 14 (.q 15 (.q 16 .nil)) .no) .no) (.x 12 (.x 10 (.x 14 (.q 15 (.q 16 .nil)) .no) .no) .no))))))))) .no))))) TF.mixed (by kernel_rfl) trivial ?_
  refine auT 1 rfl ?_
  refine zq rfl (fun _ hC => sem_ptrNilT p1 (.inr rfl) false rfl rfl TF.ptr_40 hb10 rfl ⟨rfl, rfl⟩) ?_
  refine auT 2 rfl ?_
  refine ⟨zon rfl ⟨fun _ => trivial, ?_⟩, trivial⟩
  refine auT 7 rfl ?_
  refine RunT.joinJ (t := (.x 14 (.q 15 (.q 16 .nil)) .no)) (fun e h14 => Agree [(8, (.bool false)), (15, (.bool false))] e ∧ S_tome_Tome_Set_J1 B h14 Q) ?_ fun j13 => ?_
  ·rintro e h14 ⟨hag, s⟩
   refine RunT.env hag ?_; clear hag
   refine ⟨zon rfl ⟨fun _ => trivial, ?_⟩, trivial⟩
   refine auT 2 rfl ?_
   exact zr (s.imp fun _ q => ⟨_, rfl, q⟩)
  refine ⟨?_, ?_, trivial⟩
  ·have s := s.1
   refine zon rfl ⟨fun _ => trivial, ?_⟩
   refine ⟨zon rfl ⟨fun _ => trivial, ?_⟩, trivial⟩
   exact j13 _ _ ⟨⟨rfl, rfl, trivial⟩, s⟩
  ·have s := s.2
   refine zon rfl ⟨fun _ => trivial, ?_⟩
   refine ⟨zon rfl ⟨fun _ => trivial, ?_⟩, trivial⟩
   exact j13 _ _ ⟨⟨rfl, rfl, trivial⟩, s⟩
 ·replace s := s.2 hb10
  obtain ⟨b17, s18, hl, s⟩ := s
  have f19 := hl
  refine Run.drawM (fun h' => CellsAt B h' ⟨k7, 0, none⟩ 0 [(.bool b17), (.string s18)] ∧ True) [] ⟨[0, 1, 2, 4, 12, 20, 48, 64, 192, 320, 576, 64, 64, 64, 15424, 16448, 65535], [131071, 131070, 131069, 131067, 131059, 131051, 131039, 131007, 130879, 130751, 130495, 131007, 131007, 131007, 115647, 114623, 98303], [0, 0, 0, 0, 0, 0, 0, 0, 0, 0, 0, 0, 0, 0, 0, 0, 0], 0⟩ (.q 0 (.q 1 (.q 2 (.q 3 (.x 4 (.q 5 (.q 6 (.q 7 (.q 8 (.q 9 (.q 11 (.q 13 (.x 10 (.x 12 (.x 14 (.q 15 (.q 16 .nil)) .no) .no) (.x 12 (.x 10 (.x 14 (.q 15 (.q 16 .nil)) .no) .no) .no))))))))) .no))))) TF.mixed (by kernel_rfl) ⟨f19, trivial⟩ ?_
  refine auT 1 rfl ?_
  refine zq rfl (fun _ hC => sem_ptrNilF p1 (.inr rfl) true rfl rfl TF.ptr_40 hb10 rfl ⟨rfl, rfl⟩) ?_
  refine auT 1 rfl ?_
  refine zq rfl (fun _ hC => sem_loadN ⟨k7, 0, none⟩ [(.bool b17), (.string s18)] rfl TF.agg_119 TF.sz_119 hC.1 ⟨rfl, rfl⟩) ?_
  refine ⟨zo rfl (sem_callL [(.agg #[(.bool b17), (.string s18)])] (TF.goes_118) rfl rfl (Spec.mono s fun v h20 hv => ?_)), trivial⟩
  obtain ⟨b21, rfl, s⟩ := hv
  cases b21
  ·replace s := s.2 rfl
   obtain ⟨g22, s⟩ := s
   refine ⟨fun _ => ⟨g22, trivial⟩, ?_⟩
   refine auT 7 rfl ?_
   refine RunT.joinJ (t := (.x 14 (.q 15 (.q 16 .nil)) .no)) (fun e h24 => Agree [(8, (.bool false)), (15, (.bool false))] e ∧ CellsAt B h24 ⟨k7, 0, none⟩ 0 [(.bool b17), (.string s18)] ∧ S_tome_Tome_Set_J2 B k7 b17 s18 h24 Q) ?_ fun j23 => ?_
   ·rintro e h24 ⟨hag, g25, s⟩
    refine RunT.env hag ?_; clear hag
    refine ⟨zon rfl ⟨fun _ => ⟨g25, trivial⟩, ?_⟩, trivial⟩
    refine auT 2 rfl ?_
    exact zr (s.imp fun _ q => ⟨_, rfl, q⟩)
   refine ⟨?_, ?_, trivial⟩
   ·have s := s.1
    refine zon rfl ⟨fun _ => ⟨g22, trivial⟩, ?_⟩
    refine ⟨zon rfl ⟨fun _ => ⟨g22, trivial⟩, ?_⟩, trivial⟩
    exact j23 _ _ ⟨⟨rfl, rfl, trivial⟩, g22, s⟩
   ·have s := s.2
    refine zon rfl ⟨fun _ => ⟨g22, trivial⟩, ?_⟩
    refine ⟨zon rfl ⟨fun _ => ⟨g22, trivial⟩, ?_⟩, trivial⟩
    exact j23 _ _ ⟨⟨rfl, rfl, trivial⟩, g22, s⟩
  ·replace s := s.1 rfl
   obtain ⟨g26, s⟩ := s
   refine ⟨fun _ => ⟨g26, trivial⟩, ?_⟩
   refine auT 3 rfl ?_
   obtain ⟨A27, e28, s⟩ := s
   refine zq rfl (fun _ _ => sem_nilCheck A27 (congrArg Value.pointer e28) ⟨rfl, rfl⟩) ?_
   refine auT 3 rfl ?_
   refine RunT.joinJ (t := (.x 14 (.q 15 (.q 16 .nil)) .no)) (fun e h39 => ∃ p36 : Option Addr, ∃ b37 : Bool, ∃ s38 : ByteArray, Agree [(8, (.bool false)), (15, (.bool true)), (19, (.pointer p36)), (20, (.int .i64 (i2))), (21, (.agg #[(.bool b37), (.string s38)])), (22, (.int .i64 (i5)))] e ∧ CellsAt B h39 ⟨k7, 0, none⟩ 0 [(.bool b17), (.string s18)] ∧ S_tome_Tome_Set_J3 B i2 i5 k7 b17 s18 p36 b37 s38 h39 Q) ?_ fun j35 => ?_
   ·rintro e h39 ⟨p36, b37, s38, hag, g40, s⟩
    refine RunT.env hag ?_; clear hag
    refine ⟨zo rfl (sem_callL [(.pointer p36), (.int .i64 (i2)), (.agg #[(.bool b37), (.string s38)]), (.int .i64 (i5))] (TF.goes_119) rfl rfl (Spec.mono s fun v h41 hv => ?_)), trivial⟩
    obtain ⟨b42, rfl, s⟩ := hv
    obtain ⟨g43, s⟩ := s
    refine ⟨fun _ => ⟨g43, trivial⟩, ?_⟩
    refine auT 2 rfl ?_
    exact zr (s.imp fun _ q => ⟨_, rfl, q⟩)
   refine ⟨?_, ?_, trivial⟩
   ·have s := s.1
    obtain ⟨p44, hl, s⟩ := s
    refine zo rfl (sem_load1 A27 ((.pointer p44)) rfl TF.agg_182 hl ?_)
    refine ⟨fun _ => ⟨g26, trivial⟩, ?_⟩
    obtain ⟨b45, s46, hl, s⟩ := s
    refine ⟨zo rfl (sem_loadN ⟨k7, 0, none⟩ [(.bool b45), (.string s46)] rfl TF.agg_119 TF.sz_119 hl ?_), trivial⟩
    refine ⟨fun _ => ⟨g26, trivial⟩, ?_⟩
    exact j35 _ _ ⟨p44, (b45), s46, ⟨rfl, rfl, rfl, rfl, rfl, rfl, trivial⟩, g26, s⟩
   ·have s := s.2
    obtain ⟨b47, s48, hl, s⟩ := s
    refine zo rfl (sem_loadN ⟨k7, 0, none⟩ [(.bool b47), (.string s48)] rfl TF.agg_119 TF.sz_119 hl ?_)
    refine ⟨fun _ => ⟨g26, trivial⟩, ?_⟩
    obtain ⟨p49, hl, s⟩ := s
    refine ⟨zo rfl (sem_load1 A27 ((.pointer p49)) rfl TF.agg_182 hl ?_), trivial⟩
    refine ⟨fun _ => ⟨g26, trivial⟩, ?_⟩
    exact j35 _ _ ⟨p49, (b47), s48, ⟨rfl, rfl, rfl, rfl, rfl, rfl, trivial⟩, g26, s⟩
theorem C_cursor_is.of {B : RO} {i1 : Int} {h : Heap} {Q : Bool → Heap → Prop} (s : S_cursor_is B i1 h Q) : C_cursor_is B i1 h Q := by
 refine zspec Tryz.func88 [ResultVar.tmp 2] rfl rfl rfl rfl rfl ?_
 refine au 7 rfl ?_
 refine zt s rfl rfl rfl binI_geq_t binI_geq_f (fun s => ?_) fun s => ?_
 ·refine au 6 rfl ?_
  exact zr (s.imp fun _ q => ⟨_, rfl, q⟩)
 ·refine au 6 rfl ?_
  exact zr (s.imp fun _ q => ⟨_, rfl, q⟩)
theorem C_cell_Row_file_File_Get.of {B : RO} {p1 : Option Addr} {i2 : Int} {h : Heap} {Q : Bool → ByteArray → Int → Heap → Prop} (s : S_cell_Row_file_File_Get B p1 i2 h Q) : C_cell_Row_file_File_Get B p1 i2 h Q := by
 refine zspec Tryz.func89 [ResultVar.cell 4 119, ResultVar.tmp 5] rfl rfl rfl rfl rfl ?_
 refine au 2 rfl ?_
 refine zal s rfl TF.zero_119 rfl fun k6 h7 s => ?_
 refine au 7 rfl ?_
 refine zcall s rfl rfl TF.goes_120 ?_
 rintro _ h8 ⟨b9, rfl, s⟩
 cases b9
 ·replace s := s.2 rfl
  refine au 5 rfl ?_
  refine zal s rfl TF.zero_119 rfl fun k10 h11 s => ?_
  refine au 3 rfl ?_
  obtain ⟨b12, s13, hl, s⟩ := s
  refine zn hl rfl rfl TF.agg_119 TF.sz_119 rfl ?_
  refine zsn s rfl rfl rfl TF.sz_119 rfl fun h14 s => ?_
  refine au 2 rfl ?_
  obtain ⟨b15, s16, hl0, s⟩ := s
  exact zr (⟨⟨k6, 0, none⟩, (.agg #[(.bool b15), (.string s16)]), rfl, loadHN TF.agg_119 TF.sz_119 hl0, s.imp fun _ q => ⟨_, _, _, rfl, q⟩⟩)
 ·replace s := s.1 rfl
  refine au 5 rfl ?_
  obtain ⟨A18, e19, s⟩ := s
  obtain ⟨a22, n23, c24, hl, s⟩ := s
  have f25 := hl
  obtain ⟨A27, e28, hi0, hi1, s⟩ := s
  have f30 := hi0; have f31 := hi1
  obtain ⟨b33, s34, hl, s⟩ := s
  have f35 := hl
  obtain ⟨A37, e38, s⟩ := s
  obtain ⟨a41, n42, c43, hl, s⟩ := s
  have f44 := hl
  obtain ⟨A46, e47, hi0, hi1, s⟩ := s
  have f49 := hi0; have f50 := hi1
  obtain ⟨i52, hl, s⟩ := s
  have f53 := hl
  refine Run.drawM (fun h' => cellH B h' A18 = some (.slice a22 n23 c24) ∧ CellsAt B h' (Addr.add A27 (Int.toNat (i2) * 3)) 0 [(.bool b33), (.string s34)] ∧ cellH B h' A37 = some (.slice a41 n42 c43) ∧ cellH B h' (Addr.add (Addr.add A46 (Int.toNat (i2) * 3)) 2) = some (.int .i64 (i52)) ∧ True) [] ⟨[0, 1, 2, 4, 0, 24, 32, 64, 0, 256, 512, 1024, 0, 6144, 8192, 16384, 255, 131071], [262143, 262142, 262141, 262139, 262143, 262119, 262111, 262079, 262143, 261887, 261631, 261119, 262143, 255999, 253951, 245759, 262015, 229375], [0, 0, 0, 0, 0, 0, 0, 0, 0, 0, 0, 0, 0, 0, 0, 0, 0, 0], 0⟩ (.q 0 (.q 1 (.q 2 (.q 3 (.q 4 (.q 5 (.q 6 (.q 7 (.q 8 (.q 9 (.q 10 (.q 11 (.q 12 (.q 13 (.q 14 (.q 15 (.x 16 (.q 17 .nil) .no))))))))))))))))) TF.mixed (by kernel_rfl) ⟨f25, f35, f44, f53, trivial⟩ ?_
  refine auT 1 rfl ?_
  refine zq rfl (fun _ hC => sem_nilCheck A18 (congrArg Value.pointer e19) ⟨rfl, rfl⟩) ?_
  refine auT 1 rfl ?_
  refine zq rfl (fun _ hC => sem_load1 A18 ((.slice a22 n23 c24)) rfl TF.agg_217 hC.1 ⟨rfl, rfl⟩) ?_
  refine auT 1 rfl ?_
  refine zq rfl (fun _ hC => sem_indexAddrS A27 n23 c24 .i64 (i2) (congrArg (fun a => Value.slice a n23 c24) e28) rfl TF.slc_217 f30 f31 ⟨rfl, rfl⟩) ?_
  refine auT 1 rfl ?_
  refine zq rfl (fun _ hC => sem_loadN (Addr.add A27 (Int.toNat (i2) * 3)) [(.bool b33), (.string s34)] rfl TF.agg_119 TF.sz_119 hC.2.1 ⟨rfl, rfl⟩) ?_
  refine auT 1 rfl ?_
  refine zq rfl (fun _ hC => sem_nilCheck A37 (congrArg Value.pointer e38) ⟨rfl, rfl⟩) ?_
  refine auT 1 rfl ?_
  refine zq rfl (fun _ hC => sem_load1 A37 ((.slice a41 n42 c43)) rfl TF.agg_217 hC.2.2.1 ⟨rfl, rfl⟩) ?_
  refine auT 1 rfl ?_
  refine zq rfl (fun _ hC => sem_indexAddrS A46 n42 c43 .i64 (i2) (congrArg (fun a => Value.slice a n42 c43) e47) rfl TF.slc_217 f49 f50 ⟨rfl, rfl⟩) ?_
  refine auT 1 rfl ?_
  refine zq rfl (fun _ hC => sem_load1 (Addr.add (Addr.add A46 (Int.toNat (i2) * 3)) 2) ((.int .i64 (i52))) rfl TF.agg_3 hC.2.2.2.1 ⟨rfl, rfl⟩) ?_
  obtain ⟨h54, hst, s⟩ := s
  refine ⟨zo0 rfl (sem_storeN ⟨k6, 0, none⟩ [(.bool b33), (.string s34)] h54 rfl rfl TF.sz_119 hst ?_), trivial⟩
  obtain ⟨g55, g56, g57, g58, s⟩ := s
  refine ⟨fun _ => ⟨g55, g56, g57, g58, trivial⟩, ?_⟩
  refine auT 1 rfl ?_
  obtain ⟨b59, s60, hl0, s⟩ := s
  exact zr (⟨⟨k6, 0, none⟩, (.agg #[(.bool b59), (.string s60)]), rfl, loadHN TF.agg_119 TF.sz_119 hl0, s.imp fun _ q => ⟨_, _, _, rfl, q⟩⟩)
theorem C_attempt_Attempt_touch.of {B : RO} {p1 : Option Addr} {i2 : Int} {h : Heap} {Q : Bool → ByteArray → Int → Heap → Prop} (s : S_attempt_Attempt_touch B p1 i2 h Q) : C_attempt_Attempt_touch B p1 i2 h Q := by
 refine zspec Tryz.func90 [ResultVar.cell 4 119, ResultVar.tmp 5] rfl rfl rfl rfl rfl ?_
 refine au 2 rfl ?_
 refine zal s rfl TF.zero_119 rfl fun k6 h7 s => ?_
 refine au 2 rfl ?_
 refine Run.seqJ (fun e h9 => Agree [(0, (.pointer p1)), (1, (.int .i64 (i2))), (4, (.pointer (some ⟨k6, 0, none⟩)))] e ∧ S_attempt_Attempt_touch_J1 B p1 i2 k6 h9 Q) ?_ fun j8 => ?_
 ·rintro e h9 ⟨hag, s⟩
  refine Run.env hag ?_; clear hag
  refine Run.seqJ (fun e h13 => ∃ A11 : Addr, ∃ b12 : Bool, Agree [(0, (.pointer p1)), (1, (.int .i64 (i2))), (4, (.pointer (some ⟨k6, 0, none⟩))), (6, (.pointer (some A11))), (7, (.bool b12))] e ∧ S_attempt_Attempt_touch_J2 B p1 i2 k6 A11 b12 h13 Q) ?_ fun j10 => ?_
  ·rintro e h13 ⟨A11, b12, hag, s⟩
   refine Run.env hag ?_; clear hag
   refine au 3 rfl ?_
   cases b12
   ·replace s := s.2 rfl
    refine au 1 rfl ?_
    refine au 4 rfl ?_
    obtain ⟨b14, s15, hl, s⟩ := s
    have f16 := hl
    refine Run.drawM (fun h' => CellsAt B h' A11 0 [(.bool b14), (.string s15)] ∧ True) [] ⟨[0, 0, 0, 6, 9, 31], [63, 63, 63, 57, 62, 55], [0, 0, 0, 0, 0, 0], 0⟩ (.q 0 (.q 1 (.q 2 (.x 3 (.x 4 (.q 5 .nil) .no) .no)))) TF.mixed (by kernel_rfl) ⟨f16, trivial⟩ ?_
    refine zq rfl (fun _ hC => sem_loadN A11 [(.bool b14), (.string s15)] rfl TF.agg_119 TF.sz_119 hC.1 ⟨rfl, rfl⟩) ?_
    refine auT 2 rfl ?_
    refine ⟨zo rfl (sem_callL [(.pointer p1), (.int .i64 (1)), (.int .i64 (i2))] (TF.goes_40) rfl rfl (Spec.mono s fun v h19 hv => ?_)), trivial⟩
    obtain ⟨i20, rfl, s⟩ := hv
    obtain ⟨g21, s⟩ := s
    refine ⟨fun _ => ⟨g21, trivial⟩, ?_⟩
    obtain ⟨h22, hst, s⟩ := s
    refine ⟨zo0 rfl (sem_storeN ⟨k6, 0, none⟩ [(.bool b14), (.string s15)] h22 rfl rfl TF.sz_119 hst ?_), trivial⟩
    obtain ⟨g23, s⟩ := s
    refine ⟨fun _ => ⟨g23, trivial⟩, ?_⟩
    refine auT 1 rfl ?_
    obtain ⟨b24, s25, hl0, s⟩ := s
    exact zr (⟨⟨k6, 0, none⟩, (.agg #[(.bool b24), (.string s25)]), rfl, loadHN TF.agg_119 TF.sz_119 hl0, s.imp fun _ q => ⟨_, _, _, rfl, q⟩⟩)
   ·replace s := s.1 rfl
    refine au 1 rfl ?_
    refine au 4 rfl ?_
    obtain ⟨b26, s27, hl, s⟩ := s
    refine zn hl rfl rfl TF.agg_119 TF.sz_119 rfl ?_
    refine zsn s rfl rfl rfl TF.sz_119 rfl fun h28 s => ?_
    refine au 2 rfl ?_
    obtain ⟨b29, s30, hl0, s⟩ := s
    exact zr (⟨⟨k6, 0, none⟩, (.agg #[(.bool b29), (.string s30)]), rfl, loadHN TF.agg_119 TF.sz_119 hl0, s.imp fun _ q => ⟨_, _, _, rfl, q⟩⟩)
  obtain ⟨A32, e33, s⟩ := s
  obtain ⟨p37, hl, s⟩ := s
  have f38 := hl
  obtain ⟨A40, e41, s⟩ := s
  obtain ⟨p44, hl, s⟩ := s
  have f45 := hl
  obtain ⟨A46, e47, s⟩ := s
  obtain ⟨p50, hl, s⟩ := s
  have f51 := hl
  refine Run.drawM (fun h' => cellH B h' (Addr.add (Addr.add A32 2) 1) = some (.pointer p37) ∧ cellH B h' A40 = some (.pointer p44) ∧ cellH B h' (Addr.add A46 1) = some (.pointer p50) ∧ True) [] ⟨[0, 1, 2, 4, 8, 0, 32, 64, 128, 256, 512, 1024, 0, 6160, 8192, 16384, 16384, 0, 196607, 524287], [1048575, 1048574, 1048573, 1048571, 1048567, 1048575, 1048543, 1048511, 1048447, 1048319, 1048063, 1047551, 1048575, 1042415, 1040383, 1032191, 1032191, 1048575, 884735, 983039], [0, 0, 0, 0, 0, 0, 0, 0, 0, 0, 0, 0, 0, 0, 0, 0, 0, 0, 0, 0], 0⟩ (.q 0 (.q 1 (.q 2 (.q 3 (.q 4 (.q 5 (.q 6 (.q 7 (.q 8 (.q 9 (.q 10 (.q 11 (.q 12 (.x 13 (.q 14 (.q 15 (.q 16 (.x 17 (.x 18 (.q 19 .nil) .no) .no)))) (.x 17 (.x 13 (.q 14 (.q 15 (.q 16 (.x 18 (.q 19 .nil) .no)))) .no) .no))))))))))))))) TF.mixed (by kernel_rfl) ⟨f38, f45, f51, trivial⟩ ?_
  refine auT 1 rfl ?_
  refine zq rfl (fun _ hC => sem_nilCheck A32 (congrArg Value.pointer e33) ⟨rfl, rfl⟩) ?_
  refine auT 2 rfl ?_
  refine zq rfl (fun _ hC => sem_load1 (Addr.add (Addr.add A32 2) 1) ((.pointer p37)) rfl TF.agg_92 hC.1 ⟨rfl, rfl⟩) ?_
  refine auT 1 rfl ?_
  refine zq rfl (fun _ hC => sem_nilCheck A40 (congrArg Value.pointer e41) ⟨rfl, rfl⟩) ?_
  refine auT 1 rfl ?_
  refine zq rfl (fun _ hC => sem_load1 A40 ((.pointer p44)) rfl TF.agg_29 hC.2.1 ⟨rfl, rfl⟩) ?_
  refine zq rfl (fun _ hC => sem_nilCheck A46 (congrArg Value.pointer e47) ⟨rfl, rfl⟩) ?_
  refine auT 1 rfl ?_
  refine zq rfl (fun _ hC => sem_load1 (Addr.add A46 1) ((.pointer p50)) rfl TF.agg_40 hC.2.2.1 ⟨rfl, rfl⟩) ?_
  refine auT 1 rfl ?_
  refine RunT.joinJ (t := (.x 18 (.q 19 .nil) .no)) (fun e h87 => ∃ A83 : Addr, ∃ b84 : Bool, ∃ s85 : ByteArray, ∃ b86 : Bool, Agree [(0, (.pointer p1)), (1, (.int .i64 (i2))), (4, (.pointer (some ⟨k6, 0, none⟩))), (6, (.pointer (some A83))), (35, (.agg #[(.bool b84), (.string s85)])), (36, (.bool b86))] e ∧ cellH B h87 (Addr.add (Addr.add A32 2) 1) = some (.pointer p37) ∧ cellH B h87 A40 = some (.pointer p44) ∧ cellH B h87 (Addr.add A46 1) = some (.pointer p50) ∧ S_attempt_Attempt_touch_J3 B p1 i2 k6 A32 p37 A40 p44 A46 p50 A83 b84 s85 b86 h87 Q) ?_ fun j82 => ?_
  ·rintro e h87 ⟨A83, b84, s85, b86, hag, g88, g89, g90, s⟩
   refine RunT.env hag ?_; clear hag
   obtain ⟨h91, hst, s⟩ := s
   refine ⟨zo0 rfl (sem_storeN A83 [(.bool b84), (.string s85)] h91 rfl rfl TF.sz_119 hst ?_), trivial⟩
   obtain ⟨g92, g93, g94, s⟩ := s
   refine ⟨fun _ => ⟨g92, g93, g94, trivial⟩, ?_⟩
   cases b86
   ·replace s := s.2 rfl
    refine auT 1 rfl ?_
    exact Run.of_fin (s.imp fun h' s => j10 _ _ ⟨A83, (false), ⟨rfl, rfl, rfl, rfl, rfl, trivial⟩, s⟩)
   ·replace s := s.1 rfl
    refine auT 1 rfl ?_
    exact Run.of_fin (s.imp fun h' s => j10 _ _ ⟨A83, (true), ⟨rfl, rfl, rfl, rfl, rfl, trivial⟩, s⟩)
  refine ⟨?_, ?_, trivial⟩
  ·have s := s.1
   refine zo rfl (sem_callL [(.pointer p37), (.pointer p50), (.int .i64 (i2))] (TF.goes_121) rfl rfl (Spec.mono s fun v h95 hv => ?_))
   obtain ⟨b96, s97, b98, rfl, s⟩ := hv
   obtain ⟨g99, g100, g101, s⟩ := s
   refine ⟨fun _ => ⟨g99, g100, g101, trivial⟩, ?_⟩
   refine auT 2 rfl ?_
   cases b98
   ·replace s := s.2 rfl
    refine auT 1 rfl ?_
    refine ⟨zo rfl (sem_allocN [(.bool false), (.string ByteArray.empty)] TF.zero_119 (fun k102 hb1 hb2 h103 hb3 => ?_)), trivial⟩
    have s := s k102 hb1 hb2 h103 hb3
    obtain ⟨g104, g105, g106, s⟩ := s
    refine ⟨fun _ => ⟨g104, g105, g106, trivial⟩, ?_⟩
    exact j82 _ _ ⟨⟨k102, 0, none⟩, (b96), s97, (false), ⟨rfl, rfl, rfl, rfl, rfl, rfl, trivial⟩, g104, g105, g106, s⟩
   ·replace s := s.1 rfl
    refine auT 1 rfl ?_
    refine ⟨zo rfl (sem_allocN [(.bool false), (.string ByteArray.empty)] TF.zero_119 (fun k107 hb1 hb2 h108 hb3 => ?_)), trivial⟩
    have s := s k107 hb1 hb2 h108 hb3
    obtain ⟨g109, g110, g111, s⟩ := s
    refine ⟨fun _ => ⟨g109, g110, g111, trivial⟩, ?_⟩
    exact j82 _ _ ⟨⟨k107, 0, none⟩, (b96), s97, (true), ⟨rfl, rfl, rfl, rfl, rfl, rfl, trivial⟩, g109, g110, g111, s⟩
  ·have s := s.2
   refine zo rfl (sem_allocN [(.bool false), (.string ByteArray.empty)] TF.zero_119 (fun k112 hb1 hb2 h113 hb3 => ?_))
   have s := s k112 hb1 hb2 h113 hb3
   obtain ⟨g114, g115, g116, s⟩ := s
   refine ⟨fun _ => ⟨g114, g115, g116, trivial⟩, ?_⟩
   refine ⟨zo rfl (sem_callL [(.pointer p37), (.pointer p50), (.int .i64 (i2))] (TF.goes_121) rfl rfl (Spec.mono s fun v h117 hv => ?_)), trivial⟩
   obtain ⟨b118, s119, b120, rfl, s⟩ := hv
   obtain ⟨g121, g122, g123, s⟩ := s
   refine ⟨fun _ => ⟨g121, g122, g123, trivial⟩, ?_⟩
   refine auT 2 rfl ?_
   cases b120
   ·replace s := s.2 rfl
    refine auT 1 rfl ?_
    exact j82 _ _ ⟨⟨k112, 0, none⟩, (b118), s119, (false), ⟨rfl, rfl, rfl, rfl, rfl, rfl, trivial⟩, g121, g122, g123, s⟩
   ·replace s := s.1 rfl
    refine auT 1 rfl ?_
    exact j82 _ _ ⟨⟨k112, 0, none⟩, (b118), s119, (true), ⟨rfl, rfl, rfl, rfl, rfl, rfl, trivial⟩, g121, g122, g123, s⟩
 refine au 4 rfl ?_
 by_cases hb124 : p1 = none
 ·replace s := s.1 hb124
  refine zg rfl (sem_ptrNilT p1 (.inl rfl) true rfl rfl TF.ptr_30 hb124 rfl ?_)
  refine au 5 rfl ?_
  refine zg rfl (sem_buildSL [] [(.bool false), (.string ByteArray.empty)] TF.zero_119 TF.places_119 rfl rfl ?_)
  refine zsn s rfl rfl rfl TF.sz_119 rfl fun h125 s => ?_
  refine au 2 rfl ?_
  obtain ⟨b126, s127, hl0, s⟩ := s
  exact zr (⟨⟨k6, 0, none⟩, (.agg #[(.bool b126), (.string s127)]), rfl, loadHN TF.agg_119 TF.sz_119 hl0, s.imp fun _ q => ⟨_, _, _, rfl, q⟩⟩)
 ·replace s := s.2 hb124
  refine zg rfl (sem_ptrNilF p1 (.inl rfl) false rfl rfl TF.ptr_30 hb124 rfl ?_)
  refine au 6 rfl ?_
  refine zt s rfl rfl rfl binI_lss_t binI_lss_f (fun s => ?_) fun s => ?_
  ·refine au 9 rfl ?_
   refine zg rfl (sem_buildSL [] [(.bool false), (.string ByteArray.empty)] TF.zero_119 TF.places_119 rfl rfl ?_)
   refine zsn s rfl rfl rfl TF.sz_119 rfl fun h128 s => ?_
   refine au 2 rfl ?_
   obtain ⟨b129, s130, hl0, s⟩ := s
   exact zr (⟨⟨k6, 0, none⟩, (.agg #[(.bool b129), (.string s130)]), rfl, loadHN TF.agg_119 TF.sz_119 hl0, s.imp fun _ q => ⟨_, _, _, rfl, q⟩⟩)
  ·refine au 2 rfl ?_
   refine zt s rfl rfl rfl binI_geq_t binI_geq_f (fun s => ?_) fun s => ?_
   ·refine au 6 rfl ?_
    refine zg rfl (sem_buildSL [] [(.bool false), (.string ByteArray.empty)] TF.zero_119 TF.places_119 rfl rfl ?_)
    refine zsn s rfl rfl rfl TF.sz_119 rfl fun h131 s => ?_
    refine au 2 rfl ?_
    obtain ⟨b132, s133, hl0, s⟩ := s
    exact zr (⟨⟨k6, 0, none⟩, (.agg #[(.bool b132), (.string s133)]), rfl, loadHN TF.agg_119 TF.sz_119 hl0, s.imp fun _ q => ⟨_, _, _, rfl, q⟩⟩)
   ·refine au 6 rfl ?_
    exact Run.of_fin (s.imp fun h' s => j8 _ _ ⟨⟨rfl, rfl, rfl, trivial⟩, s⟩)
theorem C_file_At.of {B : RO} {b1 : Bool} {s2 : ByteArray} {i3 : Int} {h : Heap} {Q : Int → Heap → Prop} (s : S_file_At B b1 s2 i3 h Q) : C_file_At B b1 s2 i3 h Q := by
 refine zspec Tryz.func91 [ResultVar.tmp 4] rfl rfl rfl rfl rfl ?_
 refine au 2 rfl ?_
 refine zbn s rfl rfl rfl fun k5 h6 s => ?_
 refine au 3 rfl ?_
 refine Run.seqJ (fun e h9 => ∃ b8 : Bool, Agree [(1, (.int .i64 (i3))), (2, (.pointer (some ⟨k5, 0, none⟩))), (13, (.bool b8))] e ∧ S_file_At_J1 B i3 k5 b8 h9 Q) ?_ fun j7 => ?_
 ·rintro e h9 ⟨b8, hag, s⟩
  refine Run.env hag ?_; clear hag
  cases b8
  ·replace s := s.2 rfl
   refine au 5 rfl ?_
   refine zl s rfl rfl TF.agg_9 fun s10 s => ?_
   refine au 1 rfl ?_
   obtain ⟨hi0, hi1, s⟩ := s
   refine zg rfl (sem_indexStr' s10 .i64 (i3) rfl rfl TF.isStr_9 hi0 hi1 ?_)
   refine zg rfl (sem_convI .u8 .i64 (byteAt s10 (Int.toNat (i3))) rfl TF.int_5 TF.int_3 ?_)
   refine au 2 rfl ?_
   exact zr (s.imp fun _ q => ⟨_, rfl, q⟩)
  ·replace s := s.1 rfl
   refine au 5 rfl ?_
   exact zr (s.imp fun _ q => ⟨_, rfl, q⟩)
 refine au 2 rfl ?_
 refine zt s rfl rfl rfl binI_lss_t binI_lss_f (fun s => ?_) fun s => ?_
 ·refine au 8 rfl ?_
  exact Run.of_fin (s.imp fun h' s => j7 _ _ ⟨(true), ⟨rfl, rfl, rfl, trivial⟩, s⟩)
 ·refine au 3 rfl ?_
  refine zl s rfl rfl TF.agg_9 fun s11 s => ?_
  refine zg rfl (sem_lenStr s11 rfl TF.isStr_9 ?_)
  refine zt s rfl rfl rfl binI_geq_t binI_geq_f (fun s => ?_) fun s => ?_
  ·refine au 2 rfl ?_
   exact Run.of_fin (s.imp fun h' s => j7 _ _ ⟨(true), ⟨rfl, rfl, rfl, trivial⟩, s⟩)
  ·refine au 2 rfl ?_
   exact Run.of_fin (s.imp fun h' s => j7 _ _ ⟨(false), ⟨rfl, rfl, rfl, trivial⟩, s⟩)
theorem C_sheet_Sheet_Write.of {B : RO} {p1 : Option Addr} {p2 : Option Addr} {i3 : Int} {i4 : Int} {i5 : Int} {h : Heap} {Q : Bool → Heap → Prop} (s : S_sheet_Sheet_Write B p1 p2 i3 i4 i5 h Q) : C_sheet_Sheet_Write B p1 p2 i3 i4 i5 h Q := by
 refine zspec Tryz.func92 [ResultVar.tmp 10] rfl rfl rfl rfl rfl ?_
 refine au 9 rfl ?_
 refine zcall s rfl rfl TF.goes_121 ?_
 rintro _ h7 ⟨b8, s9, b10, rfl, s⟩
 refine au 3 rfl ?_
 refine zal s rfl TF.zero_119 rfl fun k11 h12 s => ?_
 refine zsn s rfl rfl rfl TF.sz_119 rfl fun h13 s => ?_
 refine au 7 rfl ?_
 obtain ⟨b14, s15, hl, s⟩ := s
 refine zn hl rfl rfl TF.agg_119 TF.sz_119 rfl ?_
 refine au 2 rfl ?_
 refine zcall s rfl rfl TF.goes_123 ?_
 rintro _ h16 ⟨b17, s18, rfl, s⟩
 refine zcall s rfl rfl TF.goes_122 ?_
 rintro _ h19 ⟨b20, rfl, s⟩
 refine au 2 rfl ?_
 exact zr (s.imp fun _ q => ⟨_, rfl, q⟩)
theorem C_sheet_Sheet_Create.of {B : RO} {p1 : Option Addr} {p2 : Option Addr} {i3 : Int} {h : Heap} {Q : Bool → Heap → Prop} (s : S_sheet_Sheet_Create B p1 p2 i3 h Q) : C_sheet_Sheet_Create B p1 p2 i3 h Q := by
 refine zspec Tryz.func93 [ResultVar.tmp 6] rfl rfl rfl rfl rfl ?_
 refine au 9 rfl ?_
 refine zcall s rfl rfl TF.goes_121 ?_
 rintro _ h5 ⟨b6, s7, b8, rfl, s⟩
 refine au 3 rfl ?_
 refine zal s rfl TF.zero_119 rfl fun k9 h10 s => ?_
 refine zsn s rfl rfl rfl TF.sz_119 rfl fun h11 s => ?_
 refine au 7 rfl ?_
 obtain ⟨b12, s13, hl, s⟩ := s
 refine zn hl rfl rfl TF.agg_119 TF.sz_119 rfl ?_
 refine zcall s rfl rfl TF.goes_124 ?_
 rintro _ h14 ⟨b15, s16, rfl, s⟩
 refine zcall s rfl rfl TF.goes_122 ?_
 rintro _ h17 ⟨b18, rfl, s⟩
 refine au 2 rfl ?_
 exact zr (s.imp fun _ q => ⟨_, rfl, q⟩)
theorem C_sheet_Sheet_Remove.of {B : RO} {p1 : Option Addr} {p2 : Option Addr} {i3 : Int} {h : Heap} {Q : Bool → Heap → Prop} (s : S_sheet_Sheet_Remove B p1 p2 i3 h Q) : C_sheet_Sheet_Remove B p1 p2 i3 h Q := by
 refine zspec Tryz.func94 [ResultVar.tmp 6] rfl rfl rfl rfl rfl ?_
 refine au 9 rfl ?_
 refine zg rfl (sem_buildSL [] [(.bool false), (.string ByteArray.empty)] TF.zero_119 TF.places_119 rfl rfl ?_)
 refine zcall s rfl rfl TF.goes_122 ?_
 rintro _ h5 ⟨b6, rfl, s⟩
 refine au 2 rfl ?_
 exact zr (s.imp fun _ q => ⟨_, rfl, q⟩)
theorem C_sheet_Sheet_Rename.of {B : RO} {p1 : Option Addr} {p2 : Option Addr} {i3 : Int} {i4 : Int} {h : Heap} {Q : Bool → Heap → Prop} (s : S_sheet_Sheet_Rename B p1 p2 i3 i4 h Q) : C_sheet_Sheet_Rename B p1 p2 i3 i4 h Q := by
 refine zspec Tryz.func95 [ResultVar.tmp 8] rfl rfl rfl rfl rfl ?_
 refine au 9 rfl ?_
 refine zcall s rfl rfl TF.goes_121 ?_
 rintro _ h6 ⟨b7, s8, b9, rfl, s⟩
 refine au 3 rfl ?_
 refine zal s rfl TF.zero_119 rfl fun k10 h11 s => ?_
 refine zsn s rfl rfl rfl TF.sz_119 rfl fun h12 s => ?_
 refine au 2 rfl ?_
 refine Run.seqJ (fun e h14 => Agree [(0, (.pointer p1)), (1, (.pointer p2)), (2, (.int .i64 (i3))), (3, (.int .i64 (i4))), (9, (.pointer (some ⟨k10, 0, none⟩)))] e ∧ S_sheet_Sheet_Rename_J1 B p1 p2 i3 i4 k10 h14 Q) ?_ fun j13 => ?_
 ·rintro e h14 ⟨hag, s⟩
  refine Run.env hag ?_; clear hag
  refine au 5 rfl ?_
  obtain ⟨b15, s16, hl, s⟩ := s
  refine zn hl rfl rfl TF.agg_119 TF.sz_119 rfl ?_
  refine zcall s rfl rfl TF.goes_122 ?_
  rintro _ h17 ⟨b18, rfl, s⟩
  refine au 6 rfl ?_
  refine zg rfl (sem_buildSL [] [(.bool false), (.string ByteArray.empty)] TF.zero_119 TF.places_119 rfl rfl ?_)
  refine zcall s rfl rfl TF.goes_122 ?_
  rintro _ h19 ⟨b20, rfl, s⟩
  refine au 2 rfl ?_
  exact zr (s.imp fun _ q => ⟨_, rfl, q⟩)
 refine au 1 rfl ?_
 refine Run.seqJ (fun e h23 => ∃ b22 : Bool, Agree [(0, (.pointer p1)), (1, (.pointer p2)), (2, (.int .i64 (i3))), (3, (.int .i64 (i4))), (9, (.pointer (some ⟨k10, 0, none⟩))), (18, (.bool b22))] e ∧ S_sheet_Sheet_Rename_J2 B p1 p2 i3 i4 k10 b22 h23 Q) ?_ fun j21 => ?_
 ·rintro e h23 ⟨b22, hag, s⟩
  refine Run.env hag ?_; clear hag
  cases b22
  ·replace s := s.2 rfl
   refine au 4 rfl ?_
   refine zl s rfl rfl TF.agg_4 fun b24 s => ?_
   cases b24
   ·replace s := s.2 rfl
    refine au 13 rfl ?_
    exact zr (s.imp fun _ q => ⟨_, rfl, q⟩)
   ·replace s := s.1 rfl
    refine au 4 rfl ?_
    refine zt s rfl rfl rfl binI_eql_t binI_eql_f (fun s => ?_) fun s => ?_
    ·refine au 8 rfl ?_
     exact zr (s.imp fun _ q => ⟨_, rfl, q⟩)
    ·refine au 6 rfl ?_
     exact Run.of_fin (s.imp fun h' s => j13 _ _ ⟨⟨rfl, rfl, rfl, rfl, rfl, trivial⟩, s⟩)
  ·replace s := s.1 rfl
   refine au 5 rfl ?_
   exact zr (s.imp fun _ q => ⟨_, rfl, q⟩)
 refine au 2 rfl ?_
 by_cases hb25 : p1 = none
 ·replace s := s.1 hb25
  refine zg rfl (sem_ptrNilT p1 (.inl rfl) true rfl rfl TF.ptr_92 hb25 rfl ?_)
  refine au 18 rfl ?_
  exact Run.of_fin (s.imp fun h' s => j21 _ _ ⟨(true), ⟨rfl, rfl, rfl, rfl, rfl, rfl, trivial⟩, s⟩)
 ·replace s := s.2 hb25
  refine zg rfl (sem_ptrNilF p1 (.inl rfl) false rfl rfl TF.ptr_92 hb25 rfl ?_)
  refine au 2 rfl ?_
  refine zt s rfl rfl rfl binI_lss_t binI_lss_f (fun s => ?_) fun s => ?_
  ·refine au 15 rfl ?_
   exact Run.of_fin (s.imp fun h' s => j21 _ _ ⟨(true), ⟨rfl, rfl, rfl, rfl, rfl, rfl, trivial⟩, s⟩)
  ·refine au 3 rfl ?_
   refine zt s rfl rfl rfl binI_geq_t binI_geq_f (fun s => ?_) fun s => ?_
   ·refine au 11 rfl ?_
    exact Run.of_fin (s.imp fun h' s => j21 _ _ ⟨(true), ⟨rfl, rfl, rfl, rfl, rfl, rfl, trivial⟩, s⟩)
   ·refine au 3 rfl ?_
    refine zt s rfl rfl rfl binI_lss_t binI_lss_f (fun s => ?_) fun s => ?_
    ·refine au 7 rfl ?_
     exact Run.of_fin (s.imp fun h' s => j21 _ _ ⟨(true), ⟨rfl, rfl, rfl, rfl, rfl, rfl, trivial⟩, s⟩)
    ·refine au 3 rfl ?_
     refine zt s rfl rfl rfl binI_geq_t binI_geq_f (fun s => ?_) fun s => ?_
     ·refine au 3 rfl ?_
      exact Run.of_fin (s.imp fun h' s => j21 _ _ ⟨(true), ⟨rfl, rfl, rfl, rfl, rfl, rfl, trivial⟩, s⟩)
     ·refine au 3 rfl ?_
      exact Run.of_fin (s.imp fun h' s => j21 _ _ ⟨(false), ⟨rfl, rfl, rfl, rfl, rfl, rfl, trivial⟩, s⟩)
theorem C_sheet_Sheet_Cut.of {B : RO} {p1 : Option Addr} {p2 : Option Addr} {i3 : Int} {i4 : Int} {h : Heap} {Q : Bool → Heap → Prop} (s : S_sheet_Sheet_Cut B p1 p2 i3 i4 h Q) : C_sheet_Sheet_Cut B p1 p2 i3 i4 h Q := by
 refine zspec Tryz.func96 [ResultVar.tmp 8] rfl rfl rfl rfl rfl ?_
 refine au 9 rfl ?_
 refine zcall s rfl rfl TF.goes_121 ?_
 rintro _ h6 ⟨b7, s8, b9, rfl, s⟩
 refine au 3 rfl ?_
 refine zal s rfl TF.zero_119 rfl fun k10 h11 s => ?_
 refine zsn s rfl rfl rfl TF.sz_119 rfl fun h12 s => ?_
 refine au 7 rfl ?_
 obtain ⟨b13, s14, hl, s⟩ := s
 refine zn hl rfl rfl TF.agg_119 TF.sz_119 rfl ?_
 refine au 1 rfl ?_
 refine zcall s rfl rfl TF.goes_125 ?_
 rintro _ h15 ⟨b16, s17, rfl, s⟩
 refine zcall s rfl rfl TF.goes_122 ?_
 rintro _ h18 ⟨b19, rfl, s⟩
 refine au 2 rfl ?_
 exact zr (s.imp fun _ q => ⟨_, rfl, q⟩)
theorem C_feed_Feed_At.of {B : RO} {p1 : Option Addr} {i2 : Int} {i3 : Int} {h : Heap} {Q : Int → Heap → Prop} (s : S_feed_Feed_At B p1 i2 i3 h Q) : C_feed_Feed_At B p1 i2 i3 h Q := by
 refine zspec Tryz.func97 [ResultVar.tmp 6] rfl rfl rfl rfl rfl ?_
 refine au 4 rfl ?_
 refine Run.seqJ (fun e h6 => Agree [(0, (.pointer p1)), (1, (.int .i64 (i2))), (2, (.int .i64 (i3)))] e ∧ S_feed_Feed_At_J1 B p1 i2 i3 h6 Q) ?_ fun j5 => ?_
 ·rintro e h6 ⟨hag, s⟩
  refine Run.env hag ?_; clear hag
  refine au 4 rfl ?_
  refine znil s rfl rfl fun A7 s => ?_
  refine au 1 rfl ?_
  obtain ⟨hi0, hi1, s⟩ := s
  refine zg rfl (sem_indexAddrA A7 .i64 (i2) rfl rfl TF.arr_56 hi0 hi1 ?_)
  refine zl s rfl rfl TF.agg_9 fun s9 s => ?_
  refine au 1 rfl ?_
  obtain ⟨hi0, hi1, s⟩ := s
  refine zg rfl (sem_indexStr' s9 .i64 (i3) rfl rfl TF.isStr_9 hi0 hi1 ?_)
  refine zg rfl (sem_convI .u8 .i64 (byteAt s9 (Int.toNat (i3))) rfl TF.int_5 TF.int_3 ?_)
  refine au 2 rfl ?_
  exact zr (s.imp fun _ q => ⟨_, rfl, q⟩)
 refine au 4 rfl ?_
 refine zcall s rfl rfl TF.goes_58 ?_
 rintro _ h10 ⟨b11, rfl, s⟩
 cases b11
 ·replace s := s.2 rfl
  refine au 22 rfl ?_
  exact zr (s.imp fun _ q => ⟨_, rfl, q⟩)
 ·replace s := s.1 rfl
  refine au 3 rfl ?_
  refine zt s rfl rfl rfl binI_lss_t binI_lss_f (fun s => ?_) fun s => ?_
  ·refine au 18 rfl ?_
   exact zr (s.imp fun _ q => ⟨_, rfl, q⟩)
  ·refine au 5 rfl ?_
   refine znil s rfl rfl fun A12 s => ?_
   refine au 1 rfl ?_
   obtain ⟨hi0, hi1, s⟩ := s
   refine zg rfl (sem_indexAddrA A12 .i64 (i2) rfl rfl TF.arr_56 hi0 hi1 ?_)
   refine zl s rfl rfl TF.agg_9 fun s14 s => ?_
   refine zg rfl (sem_lenStr s14 rfl TF.isStr_9 ?_)
   refine zt s rfl rfl rfl binI_geq_t binI_geq_f (fun s => ?_) fun s => ?_
   ·refine au 7 rfl ?_
    exact zr (s.imp fun _ q => ⟨_, rfl, q⟩)
   ·refine au 4 rfl ?_
    exact Run.of_fin (s.imp fun h' s => j5 _ _ ⟨⟨rfl, rfl, rfl, trivial⟩, s⟩)
theorem C_cursor_Cursor_At.of {B : RO} {p1 : Option Addr} {i2 : Int} {i3 : Int} {h : Heap} {Q : Int → Heap → Prop} (s : S_cursor_Cursor_At B p1 i2 i3 h Q) : C_cursor_Cursor_At B p1 i2 i3 h Q := by
 refine zspec Tryz.func98 [ResultVar.tmp 6] rfl rfl rfl rfl rfl ?_
 refine au 4 rfl ?_
 refine Run.seqJ (fun e h6 => Agree [(0, (.pointer p1)), (1, (.int .i64 (i2))), (2, (.int .i64 (i3)))] e ∧ S_cursor_Cursor_At_J1 B p1 i2 i3 h6 Q) ?_ fun j5 => ?_
 ·rintro e h6 ⟨hag, s⟩
  refine Run.env hag ?_; clear hag
  refine au 5 rfl ?_
  refine znil s rfl rfl fun A7 s => ?_
  refine au 1 rfl ?_
  obtain ⟨hi0, hi1, s⟩ := s
  refine zg rfl (sem_indexAddrA A7 .i64 (i2) rfl rfl TF.arr_53 hi0 hi1 ?_)
  refine zl s rfl rfl TF.agg_3 fun i9 s => ?_
  refine au 3 rfl ?_
  exact zr (s.imp fun _ q => ⟨_, rfl, q⟩)
 refine au 3 rfl ?_
 by_cases hb10 : p1 = none
 ·replace s := s.1 hb10
  refine zg rfl (sem_ptrNilT p1 (.inl rfl) true rfl rfl TF.ptr_93 hb10 rfl ?_)
  refine au 12 rfl ?_
  exact zr (s.imp fun _ q => ⟨_, rfl, q⟩)
 ·replace s := s.2 hb10
  refine zg rfl (sem_ptrNilF p1 (.inl rfl) false rfl rfl TF.ptr_93 hb10 rfl ?_)
  refine au 2 rfl ?_
  refine zcall s rfl rfl TF.goes_88 ?_
  rintro _ h11 ⟨b12, rfl, s⟩
  cases b12
  ·replace s := s.2 rfl
   refine au 9 rfl ?_
   exact zr (s.imp fun _ q => ⟨_, rfl, q⟩)
  ·replace s := s.1 rfl
   refine au 5 rfl ?_
   exact Run.of_fin (s.imp fun h' s => j5 _ _ ⟨⟨rfl, rfl, rfl, trivial⟩, s⟩)
theorem C_cursor_Cursor_Step.of {B : RO} {p1 : Option Addr} {i2 : Int} {h : Heap} {Q : Bool → Heap → Prop} (s : S_cursor_Cursor_Step B p1 i2 h Q) : C_cursor_Cursor_Step B p1 i2 h Q := by
 refine zspec Tryz.func99 [ResultVar.tmp 4] rfl rfl rfl rfl rfl ?_
 refine au 4 rfl ?_
 refine Run.seqJ (fun e h5 => Agree [(0, (.pointer p1)), (1, (.int .i64 (i2)))] e ∧ S_cursor_Cursor_Step_J1 B p1 i2 h5 Q) ?_ fun j4 => ?_
 ·rintro e h5 ⟨hag, s⟩
  refine Run.env hag ?_; clear hag
  refine au 1 rfl ?_
  refine Run.drawM (fun h' => h' = h5) [10] ⟨[0, 0, 1, 4, 10, 16, 32, 1, 128, 383, 639], [2047, 2047, 2046, 2043, 2037, 2031, 2015, 2046, 1919, 1789, 1471], [0, 0, 1, 5, 15, 31, 63, 1, 129, 511, 1023], 1024⟩ (.q 0 (.q 1 (.q 2 (.q 3 (.q 4 (.q 5 (.q 6 (.q 7 (.q 8 (.q 9 (.x 10 .nil .no))))))))))) TF.mixed (by kernel_rfl) rfl ?_
  refine auT 2 rfl ?_
  obtain ⟨A6, e7, s⟩ := s
  refine zqe rfl (sem_nilCheck A6 (congrArg Value.pointer e7) ⟨rfl, rfl⟩) ?_
  refine auT 1 rfl ?_
  obtain ⟨hi0, hi1, s⟩ := s
  refine zqe rfl (sem_indexAddrA A6 .i64 (i2) rfl rfl TF.arr_53 hi0 hi1 ⟨rfl, rfl⟩) ?_
  obtain ⟨i8, hl, s⟩ := s
  refine zqe rfl (sem_load1 (Addr.add A6 (Int.toNat (i2) * 1)) ((.int .i64 (i8))) rfl TF.agg_3 hl ⟨rfl, rfl⟩) ?_
  refine auT 1 rfl ?_
  obtain ⟨A9, e10, s⟩ := s
  refine zqe rfl (sem_nilCheck A9 (congrArg Value.pointer e10) ⟨rfl, rfl⟩) ?_
  refine auT 1 rfl ?_
  obtain ⟨hi0, hi1, s⟩ := s
  refine zqe rfl (sem_indexAddrA A9 .i64 (i2) rfl rfl TF.arr_53 hi0 hi1 ⟨rfl, rfl⟩) ?_
  obtain ⟨h11, hst, s⟩ := s
  refine ⟨zo0 rfl (sem_store1 (Addr.add A9 (Int.toNat (i2) * 1)) ((.int .i64 (IntKind.wrap .i64 ((i8) + (1))))) h11 rfl rfl rfl TF.sz_3 hst ?_), trivial⟩
  refine ⟨fun hz => Bool.noConfusion hz, ?_⟩
  refine au 4 rfl ?_
  exact zr (s.imp fun _ q => ⟨_, rfl, q⟩)
 refine au 3 rfl ?_
 by_cases hb12 : p1 = none
 ·replace s := s.1 hb12
  refine zg rfl (sem_ptrNilT p1 (.inl rfl) true rfl rfl TF.ptr_93 hb12 rfl ?_)
  refine au 20 rfl ?_
  exact zr (s.imp fun _ q => ⟨_, rfl, q⟩)
 ·replace s := s.2 hb12
  refine zg rfl (sem_ptrNilF p1 (.inl rfl) false rfl rfl TF.ptr_93 hb12 rfl ?_)
  refine au 2 rfl ?_
  refine zcall s rfl rfl TF.goes_88 ?_
  rintro _ h13 ⟨b14, rfl, s⟩
  cases b14
  ·replace s := s.2 rfl
   refine au 17 rfl ?_
   exact zr (s.imp fun _ q => ⟨_, rfl, q⟩)
  ·replace s := s.1 rfl
   refine au 5 rfl ?_
   refine znil s rfl rfl fun A15 s => ?_
   refine au 1 rfl ?_
   obtain ⟨hi0, hi1, s⟩ := s
   refine zg rfl (sem_indexAddrA A15 .i64 (i2) rfl rfl TF.arr_53 hi0 hi1 ?_)
   refine zl s rfl rfl TF.agg_3 fun i17 s => ?_
   refine zt s rfl rfl rfl binI_geq_t binI_geq_f (fun s => ?_) fun s => ?_
   ·refine au 7 rfl ?_
    exact zr (s.imp fun _ q => ⟨_, rfl, q⟩)
   ·refine au 4 rfl ?_
    exact Run.of_fin (s.imp fun h' s => j4 _ _ ⟨⟨rfl, rfl, trivial⟩, s⟩)
theorem C_countermandref14_Is.of {B : RO} {i1 : Int} {h : Heap} {Q : Bool → Heap → Prop} (s : S_countermandref14_Is B i1 h Q) : C_countermandref14_Is B i1 h Q := by
 refine zspec Tryz.func100 [ResultVar.tmp 2] rfl rfl rfl rfl rfl ?_
 refine au 7 rfl ?_
 refine zt s rfl rfl rfl binI_geq_t binI_geq_f (fun s => ?_) fun s => ?_
 ·refine au 6 rfl ?_
  exact zr (s.imp fun _ q => ⟨_, rfl, q⟩)
 ·refine au 6 rfl ?_
  exact zr (s.imp fun _ q => ⟨_, rfl, q⟩)
theorem C_countermandref14_Sheet_put.of {B : RO} {p1 : Option Addr} {i2 : Int} {b3 : Bool} {s4 : ByteArray} {h : Heap} {Q : Heap → Prop} (s : S_countermandref14_Sheet_put B p1 i2 b3 s4 h Q) : C_countermandref14_Sheet_put B p1 i2 b3 s4 h Q := by
 refine zspec Tryz.func101 [] rfl rfl rfl rfl rfl ?_
 refine au 2 rfl ?_
 refine zbn s rfl rfl rfl fun k5 h6 s => ?_
 refine au 2 rfl ?_
 refine Run.drawM (fun h' => h' = h6) [] ⟨[0, 0, 1, 4, 10, 16, 0, 96], [255, 255, 254, 251, 245, 239, 255, 159], [0, 0, 0, 0, 0, 0, 0, 0], 0⟩ (.q 0 (.q 1 (.q 2 (.q 3 (.q 4 (.q 5 (.q 6 (.q 7 .nil)))))))) TF.mixed (by kernel_rfl) rfl ?_
 refine auT 2 rfl ?_
 obtain ⟨A7, e8, s⟩ := s
 refine zqe rfl (sem_nilCheck A7 (congrArg Value.pointer e8) ⟨rfl, rfl⟩) ?_
 refine auT 1 rfl ?_
 obtain ⟨hi0, hi1, s⟩ := s
 refine zqe rfl (sem_indexAddrA (Addr.add A7 12) .i64 (i2) rfl rfl TF.arr_52 hi0 hi1 ⟨rfl, rfl⟩) ?_
 obtain ⟨b9, s10, hl, s⟩ := s
 refine zqe rfl (sem_loadN (Addr.add (Addr.add A7 12) (Int.toNat (i2) * 2)) [(.bool b9), (.string s10)] rfl TF.agg_51 TF.sz_51 hl ⟨rfl, rfl⟩) ?_
 obtain ⟨b11, s12, hl, s⟩ := s
 refine zqe rfl (sem_loadN ⟨k5, 0, none⟩ [(.bool b11), (.string s12)] rfl TF.agg_51 TF.sz_51 hl ⟨rfl, rfl⟩) ?_
 by_cases hb13 : eqL [(.bool b9), (.string s10)] [(.bool b11), (.string s12)] = true
 ·replace s := s.1 hb13
  refine zqe rfl (sem_aggEq [(.bool b9), (.string s10)] [(.bool b11), (.string s12)] _ (false) (.inr rfl) rfl rfl TF.agg_51 TF.flat_51 TF.eqg_51 ⟨⟨_, rfl⟩, ⟨_, rfl⟩, trivial⟩ ⟨⟨_, rfl⟩, ⟨_, rfl⟩, trivial⟩ (eqLT_neq hb13) ⟨rfl, rfl⟩) ?_
  refine au 2 rfl ?_
  exact zf (s.imp fun _ q => ⟨rfl, q⟩)
 ·replace s := s.2 hb13
  refine zqe rfl (sem_aggEq [(.bool b9), (.string s10)] [(.bool b11), (.string s12)] _ (true) (.inr rfl) rfl rfl TF.agg_51 TF.flat_51 TF.eqg_51 ⟨⟨_, rfl⟩, ⟨_, rfl⟩, trivial⟩ ⟨⟨_, rfl⟩, ⟨_, rfl⟩, trivial⟩ (eqLF_neq hb13) ⟨rfl, rfl⟩) ?_
  refine au 2 rfl ?_
  refine Run.drawM (fun h' => h' = h6) [6] ⟨[0, 0, 0, 1, 8, 23, 39], [127, 127, 127, 126, 119, 109, 91], [0, 0, 0, 1, 9, 31, 63], 64⟩ (.q 0 (.q 1 (.q 2 (.q 3 (.q 4 (.q 5 (.x 6 .nil .no))))))) TF.mixed (by kernel_rfl) rfl ?_
  refine auT 2 rfl ?_
  obtain ⟨b14, s15, hl, s⟩ := s
  refine zqe rfl (sem_loadN ⟨k5, 0, none⟩ [(.bool b14), (.string s15)] rfl TF.agg_51 TF.sz_51 hl ⟨rfl, rfl⟩) ?_
  obtain ⟨A16, e17, s⟩ := s
  refine zqe rfl (sem_nilCheck A16 (congrArg Value.pointer e17) ⟨rfl, rfl⟩) ?_
  refine auT 1 rfl ?_
  obtain ⟨hi0, hi1, s⟩ := s
  refine zqe rfl (sem_indexAddrA (Addr.add A16 12) .i64 (i2) rfl rfl TF.arr_52 hi0 hi1 ⟨rfl, rfl⟩) ?_
  obtain ⟨h18, hst, s⟩ := s
  refine ⟨zo0 rfl (sem_storeN (Addr.add (Addr.add A16 12) (Int.toNat (i2) * 2)) [(.bool b14), (.string s15)] h18 rfl rfl TF.sz_51 hst ?_), trivial⟩
  refine ⟨fun hz => Bool.noConfusion hz, ?_⟩
  refine au 3 rfl ?_
  refine znil s rfl rfl fun A19 s => ?_
  refine au 1 rfl ?_
  obtain ⟨hi0, hi1, s⟩ := s
  refine zg rfl (sem_indexAddrA (Addr.add A19 24) .i64 (i2) rfl rfl TF.arr_130 hi0 hi1 ?_)
  refine zs1 s rfl rfl rfl rfl TF.sz_4 fun h21 s => ?_
  refine au 1 rfl ?_
  exact zf (s.imp fun _ q => ⟨rfl, q⟩)
theorem C_countermandref09_Put.of {B : RO} {b1 : Bool} {s2 : ByteArray} {i3 : Int} {i4 : Int} {h : Heap} {Q : Bool → ByteArray → Heap → Prop} (s : S_countermandref09_Put B b1 s2 i3 i4 h Q) : C_countermandref09_Put B b1 s2 i3 i4 h Q := by
 refine zspec Tryz.func102 [ResultVar.cell 6 51] rfl rfl rfl rfl rfl ?_
 refine au 2 rfl ?_
 refine zbn s rfl rfl rfl fun k7 h8 s => ?_
 refine zal s rfl TF.zero_51 rfl fun k9 h10 s => ?_
 refine au 1 rfl ?_
 refine Run.seqJ (fun e h12 => Agree [(1, (.int .i64 (i3))), (2, (.int .u8 (i4))), (3, (.pointer (some ⟨k7, 0, none⟩))), (6, (.pointer (some ⟨k9, 0, none⟩)))] e ∧ S_countermandref09_Put_J1 B i3 i4 k7 k9 h12 Q) ?_ fun j11 => ?_
 ·rintro e h12 ⟨hag, s⟩
  refine Run.env hag ?_; clear hag
  refine au 10 rfl ?_
  obtain ⟨J19, m17, h0, s⟩ := s
  refine Run.of_fin (h0.imp fun h' h0 => ?_)
  refine Run.loop (σ := ByteArray × Int × Nat) (fun x e h => J19 x.1 x.2.1 x.2.2 h ∧ Agree [(1, (.int .i64 (i3))), (2, (.int .u8 (i4))), (3, (.pointer (some ⟨k7, 0, none⟩))), (6, (.pointer (some ⟨k9, 0, none⟩))), (7, (.string x.1)), (8, (.int .i64 (x.2.1)))] e) (fun x => x.2.2) ((ByteArray.mk #[]), (0), m17) ⟨h0, ⟨rfl, rfl, rfl, rfl, rfl, rfl, trivial⟩⟩ ?_; clear h0
  rintro ⟨s13, i14, m16⟩ e h15 ⟨hJ, hag⟩ ih18
  have s := s s13 i14 m16 h15 hJ; clear hJ
  refine Run.env hag ?_; clear hag
  refine Run.seqJ (fun e h21 => Agree [(1, (.int .i64 (i3))), (2, (.int .u8 (i4))), (3, (.pointer (some ⟨k7, 0, none⟩))), (6, (.pointer (some ⟨k9, 0, none⟩))), (7, (.string s13)), (8, (.int .i64 (i14)))] e ∧ S_countermandref09_Put_J2 B i3 i4 k7 k9 s13 i14 m16 J19 h21 Q) ?_ fun j20 => ?_
  ·rintro e h21 ⟨hag, s⟩
   refine Run.env hag ?_; clear hag
   refine au 4 rfl ?_
   obtain ⟨b22, s23, hl, s⟩ := s
   refine zn hl rfl rfl TF.agg_51 TF.sz_51 rfl ?_
   refine au 1 rfl ?_
   refine zcall s rfl rfl TF.goes_59 ?_
   rintro _ h24 ⟨i25, rfl, s⟩
   refine zg rfl (sem_max .i64 (i25) (0) rfl rfl ?_)
   refine au 2 rfl ?_
   refine Run.seqJ (fun e h28 => ∃ i27 : Int, Agree [(1, (.int .i64 (i3))), (2, (.int .u8 (i4))), (3, (.pointer (some ⟨k7, 0, none⟩))), (6, (.pointer (some ⟨k9, 0, none⟩))), (7, (.string s13)), (8, (.int .i64 (i14))), (9, (.int .i64 (i27)))] e ∧ S_countermandref09_Put_J3 B i3 i4 k7 k9 s13 i14 m16 J19 i27 h28 Q) ?_ fun j26 => ?_
   ·rintro e h28 ⟨i27, hag, s⟩
    refine Run.env hag ?_; clear hag
    refine au 3 rfl ?_
    refine zg rfl (sem_convI .i64 .u8 (i27) rfl TF.int_3 TF.int_5 ?_)
    refine zg rfl (sem_buildSliceL [(0, (.int .u8 (IntKind.wrap .u8 (i27))))] [(.int .u8 (IntKind.wrap .u8 (i27)))] TF.slc_226 TF.zero_5 rfl (by decide) (by decide) rfl rfl (fun k29 hb1 hb2 h30 hb3 => ?_))
    have s := s k29 hb1 hb2 h30 hb3
    refine zg rfl (sem_convW ((.slice (some ⟨k29, 0, none⟩) 1 1)) rfl (semH_mono (fun v h32 hv => ?_) s))
    obtain ⟨s31, rfl, s⟩ := hv
    obtain ⟨hi0, s⟩ := s
    refine zg rfl (sem_strAdd s13 s31 rfl rfl hi0 ?_)
    refine au 8 rfl ?_
    exact Run.of_fin (s.imp fun h' ⟨m', hm, s⟩ => ih18 ((s13 ++ s31), (IntKind.wrap .i64 ((i14) + (1))), m') _ _ ⟨s, ⟨rfl, rfl, rfl, rfl, rfl, rfl, trivial⟩⟩ hm)
   refine au 4 rfl ?_
   refine zt s rfl rfl rfl binI_eql_t binI_eql_f (fun s => ?_) fun s => ?_
   ·refine au 4 rfl ?_
    refine zg rfl (sem_convI .u8 .i64 (i4) rfl TF.int_5 TF.int_3 ?_)
    refine au 2 rfl ?_
    exact Run.of_fin (s.imp fun h' s => j26 _ _ ⟨(IntKind.wrap .i64 (i4)), ⟨rfl, rfl, rfl, rfl, rfl, rfl, rfl, trivial⟩, s⟩)
   ·refine au 3 rfl ?_
    exact Run.of_fin (s.imp fun h' s => j26 _ _ ⟨(if (0 : Int) > (i25) then (0 : Int) else (i25)), ⟨rfl, rfl, rfl, rfl, rfl, rfl, rfl, trivial⟩, s⟩)
  refine au 4 rfl ?_
  refine zl s rfl rfl TF.agg_9 fun s33 s => ?_
  refine zg rfl (sem_lenStr s33 rfl TF.isStr_9 ?_)
  refine zt s rfl rfl rfl binI_lss_t binI_lss_f (fun s => ?_) fun s => ?_
  ·refine au 8 rfl ?_
   exact Run.of_fin (s.imp fun h' s => j20 _ _ ⟨⟨rfl, rfl, rfl, rfl, rfl, rfl, trivial⟩, s⟩)
  ·refine au 3 rfl ?_
   refine zt s rfl rfl rfl binI_leq_t binI_leq_f (fun s => ?_) fun s => ?_
   ·refine au 4 rfl ?_
    exact Run.of_fin (s.imp fun h' s => j20 _ _ ⟨⟨rfl, rfl, rfl, rfl, rfl, rfl, trivial⟩, s⟩)
   ·refine au 7 rfl ?_
    refine zg rfl (sem_buildSL [(0, (.bool true)), (1, (.string s13))] [(.bool true), (.string s13)] TF.zero_51 TF.places_51 rfl rfl ?_)
    refine zsn s rfl rfl rfl TF.sz_51 rfl fun h34 s => ?_
    refine au 1 rfl ?_
    obtain ⟨b35, s36, hl0, s⟩ := s
    exact zr (⟨⟨k9, 0, none⟩, (.agg #[(.bool b35), (.string s36)]), rfl, loadHN TF.agg_51 TF.sz_51 hl0, s.imp fun _ q => ⟨_, _, rfl, q⟩⟩)
 refine au 3 rfl ?_
 refine zt s rfl rfl rfl binI_lss_t binI_lss_f (fun s => ?_) fun s => ?_
 ·refine au 8 rfl ?_
  obtain ⟨b37, s38, hl, s⟩ := s
  refine zn hl rfl rfl TF.agg_51 TF.sz_51 rfl ?_
  refine zsn s rfl rfl rfl TF.sz_51 rfl fun h39 s => ?_
  refine au 1 rfl ?_
  obtain ⟨b40, s41, hl0, s⟩ := s
  exact zr (⟨⟨k9, 0, none⟩, (.agg #[(.bool b40), (.string s41)]), rfl, loadHN TF.agg_51 TF.sz_51 hl0, s.imp fun _ q => ⟨_, _, rfl, q⟩⟩)
 ·refine au 2 rfl ?_
  refine zt s rfl rfl rfl binI_gtr_t binI_gtr_f (fun s => ?_) fun s => ?_
  ·refine au 5 rfl ?_
   obtain ⟨b42, s43, hl, s⟩ := s
   refine zn hl rfl rfl TF.agg_51 TF.sz_51 rfl ?_
   refine zsn s rfl rfl rfl TF.sz_51 rfl fun h44 s => ?_
   refine au 1 rfl ?_
   obtain ⟨b45, s46, hl0, s⟩ := s
   exact zr (⟨⟨k9, 0, none⟩, (.agg #[(.bool b45), (.string s46)]), rfl, loadHN TF.agg_51 TF.sz_51 hl0, s.imp fun _ q => ⟨_, _, rfl, q⟩⟩)
  ·refine au 4 rfl ?_
   exact Run.of_fin (s.imp fun h' s => j11 _ _ ⟨⟨rfl, rfl, rfl, rfl, trivial⟩, s⟩)
theorem C_countermandref09_Cut.of {B : RO} {b1 : Bool} {s2 : ByteArray} {i3 : Int} {h : Heap} {Q : Bool → ByteArray → Heap → Prop} (s : S_countermandref09_Cut B b1 s2 i3 h Q) : C_countermandref09_Cut B b1 s2 i3 h Q := by
 refine zspec Tryz.func103 [ResultVar.cell 4 51] rfl rfl rfl rfl rfl ?_
 refine au 2 rfl ?_
 refine zbn s rfl rfl rfl fun k6 h7 s => ?_
 refine zal s rfl TF.zero_51 rfl fun k8 h9 s => ?_
 refine au 1 rfl ?_
 refine Run.seqJ (fun e h11 => Agree [(1, (.int .i64 (i3))), (2, (.pointer (some ⟨k6, 0, none⟩))), (4, (.pointer (some ⟨k8, 0, none⟩)))] e ∧ S_countermandref09_Cut_J1 B i3 k6 k8 h11 Q) ?_ fun j10 => ?_
 ·rintro e h11 ⟨hag, s⟩
  refine Run.env hag ?_; clear hag
  refine au 10 rfl ?_
  obtain ⟨J18, m16, h0, s⟩ := s
  refine Run.of_fin (h0.imp fun h' h0 => ?_)
  refine Run.loop (σ := ByteArray × Int × Nat) (fun x e h => J18 x.1 x.2.1 x.2.2 h ∧ Agree [(1, (.int .i64 (i3))), (2, (.pointer (some ⟨k6, 0, none⟩))), (4, (.pointer (some ⟨k8, 0, none⟩))), (5, (.string x.1)), (6, (.int .i64 (x.2.1)))] e) (fun x => x.2.2) ((ByteArray.mk #[]), (0), m16) ⟨h0, ⟨rfl, rfl, rfl, rfl, rfl, trivial⟩⟩ ?_; clear h0
  rintro ⟨s12, i13, m15⟩ e h14 ⟨hJ, hag⟩ ih17
  have s := s s12 i13 m15 h14 hJ; clear hJ
  refine Run.env hag ?_; clear hag
  refine au 5 rfl ?_
  refine zt s rfl rfl rfl binI_lss_t binI_lss_f (fun s => ?_) fun s => ?_
  ·refine au 7 rfl ?_
   obtain ⟨b19, s20, hl, s⟩ := s
   refine zn hl rfl rfl TF.agg_51 TF.sz_51 rfl ?_
   refine au 1 rfl ?_
   refine zcall s rfl rfl TF.goes_59 ?_
   rintro _ h21 ⟨i22, rfl, s⟩
   refine zg rfl (sem_max .i64 (i22) (0) rfl rfl ?_)
   refine zg rfl (sem_convI .i64 .u8 (if (0 : Int) > (i22) then (0 : Int) else (i22)) rfl TF.int_3 TF.int_5 ?_)
   refine zg rfl (sem_buildSliceL [(0, (.int .u8 (IntKind.wrap .u8 (if (0 : Int) > (i22) then (0 : Int) else (i22)))))] [(.int .u8 (IntKind.wrap .u8 (if (0 : Int) > (i22) then (0 : Int) else (i22))))] TF.slc_226 TF.zero_5 rfl (by decide) (by decide) rfl rfl (fun k23 hb1 hb2 h24 hb3 => ?_))
   have s := s k23 hb1 hb2 h24 hb3
   refine zg rfl (sem_convW ((.slice (some ⟨k23, 0, none⟩) 1 1)) rfl (semH_mono (fun v h26 hv => ?_) s))
   obtain ⟨s25, rfl, s⟩ := hv
   obtain ⟨hi0, s⟩ := s
   refine zg rfl (sem_strAdd s12 s25 rfl rfl hi0 ?_)
   refine au 8 rfl ?_
   exact Run.of_fin (s.imp fun h' ⟨m', hm, s⟩ => ih17 ((s12 ++ s25), (IntKind.wrap .i64 ((i13) + (1))), m') _ _ ⟨s, ⟨rfl, rfl, rfl, rfl, rfl, trivial⟩⟩ hm)
  ·refine au 6 rfl ?_
   refine zg rfl (sem_buildSL [(0, (.bool true)), (1, (.string s12))] [(.bool true), (.string s12)] TF.zero_51 TF.places_51 rfl rfl ?_)
   refine zsn s rfl rfl rfl TF.sz_51 rfl fun h27 s => ?_
   refine au 1 rfl ?_
   obtain ⟨b28, s29, hl0, s⟩ := s
   exact zr (⟨⟨k8, 0, none⟩, (.agg #[(.bool b28), (.string s29)]), rfl, loadHN TF.agg_51 TF.sz_51 hl0, s.imp fun _ q => ⟨_, _, rfl, q⟩⟩)
 refine au 3 rfl ?_
 refine zl s rfl rfl TF.agg_4 fun b30 s => ?_
 cases b30
 ·replace s := s.2 rfl
  refine au 13 rfl ?_
  obtain ⟨b31, s32, hl, s⟩ := s
  refine zn hl rfl rfl TF.agg_51 TF.sz_51 rfl ?_
  refine zsn s rfl rfl rfl TF.sz_51 rfl fun h33 s => ?_
  refine au 1 rfl ?_
  obtain ⟨b34, s35, hl0, s⟩ := s
  exact zr (⟨⟨k8, 0, none⟩, (.agg #[(.bool b34), (.string s35)]), rfl, loadHN TF.agg_51 TF.sz_51 hl0, s.imp fun _ q => ⟨_, _, rfl, q⟩⟩)
 ·replace s := s.1 rfl
  refine au 3 rfl ?_
  refine zt s rfl rfl rfl binI_lss_t binI_lss_f (fun s => ?_) fun s => ?_
  ·refine au 9 rfl ?_
   obtain ⟨b36, s37, hl, s⟩ := s
   refine zn hl rfl rfl TF.agg_51 TF.sz_51 rfl ?_
   refine zsn s rfl rfl rfl TF.sz_51 rfl fun h38 s => ?_
   refine au 1 rfl ?_
   obtain ⟨b39, s40, hl0, s⟩ := s
   exact zr (⟨⟨k8, 0, none⟩, (.agg #[(.bool b39), (.string s40)]), rfl, loadHN TF.agg_51 TF.sz_51 hl0, s.imp fun _ q => ⟨_, _, rfl, q⟩⟩)
  ·refine au 3 rfl ?_
   refine zt s rfl rfl rfl binI_gtr_t binI_gtr_f (fun s => ?_) fun s => ?_
   ·refine au 5 rfl ?_
    obtain ⟨b41, s42, hl, s⟩ := s
    refine zn hl rfl rfl TF.agg_51 TF.sz_51 rfl ?_
    refine zsn s rfl rfl rfl TF.sz_51 rfl fun h43 s => ?_
    refine au 1 rfl ?_
    obtain ⟨b44, s45, hl0, s⟩ := s
    exact zr (⟨⟨k8, 0, none⟩, (.agg #[(.bool b44), (.string s45)]), rfl, loadHN TF.agg_51 TF.sz_51 hl0, s.imp fun _ q => ⟨_, _, rfl, q⟩⟩)
   ·refine au 4 rfl ?_
    exact Run.of_fin (s.imp fun h' s => j10 _ _ ⟨⟨rfl, rfl, rfl, trivial⟩, s⟩)
theorem C_slices_Insert_s_draft_entry_int_draft_entry_int.of {B : RO} {a1 : Option Addr} {n2 : Nat} {c3 : Nat} {i4 : Int} {a5 : Option Addr} {n6 : Nat} {c7 : Nat} {h : Heap} {Q : Option Addr → Nat → Nat → Heap → Prop} (s : S_slices_Insert_s_draft_entry_int_draft_entry_int B a1 n2 c3 i4 a5 n6 c7 h Q) : C_slices_Insert_s_draft_entry_int_draft_entry_int B a1 n2 c3 i4 a5 n6 c7 h Q := by
 refine zspec Tryz.func104 [ResultVar.tmp 6] rfl rfl rfl rfl rfl ?_
 refine au 8 rfl ?_
 obtain ⟨hi0, hi1, hi2, s⟩ := s
 refine zg rfl (sem_sliceSlI a1 n2 c3 (i4) ((n2 : Nat)) rfl TF.slc_164 ⟨_, rfl⟩ rfl hi0 hi1 hi2 ?_)
 refine au 4 rfl ?_
 refine zg rfl (sem_lenSl a5 n6 c7 rfl TF.sl_164 ?_)
 refine au 6 rfl ?_
 refine zt s rfl rfl rfl binI_eql_t binI_eql_f (fun s => ?_) fun s => ?_
 ·refine au 7 rfl ?_
  exact zr (s.imp fun _ q => ⟨_, _, _, rfl, q⟩)
 ·refine au 6 rfl ?_
  refine zg rfl (sem_lenSl a1 n2 c3 rfl TF.sl_164 ?_)
  refine au 7 rfl ?_
  refine zt s rfl rfl rfl binI_eql_t binI_eql_f (fun s => ?_) fun s => ?_
  ·refine au 6 rfl ?_
   refine zg rfl (sem_appendL [(.slice a1 n2 c3), (.slice a5 n6 c7)] rfl (semH_mono (fun v h11 hv => ?_) s))
   obtain ⟨a12, n13, c14, rfl, s⟩ := hv
   refine au 2 rfl ?_
   exact zr (s.imp fun _ q => ⟨_, _, _, rfl, q⟩)
  ·refine au 10 rfl ?_
   refine zg rfl (sem_capSl a1 (n2) (c3) rfl TF.sl_164 ?_)
   refine zt s rfl rfl rfl binI_gtr_t binI_gtr_f (fun s => ?_) fun s => ?_
   ·refine au 6 rfl ?_
    obtain ⟨hi0, hi1, hi2, s⟩ := s
    refine zg rfl (sem_sliceSlI a1 n2 c3 (0) (i4) rfl TF.slc_164 rfl ⟨_, rfl⟩ hi0 hi1 hi2 ?_)
    refine au 5 rfl ?_
    refine zg rfl (sem_appendL [(.slice (if c3 = Int.toNat (0) then a1 else Option.map (·.add (Int.toNat (0) * 2)) a1) (Int.toNat (i4) - Int.toNat (0)) (c3 - Int.toNat (0))), (.int .i64 (IntKind.wrap .i64 ((IntKind.wrap .i64 (((n2 : Nat)) + ((n6 : Nat)))) - (i4))))] rfl (semH_mono (fun v h15 hv => ?_) s))
    obtain ⟨a16, n17, c18, rfl, s⟩ := hv
    refine au 6 rfl ?_
    obtain ⟨hi0, hi1, hi2, s⟩ := s
    refine zg rfl (sem_sliceSlI a16 n17 c18 (i4) ((n17 : Nat)) rfl TF.slc_164 ⟨_, rfl⟩ rfl hi0 hi1 hi2 ?_)
    refine au 1 rfl ?_
    refine zg rfl (sem_copyL [(.slice (if c18 = Int.toNat (i4) then a16 else Option.map (·.add (Int.toNat (i4) * 2)) a16) (Int.toNat ((n17 : Nat)) - Int.toNat (i4)) (c18 - Int.toNat (i4))), (.slice a5 n6 c7)] rfl (semH_mono (fun v h19 hv => ?_) s))
    obtain ⟨i20, rfl, s⟩ := hv
    refine au 2 rfl ?_
    refine Run.drawM (fun h' => h' = h19) [8] ⟨[0, 0, 0, 6, 9, 0, 0, 96, 144], [511, 511, 511, 505, 502, 511, 511, 415, 367], [0, 0, 0, 6, 15, 0, 0, 96, 255], 256⟩ (.q 0 (.q 1 (.q 2 (.q 3 (.q 4 (.q 5 (.q 6 (.q 7 (.x 8 .nil .no))))))))) TF.mixed (by kernel_rfl) rfl ?_
    refine auT 4 rfl ?_
    obtain ⟨hi0, hi1, hi2, s⟩ := s
    refine zqe rfl (sem_sliceSlI a16 n17 c18 (IntKind.wrap .i64 ((i4) + ((n6 : Nat)))) ((n17 : Nat)) rfl TF.slc_164 ⟨_, rfl⟩ rfl hi0 hi1 hi2 ⟨rfl, rfl⟩) ?_
    refine auT 2 rfl ?_
    obtain ⟨hi0, hi1, hi2, s⟩ := s
    refine zqe rfl (sem_sliceSlI a1 n2 c3 (i4) ((n2 : Nat)) rfl TF.slc_164 ⟨_, rfl⟩ rfl hi0 hi1 hi2 ⟨rfl, rfl⟩) ?_
    refine ⟨zo rfl (sem_copyL [(.slice (if c18 = Int.toNat (IntKind.wrap .i64 ((i4) + ((n6 : Nat)))) then a16 else Option.map (·.add (Int.toNat (IntKind.wrap .i64 ((i4) + ((n6 : Nat)))) * 2)) a16) (Int.toNat ((n17 : Nat)) - Int.toNat (IntKind.wrap .i64 ((i4) + ((n6 : Nat))))) (c18 - Int.toNat (IntKind.wrap .i64 ((i4) + ((n6 : Nat)))))), (.slice (if c3 = Int.toNat (i4) then a1 else Option.map (·.add (Int.toNat (i4) * 2)) a1) (Int.toNat ((n2 : Nat)) - Int.toNat (i4)) (c3 - Int.toNat (i4)))] rfl (semH_mono (fun v h21 hv => ?_) s)), trivial⟩
    obtain ⟨i22, rfl, s⟩ := hv
    refine ⟨fun hz => Bool.noConfusion hz, ?_⟩
    refine au 5 rfl ?_
    exact zr (s.imp fun _ q => ⟨_, _, _, rfl, q⟩)
   ·refine au 9 rfl ?_
    obtain ⟨hi0, hi1, hi2, s⟩ := s
    refine zg rfl (sem_sliceSlI a1 n2 c3 (0) (IntKind.wrap .i64 (((n2 : Nat)) + ((n6 : Nat)))) rfl TF.slc_164 rfl ⟨_, rfl⟩ hi0 hi1 hi2 ?_)
    refine au 10 rfl ?_
    obtain ⟨hi0, hi1, hi2, s⟩ := s
    refine zg rfl (sem_sliceSlI (if c3 = Int.toNat (0) then a1 else Option.map (·.add (Int.toNat (0) * 2)) a1) (Int.toNat (IntKind.wrap .i64 (((n2 : Nat)) + ((n6 : Nat)))) - Int.toNat (0)) (c3 - Int.toNat (0)) (IntKind.wrap .i64 ((i4) + ((n6 : Nat)))) (((Int.toNat (IntKind.wrap .i64 (((n2 : Nat)) + ((n6 : Nat)))) - Int.toNat (0)) : Nat)) rfl TF.slc_164 ⟨_, rfl⟩ rfl hi0 hi1 hi2 ?_)
    refine zg rfl (sem_callXL [(.slice a5 n6 c7), (.slice (if (c3 - Int.toNat (0)) = Int.toNat (IntKind.wrap .i64 ((i4) + ((n6 : Nat)))) then (if c3 = Int.toNat (0) then a1 else Option.map (·.add (Int.toNat (0) * 2)) a1) else Option.map (·.add (Int.toNat (IntKind.wrap .i64 ((i4) + ((n6 : Nat)))) * 2)) (if c3 = Int.toNat (0) then a1 else Option.map (·.add (Int.toNat (0) * 2)) a1)) (Int.toNat (((Int.toNat (IntKind.wrap .i64 (((n2 : Nat)) + ((n6 : Nat)))) - Int.toNat (0)) : Nat)) - Int.toNat (IntKind.wrap .i64 ((i4) + ((n6 : Nat))))) ((c3 - Int.toNat (0)) - Int.toNat (IntKind.wrap .i64 ((i4) + ((n6 : Nat))))))] (TF.goesx_126) rfl rfl (semH_mono (fun v h23 hv => ?_) s))
    obtain ⟨b24, rfl, s⟩ := hv
    cases b24
    ·replace s := s.2 rfl
     refine au 4 rfl ?_
     refine Run.drawM (fun h' => h' = h23) [8] ⟨[0, 0, 0, 6, 9, 0, 0, 96, 144], [511, 511, 511, 505, 502, 511, 511, 415, 367], [0, 0, 0, 6, 15, 0, 0, 96, 255], 256⟩ (.q 0 (.q 1 (.q 2 (.q 3 (.q 4 (.q 5 (.q 6 (.q 7 (.x 8 .nil .no))))))))) TF.mixed (by kernel_rfl) rfl ?_
     refine auT 4 rfl ?_
     obtain ⟨hi0, hi1, hi2, s⟩ := s
     refine zqe rfl (sem_sliceSlI (if c3 = Int.toNat (0) then a1 else Option.map (·.add (Int.toNat (0) * 2)) a1) (Int.toNat (IntKind.wrap .i64 (((n2 : Nat)) + ((n6 : Nat)))) - Int.toNat (0)) (c3 - Int.toNat (0)) (IntKind.wrap .i64 ((i4) + ((n6 : Nat)))) (((Int.toNat (IntKind.wrap .i64 (((n2 : Nat)) + ((n6 : Nat)))) - Int.toNat (0)) : Nat)) rfl TF.slc_164 ⟨_, rfl⟩ rfl hi0 hi1 hi2 ⟨rfl, rfl⟩) ?_
     refine auT 2 rfl ?_
     obtain ⟨hi0, hi1, hi2, s⟩ := s
     refine zqe rfl (sem_sliceSlI (if c3 = Int.toNat (0) then a1 else Option.map (·.add (Int.toNat (0) * 2)) a1) (Int.toNat (IntKind.wrap .i64 (((n2 : Nat)) + ((n6 : Nat)))) - Int.toNat (0)) (c3 - Int.toNat (0)) (i4) (((Int.toNat (IntKind.wrap .i64 (((n2 : Nat)) + ((n6 : Nat)))) - Int.toNat (0)) : Nat)) rfl TF.slc_164 ⟨_, rfl⟩ rfl hi0 hi1 hi2 ⟨rfl, rfl⟩) ?_
     refine ⟨zo rfl (sem_copyL [(.slice (if (c3 - Int.toNat (0)) = Int.toNat (IntKind.wrap .i64 ((i4) + ((n6 : Nat)))) then (if c3 = Int.toNat (0) then a1 else Option.map (·.add (Int.toNat (0) * 2)) a1) else Option.map (·.add (Int.toNat (IntKind.wrap .i64 ((i4) + ((n6 : Nat)))) * 2)) (if c3 = Int.toNat (0) then a1 else Option.map (·.add (Int.toNat (0) * 2)) a1)) (Int.toNat (((Int.toNat (IntKind.wrap .i64 (((n2 : Nat)) + ((n6 : Nat)))) - Int.toNat (0)) : Nat)) - Int.toNat (IntKind.wrap .i64 ((i4) + ((n6 : Nat))))) ((c3 - Int.toNat (0)) - Int.toNat (IntKind.wrap .i64 ((i4) + ((n6 : Nat)))))), (.slice (if (c3 - Int.toNat (0)) = Int.toNat (i4) then (if c3 = Int.toNat (0) then a1 else Option.map (·.add (Int.toNat (0) * 2)) a1) else Option.map (·.add (Int.toNat (i4) * 2)) (if c3 = Int.toNat (0) then a1 else Option.map (·.add (Int.toNat (0) * 2)) a1)) (Int.toNat (((Int.toNat (IntKind.wrap .i64 (((n2 : Nat)) + ((n6 : Nat)))) - Int.toNat (0)) : Nat)) - Int.toNat (i4)) ((c3 - Int.toNat (0)) - Int.toNat (i4)))] rfl (semH_mono (fun v h25 hv => ?_) s)), trivial⟩
     obtain ⟨i26, rfl, s⟩ := hv
     refine ⟨fun hz => Bool.noConfusion hz, ?_⟩
     refine au 4 rfl ?_
     obtain ⟨hi0, hi1, hi2, s⟩ := s
     refine zg rfl (sem_sliceSlI (if c3 = Int.toNat (0) then a1 else Option.map (·.add (Int.toNat (0) * 2)) a1) (Int.toNat (IntKind.wrap .i64 (((n2 : Nat)) + ((n6 : Nat)))) - Int.toNat (0)) (c3 - Int.toNat (0)) (i4) (((Int.toNat (IntKind.wrap .i64 (((n2 : Nat)) + ((n6 : Nat)))) - Int.toNat (0)) : Nat)) rfl TF.slc_164 ⟨_, rfl⟩ rfl hi0 hi1 hi2 ?_)
     refine au 1 rfl ?_
     refine zg rfl (sem_copyL [(.slice (if (c3 - Int.toNat (0)) = Int.toNat (i4) then (if c3 = Int.toNat (0) then a1 else Option.map (·.add (Int.toNat (0) * 2)) a1) else Option.map (·.add (Int.toNat (i4) * 2)) (if c3 = Int.toNat (0) then a1 else Option.map (·.add (Int.toNat (0) * 2)) a1)) (Int.toNat (((Int.toNat (IntKind.wrap .i64 (((n2 : Nat)) + ((n6 : Nat)))) - Int.toNat (0)) : Nat)) - Int.toNat (i4)) ((c3 - Int.toNat (0)) - Int.toNat (i4))), (.slice a5 n6 c7)] rfl (semH_mono (fun v h27 hv => ?_) s))
     obtain ⟨i28, rfl, s⟩ := hv
     refine au 6 rfl ?_
     exact zr (s.imp fun _ q => ⟨_, _, _, rfl, q⟩)
    ·replace s := s.1 rfl
     refine au 8 rfl ?_
     obtain ⟨hi0, hi1, hi2, s⟩ := s
     refine zg rfl (sem_sliceSlI (if c3 = Int.toNat (0) then a1 else Option.map (·.add (Int.toNat (0) * 2)) a1) (Int.toNat (IntKind.wrap .i64 (((n2 : Nat)) + ((n6 : Nat)))) - Int.toNat (0)) (c3 - Int.toNat (0)) ((n2 : Nat)) (((Int.toNat (IntKind.wrap .i64 (((n2 : Nat)) + ((n6 : Nat)))) - Int.toNat (0)) : Nat)) rfl TF.slc_164 ⟨_, rfl⟩ rfl hi0 hi1 hi2 ?_)
     refine au 1 rfl ?_
     refine zg rfl (sem_copyL [(.slice (if (c3 - Int.toNat (0)) = Int.toNat ((n2 : Nat)) then (if c3 = Int.toNat (0) then a1 else Option.map (·.add (Int.toNat (0) * 2)) a1) else Option.map (·.add (Int.toNat ((n2 : Nat)) * 2)) (if c3 = Int.toNat (0) then a1 else Option.map (·.add (Int.toNat (0) * 2)) a1)) (Int.toNat (((Int.toNat (IntKind.wrap .i64 (((n2 : Nat)) + ((n6 : Nat)))) - Int.toNat (0)) : Nat)) - Int.toNat ((n2 : Nat))) ((c3 - Int.toNat (0)) - Int.toNat ((n2 : Nat)))), (.slice a5 n6 c7)] rfl (semH_mono (fun v h29 hv => ?_) s))
     obtain ⟨i30, rfl, s⟩ := hv
     refine au 5 rfl ?_
     obtain ⟨hi0, hi1, hi2, s⟩ := s
     refine zg rfl (sem_sliceSlI (if c3 = Int.toNat (0) then a1 else Option.map (·.add (Int.toNat (0) * 2)) a1) (Int.toNat (IntKind.wrap .i64 (((n2 : Nat)) + ((n6 : Nat)))) - Int.toNat (0)) (c3 - Int.toNat (0)) (i4) (((Int.toNat (IntKind.wrap .i64 (((n2 : Nat)) + ((n6 : Nat)))) - Int.toNat (0)) : Nat)) rfl TF.slc_164 ⟨_, rfl⟩ rfl hi0 hi1 hi2 ?_)
     refine au 1 rfl ?_
     refine zcall s rfl rfl TF.goes_127 ?_
     rintro _ h31 ⟨rfl, s⟩
     refine au 6 rfl ?_
     exact zr (s.imp fun _ q => ⟨_, _, _, rfl, q⟩)
theorem C_cell_New_file_File.of {B : RO} {i1 : Int} {b2 : Bool} {s3 : ByteArray} {h : Heap} {Q : Option Addr → Heap → Prop} (s : S_cell_New_file_File B i1 b2 s3 h Q) : C_cell_New_file_File B i1 b2 s3 h Q := by
 refine zspec Tryz.func105 [ResultVar.tmp 4] rfl rfl rfl rfl rfl ?_
 refine au 2 rfl ?_
 refine zbn s rfl rfl rfl fun k5 h6 s => ?_
 refine au 4 rfl ?_
 refine zg rfl (sem_buildSL [] [(.slice none 0 0)] TF.zero_219 TF.places_219 rfl rfl ?_)
 refine zbn s rfl rfl rfl fun k7 h8 s => ?_
 refine au 9 rfl ?_
 obtain ⟨J14, m12, h0, s⟩ := s
 refine Run.of_fin (h0.imp fun h' h0 => ?_)
 refine Run.loop (σ := Int × Nat) (fun x e h => J14 x.1 x.2 h ∧ Agree [(3, (.pointer (some ⟨k5, 0, none⟩))), (5, (.pointer (some ⟨k7, 0, none⟩))), (8, (.int .i64 (i1))), (9, (.int .i64 (x.1)))] e) (fun x => x.2) ((0), m12) ⟨h0, ⟨rfl, rfl, rfl, rfl, trivial⟩⟩ ?_; clear h0
 rintro ⟨i9, m11⟩ e h10 ⟨hJ, hag⟩ ih13
 have s := s i9 m11 h10 hJ; clear hJ
 refine Run.env hag ?_; clear hag
 refine au 2 rfl ?_
 refine zt s rfl rfl rfl binI_lss_t binI_lss_f (fun s => ?_) fun s => ?_
 ·refine au 6 rfl ?_
  obtain ⟨a19, n20, c21, hl, s⟩ := s
  have f22 := hl
  obtain ⟨b23, s24, hl, s⟩ := s
  have f25 := hl
  refine Run.drawM (fun h' => cellH B h' ⟨k7, 0, none⟩ = some (.slice a19 n20 c21) ∧ CellsAt B h' ⟨k5, 0, none⟩ 0 [(.bool b23), (.string s24)] ∧ True) [11] ⟨[0, 0, 2, 4, 8, 0, 32, 64, 144, 511, 1023, 1535], [4095, 4095, 4093, 4091, 4087, 4095, 4063, 4031, 3951, 4094, 3583, 2815], [0, 0, 2, 6, 14, 0, 32, 96, 254, 511, 1023, 2047], 2048⟩ (.q 0 (.q 1 (.q 2 (.q 3 (.q 4 (.q 5 (.q 6 (.x 7 (.x 8 (.q 9 (.q 10 (.x 11 .nil .no))) .no) .no)))))))) TF.mixed (by kernel_rfl) ⟨f22, f25, trivial⟩ ?_
  refine auT 4 rfl ?_
  refine zq rfl (fun _ hC => sem_load1 ⟨k7, 0, none⟩ ((.slice a19 n20 c21)) rfl TF.agg_217 hC.1 ⟨rfl, rfl⟩) ?_
  refine zq rfl (fun _ hC => sem_loadN ⟨k5, 0, none⟩ [(.bool b23), (.string s24)] rfl TF.agg_119 TF.sz_119 hC.2.1 ⟨rfl, rfl⟩) ?_
  refine zq rfl (fun _ hC => sem_buildSL [(0, (.agg #[(.bool b23), (.string s24)]))] [(.bool b23), (.string s24), (.int .i64 (0))] TF.zero_216 TF.places_216 rfl rfl ⟨rfl, rfl⟩) ?_
  refine ⟨zo rfl (sem_buildSliceL [(0, (.agg #[(.bool b23), (.string s24), (.int .i64 (0))]))] [(.bool b23), (.string s24), (.int .i64 (0))] TF.slc_217 TF.zero_216 rfl (by decide) (by decide) rfl rfl (fun k27 hb1 hb2 h28 hb3 => ?_)), trivial⟩
  have s := s k27 hb1 hb2 h28 hb3
  obtain ⟨g29, g30, s⟩ := s
  refine ⟨fun _ => ⟨g29, g30, trivial⟩, ?_⟩
  refine ⟨zo rfl (sem_appendL [(.slice a19 n20 c21), (.slice (some ⟨k27, 0, none⟩) 1 1)] rfl (semH_mono (fun v h31 hv => ?_) s)), trivial⟩
  obtain ⟨a32, n33, c34, rfl, s⟩ := hv
  obtain ⟨g35, g36, s⟩ := s
  refine ⟨fun _ => ⟨g35, g36, trivial⟩, ?_⟩
  refine auT 2 rfl ?_
  obtain ⟨h37, hst, s⟩ := s
  refine ⟨zo0 rfl (sem_store1 ⟨k7, 0, none⟩ ((.slice a32 n33 c34)) h37 rfl rfl rfl TF.sz_217 hst ?_), trivial⟩
  refine ⟨fun hz => Bool.noConfusion hz, ?_⟩
  refine au 5 rfl ?_
  exact Run.of_fin (s.imp fun h' ⟨m', hm, s⟩ => ih13 ((IntKind.wrap .i64 ((i9) + (1))), m') _ _ ⟨s, ⟨rfl, rfl, rfl, rfl, trivial⟩⟩ hm)
 ·refine au 9 rfl ?_
  exact zr (s.imp fun _ q => ⟨_, rfl, q⟩)
theorem C_sheet_New.of {B : RO} {h : Heap} {Q : Option Addr → Heap → Prop} (s : S_sheet_New B h Q) : C_sheet_New B h Q := by
 refine zspec Tryz.func106 [ResultVar.tmp 0] rfl rfl rfl rfl rfl ?_
 refine au 6 rfl ?_
 refine zg rfl (sem_buildSL [] [(.slice none 0 0)] TF.zero_207 TF.places_207 rfl rfl ?_)
 refine zbn s rfl rfl rfl fun k2 h3 s => ?_
 refine zg rfl (sem_buildSL [(0, (.pointer (some ⟨k2, 0, none⟩)))] [(.pointer (some ⟨k2, 0, none⟩))] TF.zero_204 TF.places_204 rfl rfl ?_)
 refine zbn s rfl rfl rfl fun k4 h5 s => ?_
 refine au 2 rfl ?_
 exact zr (s.imp fun _ q => ⟨_, rfl, q⟩)
theorem C_mark_State_Copy.of {B : RO} {p1 : Option Addr} {p2 : Option Addr} {p3 : Option Addr} {i4 : Int} {i5 : Int} {i6 : Int} {i7 : Int} {h : Heap} {Q : Option Addr → Option Addr → Option Addr → Int → Int → Int → Int → Heap → Prop} (s : S_mark_State_Copy B p1 p2 p3 i4 i5 i6 i7 h Q) : C_mark_State_Copy B p1 p2 p3 i4 i5 i6 i7 h Q := by
 refine zspec Tryz.func107 [ResultVar.cell 2 95] rfl rfl rfl rfl rfl ?_
 refine au 2 rfl ?_
 refine zbn s rfl rfl rfl fun k15 h16 s => ?_
 refine zal s rfl TF.zero_95 rfl fun k17 h18 s => ?_
 refine au 2 rfl ?_
 obtain ⟨p20, hl, s⟩ := s
 have f21 := hl
 obtain ⟨p23, hl, s⟩ := s
 have f24 := hl
 obtain ⟨p26, hl, s⟩ := s
 have f27 := hl
 obtain ⟨i29, i30, i31, i32, hl, s⟩ := s
 have f33 := hl
 refine Run.drawM (fun h' => cellH B h' ⟨k15, 0, none⟩ = some (.pointer p20) ∧ cellH B h' ⟨k15, 1, none⟩ = some (.pointer p23) ∧ cellH B h' ⟨k15, 2, none⟩ = some (.pointer p26) ∧ CellsAt B h' ⟨k15, 3, none⟩ 0 [(.int .i64 (i29)), (.int .i64 (i30)), (.int .i64 (i31)), (.int .i64 (i32))] ∧ True) [12] ⟨[0, 1, 2, 0, 8, 20, 0, 64, 160, 0, 512, 1316, 4095], [8191, 8190, 8189, 8191, 8183, 8175, 8191, 8127, 8063, 8191, 7679, 6875, 6143], [0, 1, 3, 0, 8, 31, 0, 64, 255, 0, 512, 2047, 4095], 4096⟩ (.q 0 (.q 1 (.q 3 (.q 4 (.q 6 (.q 7 (.q 9 (.q 10 (.x 2 (.x 5 (.x 8 (.q 11 (.x 12 .nil .no)) .no) .no) .no))))))))) TF.mixed (by kernel_rfl) ⟨f21, f24, f27, f33, trivial⟩ ?_
 refine auT 1 rfl ?_
 refine zq rfl (fun _ hC => sem_load1 ⟨k15, 0, none⟩ ((.pointer p20)) rfl TF.agg_91 hC.1 ⟨rfl, rfl⟩) ?_
 refine auT 1 rfl ?_
 refine zq rfl (fun _ hC => sem_load1 ⟨k15, 1, none⟩ ((.pointer p23)) rfl TF.agg_92 hC.2.1 ⟨rfl, rfl⟩) ?_
 refine auT 1 rfl ?_
 refine zq rfl (fun _ hC => sem_load1 ⟨k15, 2, none⟩ ((.pointer p26)) rfl TF.agg_93 hC.2.2.1 ⟨rfl, rfl⟩) ?_
 refine auT 1 rfl ?_
 refine zq rfl (fun _ hC => sem_loadN ⟨k15, 3, none⟩ [(.int .i64 (i29)), (.int .i64 (i30)), (.int .i64 (i31)), (.int .i64 (i32))] rfl TF.agg_26 TF.sz_26 hC.2.2.2.1 ⟨rfl, rfl⟩) ?_
 refine ⟨zo rfl (sem_callL [(.pointer p20)] (TF.goes_128) rfl rfl (Spec.mono s fun v h34 hv => ?_)), trivial⟩
 obtain ⟨p35, rfl, s⟩ := hv
 obtain ⟨g36, g37, g38, g39, s⟩ := s
 refine ⟨fun _ => ⟨g36, g37, g38, g39, trivial⟩, ?_⟩
 refine ⟨zo rfl (sem_callL [(.pointer p23)] (TF.goes_129) rfl rfl (Spec.mono s fun v h40 hv => ?_)), trivial⟩
 obtain ⟨p41, rfl, s⟩ := hv
 obtain ⟨g42, g43, g44, g45, s⟩ := s
 refine ⟨fun _ => ⟨g42, g43, g44, g45, trivial⟩, ?_⟩
 refine ⟨zo rfl (sem_callL [(.pointer p26)] (TF.goes_130) rfl rfl (Spec.mono s fun v h46 hv => ?_)), trivial⟩
 obtain ⟨p47, rfl, s⟩ := hv
 obtain ⟨g48, g49, g50, g51, s⟩ := s
 refine ⟨fun _ => ⟨g48, g49, g50, g51, trivial⟩, ?_⟩
 refine zq rfl (fun _ _ => sem_buildSL [(0, (.pointer p35)), (1, (.pointer p41)), (2, (.pointer p47)), (3, (.agg #[(.int .i64 (i29)), (.int .i64 (i30)), (.int .i64 (i31)), (.int .i64 (i32))]))] [(.pointer p35), (.pointer p41), (.pointer p47), (.int .i64 (i29)), (.int .i64 (i30)), (.int .i64 (i31)), (.int .i64 (i32))] TF.zero_95 TF.places_95 rfl rfl ⟨rfl, rfl⟩) ?_
 obtain ⟨h52, hst, s⟩ := s
 refine ⟨zo0 rfl (sem_storeN ⟨k17, 0, none⟩ [(.pointer p35), (.pointer p41), (.pointer p47), (.int .i64 (i29)), (.int .i64 (i30)), (.int .i64 (i31)), (.int .i64 (i32))] h52 rfl rfl TF.sz_95 hst ?_), trivial⟩
 refine ⟨fun hz => Bool.noConfusion hz, ?_⟩
 obtain ⟨p53, p54, p55, i56, i57, i58, i59, hl0, s⟩ := s
 exact zr (⟨⟨k17, 0, none⟩, (.agg #[(.pointer p53), (.pointer p54), (.pointer p55), (.int .i64 (i56)), (.int .i64 (i57)), (.int .i64 (i58)), (.int .i64 (i59))]), rfl, loadHN TF.agg_95 TF.sz_95 hl0, s.imp fun _ q => ⟨_, _, _, _, _, _, _, rfl, q⟩⟩)
theorem C_slices_Delete_s_mark_Mark_mark_Mark.of {B : RO} {a1 : Option Addr} {n2 : Nat} {c3 : Nat} {i4 : Int} {i5 : Int} {h : Heap} {Q : Option Addr → Nat → Nat → Heap → Prop} (s : S_slices_Delete_s_mark_Mark_mark_Mark B a1 n2 c3 i4 i5 h Q) : C_slices_Delete_s_mark_Mark_mark_Mark B a1 n2 c3 i4 i5 h Q := by
 refine zspec Tryz.func108 [ResultVar.tmp 6] rfl rfl rfl rfl rfl ?_
 refine au 10 rfl ?_
 refine zg rfl (sem_lenSl a1 n2 c3 rfl TF.sl_145 ?_)
 obtain ⟨hi0, hi1, hi2, hi3, s⟩ := s
 refine zg rfl (sem_slice3L a1 n2 c3 (i4) (i5) ((n2 : Nat)) .i64 .i64 .i64 rfl TF.slc_145 rfl rfl rfl hi0 hi1 hi2 hi3 ?_)
 refine au 6 rfl ?_
 refine zt s rfl rfl rfl binI_eql_t binI_eql_f (fun s => ?_) fun s => ?_
 ·refine au 7 rfl ?_
  exact zr (s.imp fun _ q => ⟨_, _, _, rfl, q⟩)
 ·refine au 6 rfl ?_
  refine zg rfl (sem_lenSl a1 n2 c3 rfl TF.sl_145 ?_)
  refine au 3 rfl ?_
  obtain ⟨hi0, hi1, hi2, s⟩ := s
  have f12 := hi0; have f13 := hi1; have f14 := hi2
  obtain ⟨hi0, hi1, hi2, s⟩ := s
  have f18 := hi0; have f19 := hi1; have f20 := hi2
  refine Run.drawM (fun h' => True) [] ⟨[0, 0, 3, 0, 0, 24, 36, 127], [255, 255, 252, 255, 255, 231, 219, 182], [0, 0, 0, 0, 0, 0, 0, 0], 0⟩ (.q 0 (.q 1 (.q 2 (.q 3 (.q 4 (.q 5 (.x 6 (.q 7 .nil) .no))))))) TF.mixed (by kernel_rfl) trivial ?_
  refine auT 2 rfl ?_
  refine zq rfl (fun _ hC => sem_sliceSlI a1 n2 c3 (0) (i4) rfl TF.slc_145 rfl ⟨_, rfl⟩ f12 f13 f14 ⟨rfl, rfl⟩) ?_
  refine auT 2 rfl ?_
  refine zq rfl (fun _ hC => sem_sliceSlI a1 n2 c3 (i5) ((n2 : Nat)) rfl TF.slc_145 ⟨_, rfl⟩ rfl f18 f19 f20 ⟨rfl, rfl⟩) ?_
  refine ⟨zo rfl (sem_appendL [(.slice (if c3 = Int.toNat (0) then a1 else Option.map (·.add (Int.toNat (0) * 12)) a1) (Int.toNat (i4) - Int.toNat (0)) (c3 - Int.toNat (0))), (.slice (if c3 = Int.toNat (i5) then a1 else Option.map (·.add (Int.toNat (i5) * 12)) a1) (Int.toNat ((n2 : Nat)) - Int.toNat (i5)) (c3 - Int.toNat (i5)))] rfl (semH_mono (fun v h21 hv => ?_) s)), trivial⟩
  obtain ⟨a22, n23, c24, rfl, s⟩ := hv
  refine ⟨fun _ => trivial, ?_⟩
  refine auT 1 rfl ?_
  refine au 4 rfl ?_
  refine zg rfl (sem_lenSl a22 n23 c24 rfl TF.sl_145 ?_)
  refine au 1 rfl ?_
  obtain ⟨hi0, hi1, hi2, s⟩ := s
  refine zg rfl (sem_sliceSlI a22 n23 c24 ((n23 : Nat)) ((n2 : Nat)) rfl TF.slc_145 ⟨_, rfl⟩ ⟨_, rfl⟩ hi0 hi1 hi2 ?_)
  refine zg0 rfl (sem_clearL [(.slice (if c24 = Int.toNat ((n23 : Nat)) then a22 else Option.map (·.add (Int.toNat ((n23 : Nat)) * 12)) a22) (Int.toNat ((n2 : Nat)) - Int.toNat ((n23 : Nat))) (c24 - Int.toNat ((n23 : Nat))))] rfl (semH_mono (fun v h25 hv => ?_) s))
  obtain ⟨rfl, s⟩ := hv
  refine au 6 rfl ?_
  exact zr (s.imp fun _ q => ⟨_, _, _, rfl, q⟩)
theorem C_acts_first_acts_Out.of {B : RO} {a1 : Option Addr} {n2 : Nat} {c3 : Nat} {i4 : Int} {h : Heap} {Q : Option Addr → Nat → Nat → Heap → Prop} (s : S_acts_first_acts_Out B a1 n2 c3 i4 h Q) : C_acts_first_acts_Out B a1 n2 c3 i4 h Q := by
 refine zspec Tryz.func109 [ResultVar.tmp 4] rfl rfl rfl rfl rfl ?_
 refine au 7 rfl ?_
 refine zg rfl (sem_max .i64 (i4) (0) rfl rfl ?_)
 refine au 1 rfl ?_
 refine zg rfl (sem_lenSl a1 n2 c3 rfl TF.sl_101 ?_)
 refine zg rfl (sem_min .i64 (if (0 : Int) > (i4) then (0 : Int) else (i4)) ((n2 : Nat)) rfl rfl ?_)
 refine au 7 rfl ?_
 obtain ⟨hi0, hi1, hi2, s⟩ := s
 refine zg rfl (sem_slice3I a1 n2 c3 (if ((n2 : Nat) : Int) < (if (0 : Int) > (i4) then (0 : Int) else (i4)) then ((n2 : Nat) : Int) else (if (0 : Int) > (i4) then (0 : Int) else (i4))) (if ((n2 : Nat) : Int) < (if (0 : Int) > (i4) then (0 : Int) else (i4)) then ((n2 : Nat) : Int) else (if (0 : Int) > (i4) then (0 : Int) else (i4))) .i64 .i64 rfl TF.slc_101 rfl rfl hi0 hi1 hi2 ?_)
 refine au 2 rfl ?_
 exact zr (s.imp fun _ q => ⟨_, _, _, rfl, q⟩)
theorem C_acts_first_int.of {B : RO} {a1 : Option Addr} {n2 : Nat} {c3 : Nat} {i4 : Int} {h : Heap} {Q : Option Addr → Nat → Nat → Heap → Prop} (s : S_acts_first_int B a1 n2 c3 i4 h Q) : C_acts_first_int B a1 n2 c3 i4 h Q := by
 refine zspec Tryz.func110 [ResultVar.tmp 4] rfl rfl rfl rfl rfl ?_
 refine au 7 rfl ?_
 refine zg rfl (sem_max .i64 (i4) (0) rfl rfl ?_)
 refine au 1 rfl ?_
 refine zg rfl (sem_lenSl a1 n2 c3 rfl TF.sl_76 ?_)
 refine zg rfl (sem_min .i64 (if (0 : Int) > (i4) then (0 : Int) else (i4)) ((n2 : Nat)) rfl rfl ?_)
 refine au 7 rfl ?_
 obtain ⟨hi0, hi1, hi2, s⟩ := s
 refine zg rfl (sem_slice3I a1 n2 c3 (if ((n2 : Nat) : Int) < (if (0 : Int) > (i4) then (0 : Int) else (i4)) then ((n2 : Nat) : Int) else (if (0 : Int) > (i4) then (0 : Int) else (i4))) (if ((n2 : Nat) : Int) < (if (0 : Int) > (i4) then (0 : Int) else (i4)) then ((n2 : Nat) : Int) else (if (0 : Int) > (i4) then (0 : Int) else (i4))) .i64 .i64 rfl TF.slc_76 rfl rfl hi0 hi1 hi2 ?_)
 refine au 2 rfl ?_
 exact zr (s.imp fun _ q => ⟨_, _, _, rfl, q⟩)
theorem C_acts_first_acts_Open.of {B : RO} {a1 : Option Addr} {n2 : Nat} {c3 : Nat} {i4 : Int} {h : Heap} {Q : Option Addr → Nat → Nat → Heap → Prop} (s : S_acts_first_acts_Open B a1 n2 c3 i4 h Q) : C_acts_first_acts_Open B a1 n2 c3 i4 h Q := by
 refine zspec Tryz.func111 [ResultVar.tmp 4] rfl rfl rfl rfl rfl ?_
 refine au 7 rfl ?_
 refine zg rfl (sem_max .i64 (i4) (0) rfl rfl ?_)
 refine au 1 rfl ?_
 refine zg rfl (sem_lenSl a1 n2 c3 rfl TF.sl_80 ?_)
 refine zg rfl (sem_min .i64 (if (0 : Int) > (i4) then (0 : Int) else (i4)) ((n2 : Nat)) rfl rfl ?_)
 refine au 7 rfl ?_
 obtain ⟨hi0, hi1, hi2, s⟩ := s
 refine zg rfl (sem_slice3I a1 n2 c3 (if ((n2 : Nat) : Int) < (if (0 : Int) > (i4) then (0 : Int) else (i4)) then ((n2 : Nat) : Int) else (if (0 : Int) > (i4) then (0 : Int) else (i4))) (if ((n2 : Nat) : Int) < (if (0 : Int) > (i4) then (0 : Int) else (i4)) then ((n2 : Nat) : Int) else (if (0 : Int) > (i4) then (0 : Int) else (i4))) .i64 .i64 rfl TF.slc_80 rfl rfl hi0 hi1 hi2 ?_)
 refine au 2 rfl ?_
 exact zr (s.imp fun _ q => ⟨_, _, _, rfl, q⟩)
theorem C_acts_undo.of {B : RO} {a1 : Option Addr} {n2 : Nat} {c3 : Nat} {h : Heap} {Q : Option Addr → Nat → Nat → Heap → Prop} (s : S_acts_undo B a1 n2 c3 h Q) : C_acts_undo B a1 n2 c3 h Q := by
 refine zspec Tryz.func112 [ResultVar.tmp 2] rfl rfl rfl rfl rfl ?_
 refine au 6 rfl ?_
 refine zal s rfl TF.zero_80 rfl fun k7 h8 s => ?_
 refine au 5 rfl ?_
 refine zcall s rfl rfl TF.goes_131 ?_
 rintro v10 h9 ⟨_, rfl, s⟩
 refine au 2 rfl ?_
 obtain ⟨xs18, G14, J17, hit, hins, hG, h0, s, hR⟩ := s
 refine Run.of_fin (h0.imp fun h' h0 => ?_)
 refine Run.range (v10) (xs18.map (fun x : Int × Int × Int => [(.int .i64 (x.1)), (.agg #[(.int .i64 (x.2.1)), (.int .i64 (x.2.2))])])) G14 J17 rfl hit hins hG h0 rfl (fun a ha => by obtain ⟨x, _, rfl⟩ := List.mem_map.1 ha; rfl) ?_ ?_
 ·rintro q16 args h15 ha hJ
  obtain ⟨⟨i11, i12, i13⟩, hx, rfl⟩ := Option.map_eq_some_iff.1 ((List.getElem?_map ..).symm.trans ha)
  have s := s q16 h15 i11 i12 i13 hx hJ; clear hJ hx ha
  refine zput rfl ?_
  refine au 1 rfl ?_
  refine zal s rfl TF.zero_100 rfl fun k19 h20 s => ?_
  refine zsn s rfl rfl rfl TF.sz_100 rfl fun h21 s => ?_
  refine au 1 rfl ?_
  refine Run.begin ⟨rfl, ?_⟩
  refine au 2 rfl ?_
  refine Run.ldSl s fun a22 n23 c24 h25 hl s => ?_
  refine zg rfl (sem_load1 ⟨k7, 0, none⟩ ((.slice a22 n23 c24)) rfl TF.agg_80 hl ?_)
  refine au 1 rfl ?_
  refine zl s rfl rfl TF.agg_3 fun i26 s => ?_
  refine au 1 rfl ?_
  refine zl s rfl rfl TF.agg_3 fun i27 s => ?_
  refine zg rfl (sem_neg .i64 (i27) rfl ?_)
  refine zg rfl (sem_buildSL [(0, (.int .i64 (i26))), (1, (.int .i64 (IntKind.wrap .i64 (0 - (i27)))))] [(.int .i64 (i26)), (.int .i64 (IntKind.wrap .i64 (0 - (i27))))] TF.zero_100 TF.places_100 rfl rfl ?_)
  refine zg rfl (sem_buildSliceL [(0, (.agg #[(.int .i64 (i26)), (.int .i64 (IntKind.wrap .i64 (0 - (i27))))]))] [(.int .i64 (i26)), (.int .i64 (IntKind.wrap .i64 (0 - (i27))))] TF.slc_80 TF.zero_100 rfl (by decide) (by decide) rfl rfl (fun k28 hb1 hb2 h29 hb3 => ?_))
  have s := s k28 hb1 hb2 h29 hb3
  refine zg rfl (sem_appendL [(.slice a22 n23 c24), (.slice (some ⟨k28, 0, none⟩) 1 1)] rfl (semH_mono (fun v h30 hv => ?_) s))
  obtain ⟨a31, n32, c33, rfl, s⟩ := hv
  refine zs1 s rfl rfl rfl rfl TF.sz_80 fun h34 s => ?_
  refine au 2 rfl ?_
  refine Run.of_fin (s.imp fun h' s => ?_)
  exact Run.fall (.inl ⟨rfl, s⟩)
 ·intro h15 hJ
  have s := hR h15 (by simpa using hJ); clear hJ hR
  refine au 3 rfl ?_
  refine Run.ldSl s fun a35 n36 c37 h38 hl s => ?_
  refine zg rfl (sem_load1 ⟨k7, 0, none⟩ ((.slice a35 n36 c37)) rfl TF.agg_80 hl ?_)
  refine au 2 rfl ?_
  exact zr (s.imp fun _ q => ⟨_, _, _, rfl, q⟩)
theorem C_slices_BinarySearchFunc_s_draft_entry_int_draft_entry_int_int.of {B : RO} {a1 : Option Addr} {n2 : Nat} {c3 : Nat} {i4 : Int} {v5 : Value} {h : Heap} {Q : Int → Bool → Heap → Prop} (s : S_slices_BinarySearchFunc_s_draft_entry_int_draft_entry_int_int B a1 n2 c3 i4 v5 h Q) : C_slices_BinarySearchFunc_s_draft_entry_int_draft_entry_int_int B a1 n2 c3 i4 v5 h Q := by
 refine zspec Tryz.func114 [ResultVar.tmp 6, ResultVar.tmp 7] rfl rfl rfl rfl rfl ?_
 refine au 8 rfl ?_
 refine zg rfl (sem_lenSl a1 n2 c3 rfl TF.sl_164 ?_)
 refine au 8 rfl ?_
 refine Run.seqJ (fun e h10 => ∃ i9 : Int, Agree [(0, (.slice a1 n2 c3)), (1, (.int .i64 (i4))), (2, v5), (8, (.int .i64 ((n2 : Nat)))), (9, (.int .i64 (i9)))] e ∧ S_slices_BinarySearchFunc_s_draft_entry_int_draft_entry_int_int_J1 B a1 n2 c3 i4 v5 i9 h10 Q) ?_ fun j8 => ?_
 ·rintro e h10 ⟨i9, hag, s⟩
  refine Run.env hag ?_; clear hag
  refine au 5 rfl ?_
  refine zt s rfl rfl rfl binI_lss_t binI_lss_f (fun s => ?_) fun s => ?_
  ·refine au 4 rfl ?_
   obtain ⟨A11, e12, hi0, hi1, s⟩ := s
   refine zg rfl (sem_indexAddrS A11 n2 c3 .i64 (i9) (congrArg (fun a => Value.slice a n2 c3) e12) rfl TF.slc_164 hi0 hi1 ?_)
   obtain ⟨i13, i14, hl, s⟩ := s
   refine zn hl rfl rfl TF.agg_163 TF.sz_163 rfl ?_
   refine au 1 rfl ?_
   refine zg rfl (sem_callV (v5) [(.agg #[(.int .i64 (i13)), (.int .i64 (i14))]), (.int .i64 (i4))] rfl rfl s (fun nx h' ha => ha.mono fun v h15 hv => ?_))
   obtain ⟨i16, rfl, s⟩ := hv
   refine au 5 rfl ?_
   exact zr (s.imp fun _ q => ⟨_, _, rfl, q⟩)
  ·refine au 13 rfl ?_
   exact zr (s.imp fun _ q => ⟨_, _, rfl, q⟩)
 refine au 1 rfl ?_
 obtain ⟨J23, m21, h0, s⟩ := s
 refine Run.of_fin (h0.imp fun h' h0 => ?_)
 refine Run.loop (σ := Int × Int × Nat) (fun x e h => J23 x.1 x.2.1 x.2.2 h ∧ Agree [(0, (.slice a1 n2 c3)), (1, (.int .i64 (i4))), (2, v5), (8, (.int .i64 ((n2 : Nat)))), (9, (.int .i64 (x.1))), (10, (.int .i64 (x.2.1)))] e) (fun x => x.2.2) ((0), ((n2 : Nat)), m21) ⟨h0, ⟨rfl, rfl, rfl, rfl, rfl, rfl, trivial⟩⟩ ?_; clear h0
 rintro ⟨i17, i18, m20⟩ e h19 ⟨hJ, hag⟩ ih22
 have s := s i17 i18 m20 h19 hJ; clear hJ
 refine Run.env hag ?_; clear hag
 refine au 5 rfl ?_
 refine zt s rfl rfl rfl binI_lss_t binI_lss_f (fun s => ?_) fun s => ?_
 ·refine au 9 rfl ?_
  refine zg rfl (sem_convI .i64 .u64 (IntKind.wrap .i64 ((i17) + (i18))) rfl TF.int_3 TF.int_234 ?_)
  obtain ⟨hi0, s⟩ := s
  refine zg rfl (sem_shr .u64 .u64 (IntKind.wrap .u64 (IntKind.wrap .i64 ((i17) + (i18)))) (1) rfl rfl hi0 ?_)
  refine zg rfl (sem_convI .u64 .i64 (Int.fdiv (IntKind.wrap .u64 (IntKind.wrap .i64 ((i17) + (i18)))) (2 ^ (min (Int.toNat (1)) (IntKind.bits .u64)))) rfl TF.int_234 TF.int_3 ?_)
  refine au 7 rfl ?_
  obtain ⟨A24, e25, hi0, hi1, s⟩ := s
  refine zg rfl (sem_indexAddrS A24 n2 c3 .i64 (IntKind.wrap .i64 (Int.fdiv (IntKind.wrap .u64 (IntKind.wrap .i64 ((i17) + (i18)))) (2 ^ (min (Int.toNat (1)) (IntKind.bits .u64))))) (congrArg (fun a => Value.slice a n2 c3) e25) rfl TF.slc_164 hi0 hi1 ?_)
  obtain ⟨i26, i27, hl, s⟩ := s
  refine zn hl rfl rfl TF.agg_163 TF.sz_163 rfl ?_
  refine au 1 rfl ?_
  refine zg rfl (sem_callV (v5) [(.agg #[(.int .i64 (i26)), (.int .i64 (i27))]), (.int .i64 (i4))] rfl rfl s (fun nx h' ha => ha.mono fun v h28 hv => ?_))
  obtain ⟨i29, rfl, s⟩ := hv
  refine zt s rfl rfl rfl binI_lss_t binI_lss_f (fun s => ?_) fun s => ?_
  ·refine au 8 rfl ?_
   exact Run.of_fin (s.imp fun h' ⟨m', hm, s⟩ => ih22 ((IntKind.wrap .i64 ((IntKind.wrap .i64 (Int.fdiv (IntKind.wrap .u64 (IntKind.wrap .i64 ((i17) + (i18)))) (2 ^ (min (Int.toNat (1)) (IntKind.bits .u64))))) + (1))), (i18), m') _ _ ⟨s, ⟨rfl, rfl, rfl, rfl, rfl, rfl, trivial⟩⟩ hm)
  ·refine au 7 rfl ?_
   exact Run.of_fin (s.imp fun h' ⟨m', hm, s⟩ => ih22 ((i17), (IntKind.wrap .i64 (Int.fdiv (IntKind.wrap .u64 (IntKind.wrap .i64 ((i17) + (i18)))) (2 ^ (min (Int.toNat (1)) (IntKind.bits .u64))))), m') _ _ ⟨s, ⟨rfl, rfl, rfl, rfl, rfl, rfl, trivial⟩⟩ hm)
 ·refine au 3 rfl ?_
  exact Run.of_fin (s.imp fun h' s => j8 _ _ ⟨(i17), ⟨rfl, rfl, rfl, rfl, rfl, trivial⟩, s⟩)
theorem C_draft_by_int.of {B : RO} {i1 : Int} {i2 : Int} {i3 : Int} {h : Heap} {Q : Int → Heap → Prop} (s : S_draft_by_int B i1 i2 i3 h Q) : C_draft_by_int B i1 i2 i3 h Q := by
 refine zspec Tryz.func115 [ResultVar.tmp 4] rfl rfl rfl rfl rfl ?_
 refine au 2 rfl ?_
 refine zbn s rfl rfl rfl fun k5 h6 s => ?_
 refine au 7 rfl ?_
 refine zl s rfl rfl TF.agg_3 fun i7 s => ?_
 refine au 1 rfl ?_
 refine zt s rfl rfl rfl binI_lss_t binI_lss_f (fun s => ?_) fun s => ?_
 ·refine au 7 rfl ?_
  exact zr (s.imp fun _ q => ⟨_, rfl, q⟩)
 ·refine au 6 rfl ?_
  refine zl s rfl rfl TF.agg_3 fun i8 s => ?_
  refine au 1 rfl ?_
  refine zt s rfl rfl rfl binI_gtr_t binI_gtr_f (fun s => ?_) fun s => ?_
  ·refine au 7 rfl ?_
   exact zr (s.imp fun _ q => ⟨_, rfl, q⟩)
  ·refine au 9 rfl ?_
   exact zr (s.imp fun _ q => ⟨_, rfl, q⟩)
theorem C_reads_Set_place.of {B : RO} {p1 : Option Addr} {i2 : Int} {i3 : Int} {h : Heap} {Q : Int → Heap → Prop} (s : S_reads_Set_place B p1 i2 i3 h Q) : C_reads_Set_place B p1 i2 i3 h Q := by
 refine zspec Tryz.func116 [ResultVar.tmp 6] rfl rfl rfl rfl rfl ?_
 refine au 2 rfl ?_
 refine zb1 s rfl rfl rfl rfl fun k5 h6 s => ?_
 refine zb1 s rfl rfl rfl rfl fun k7 h8 s => ?_
 refine au 5 rfl ?_
 refine znil s rfl rfl fun A9 s => ?_
 refine au 1 rfl ?_
 refine Run.ldSl s fun a11 n12 c13 h14 hl s => ?_
 refine zg rfl (sem_load1 A9 ((.slice a11 n12 c13)) rfl TF.agg_135 hl ?_)
 refine au 1 rfl ?_
 refine zcall s rfl rfl TF.goes_132 ?_
 rintro _ h15 ⟨i16, rfl, s⟩
 refine au 2 rfl ?_
 exact zr (s.imp fun _ q => ⟨_, rfl, q⟩)
theorem C_draft_Draft_file_File_All_1.of {B : RO} {v1 : Value} {A2 : Addr} {h : Heap} {Q : Heap → Prop} (s : S_draft_Draft_file_File_All_1 B v1 A2 h Q) : C_draft_Draft_file_File_All_1 B v1 A2 h Q := by
 refine zspec Tryz.func117 [] rfl rfl rfl rfl rfl ?_
 refine au 3 rfl ?_
 refine zl s rfl rfl TF.agg_157 fun p3 s => ?_
 by_cases hb4 : p3 = none
 ·replace s := s.1 hb4
  refine zg rfl (sem_ptrNilT p3 (.inl rfl) true rfl rfl TF.ptr_157 hb4 rfl ?_)
  refine au 2 rfl ?_
  exact zr (s.imp fun _ q => ⟨rfl, q⟩)
 ·replace s := s.2 hb4
  refine zg rfl (sem_ptrNilF p3 (.inl rfl) false rfl rfl TF.ptr_157 hb4 rfl ?_)
  refine au 5 rfl ?_
  refine zl s rfl rfl TF.agg_157 fun p5 s => ?_
  refine znil s rfl rfl fun A6 s => ?_
  refine au 1 rfl ?_
  refine Run.ldSl s fun a8 n9 c10 h11 hl s => ?_
  refine zg rfl (sem_load1 A6 ((.slice a8 n9 c10)) rfl TF.agg_205 hl ?_)
  refine zg rfl (sem_lenSl a8 n9 c10 rfl TF.sl_205 ?_)
  refine au 3 rfl ?_
  obtain ⟨J17, m15, h0, s⟩ := s
  refine Run.of_fin (h0.imp fun h' h0 => ?_)
  refine Run.loop (σ := Int × Nat) (fun x e h => J17 x.1 x.2 h ∧ Agree [(0, v1), (10, (.slice a8 n9 c10)), (11, (.int .i64 ((n9 : Nat)))), (12, (.int .i64 (x.1)))] e) (fun x => x.2) ((0), m15) ⟨h0, ⟨rfl, rfl, rfl, rfl, trivial⟩⟩ ?_; clear h0
  rintro ⟨i12, m14⟩ e h13 ⟨hJ, hag⟩ ih16
  have s := s i12 m14 h13 hJ; clear hJ
  refine Run.env hag ?_; clear hag
  refine au 2 rfl ?_
  refine zt s rfl rfl rfl binI_lss_t binI_lss_f (fun s => ?_) fun s => ?_
  ·refine au 8 rfl ?_
   obtain ⟨A18, e19, hi0, hi1, s⟩ := s
   refine zg rfl (sem_indexAddrS A18 n9 c10 .i64 (i12) (congrArg (fun a => Value.slice a n9 c10) e19) rfl TF.slc_205 hi0 hi1 ?_)
   obtain ⟨i20, b21, s22, hl, s⟩ := s
   refine zn hl rfl rfl TF.agg_213 TF.sz_213 rfl ?_
   refine zal s rfl TF.zero_213 rfl fun k23 h24 s => ?_
   refine zsn s rfl rfl rfl TF.sz_213 rfl fun h25 s => ?_
   refine au 5 rfl ?_
   refine zl s rfl rfl TF.agg_3 fun i26 s => ?_
   refine au 1 rfl ?_
   obtain ⟨b27, s28, hl, s⟩ := s
   refine zn hl rfl rfl TF.agg_119 TF.sz_119 rfl ?_
   refine zg rfl (sem_callV (v1) [(.int .i64 (i26)), (.agg #[(.bool b27), (.string s28)])] rfl rfl s (fun nx h' ha => ha.mono fun v h29 hv => ?_))
   obtain ⟨b30, rfl, s⟩ := hv
   cases b30
   ·replace s := s.2 rfl
    refine au 3 rfl ?_
    exact zr (s.imp fun _ q => ⟨rfl, q⟩)
   ·replace s := s.1 rfl
    refine au 9 rfl ?_
    exact Run.of_fin (s.imp fun h' ⟨m', hm, s⟩ => ih16 ((IntKind.wrap .i64 ((i12) + (1))), m') _ _ ⟨s, ⟨rfl, rfl, rfl, rfl, trivial⟩⟩ hm)
  ·refine au 4 rfl ?_
   exact zf (s.imp fun _ q => ⟨rfl, q⟩)
theorem C_file_Good.of {B : RO} {b1 : Bool} {s2 : ByteArray} {h : Heap} {Q : Bool → Heap → Prop} (s : S_file_Good B b1 s2 h Q) : C_file_Good B b1 s2 h Q := by
 refine zspec Tryz.func118 [ResultVar.tmp 2] rfl rfl rfl rfl rfl ?_
 refine au 2 rfl ?_
 refine zbn s rfl rfl rfl fun k4 h5 s => ?_
 refine au 5 rfl ?_
 refine zl s rfl rfl TF.agg_9 fun s6 s => ?_
 refine zg rfl (sem_lenStr s6 rfl TF.isStr_9 ?_)
 refine zt s rfl rfl rfl binI_leq_t binI_leq_f (fun s => ?_) fun s => ?_
 ·refine au 2 rfl ?_
  refine zl s rfl rfl TF.agg_4 fun b7 s => ?_
  cases b7
  ·replace s := s.2 rfl
   refine au 2 rfl ?_
   refine zl s rfl rfl TF.agg_9 fun s8 s => ?_
   refine zg rfl (sem_strEq s8 (ByteArray.mk #[]) rfl rfl ?_)
   refine au 4 rfl ?_
   exact zr (s.imp fun _ q => ⟨_, rfl, q⟩)
  ·replace s := s.1 rfl
   refine au 8 rfl ?_
   exact zr (s.imp fun _ q => ⟨_, rfl, q⟩)
 ·refine au 11 rfl ?_
  exact zr (s.imp fun _ q => ⟨_, rfl, q⟩)
theorem C_cell_Row_file_File_Set.of {B : RO} {p1 : Option Addr} {i2 : Int} {b3 : Bool} {s4 : ByteArray} {i5 : Int} {h : Heap} {Q : Bool → Heap → Prop} (s : S_cell_Row_file_File_Set B p1 i2 b3 s4 i5 h Q) : C_cell_Row_file_File_Set B p1 i2 b3 s4 i5 h Q := by
 refine zspec Tryz.func119 [ResultVar.tmp 8] rfl rfl rfl rfl rfl ?_
 refine au 2 rfl ?_
 refine zbn s rfl rfl rfl fun k7 h8 s => ?_
 refine au 7 rfl ?_
 refine zcall s rfl rfl TF.goes_120 ?_
 rintro _ h9 ⟨b10, rfl, s⟩
 cases b10
 ·replace s := s.2 rfl
  refine au 7 rfl ?_
  exact zr (s.imp fun _ q => ⟨_, rfl, q⟩)
 ·replace s := s.1 rfl
  refine au 5 rfl ?_
  refine Run.drawM (fun h' => h' = h9) [9] ⟨[0, 1, 2, 4, 0, 0, 0, 96, 255, 511], [1023, 1022, 1021, 1019, 1023, 1023, 1023, 927, 999, 639], [0, 1, 3, 7, 0, 0, 0, 96, 255, 511], 512⟩ (.q 0 (.q 1 (.q 2 (.q 3 (.q 4 (.q 5 (.q 6 (.q 7 (.q 8 (.x 9 .nil .no)))))))))) TF.mixed (by kernel_rfl) rfl ?_
  refine auT 1 rfl ?_
  obtain ⟨A11, e12, s⟩ := s
  refine zqe rfl (sem_nilCheck A11 (congrArg Value.pointer e12) ⟨rfl, rfl⟩) ?_
  refine auT 1 rfl ?_
  obtain ⟨a13, n14, c15, hl, s⟩ := s
  refine zqe rfl (sem_load1 A11 ((.slice a13 n14 c15)) rfl TF.agg_217 hl ⟨rfl, rfl⟩) ?_
  refine auT 1 rfl ?_
  obtain ⟨b16, s17, hl, s⟩ := s
  refine zqe rfl (sem_loadN ⟨k7, 0, none⟩ [(.bool b16), (.string s17)] rfl TF.agg_119 TF.sz_119 hl ⟨rfl, rfl⟩) ?_
  refine auT 1 rfl ?_
  refine zqe rfl (sem_buildSL [(0, (.agg #[(.bool b16), (.string s17)])), (1, (.int .i64 (i5)))] [(.bool b16), (.string s17), (.int .i64 (i5))] TF.zero_216 TF.places_216 rfl rfl ⟨rfl, rfl⟩) ?_
  obtain ⟨A18, e19, hi0, hi1, s⟩ := s
  refine zqe rfl (sem_indexAddrS A18 n14 c15 .i64 (i2) (congrArg (fun a => Value.slice a n14 c15) e19) rfl TF.slc_217 hi0 hi1 ⟨rfl, rfl⟩) ?_
  obtain ⟨h20, hst, s⟩ := s
  refine ⟨zo0 rfl (sem_storeN (Addr.add A18 (Int.toNat (i2) * 3)) [(.bool b16), (.string s17), (.int .i64 (i5))] h20 rfl rfl TF.sz_216 hst ?_), trivial⟩
  refine ⟨fun hz => Bool.noConfusion hz, ?_⟩
  refine au 4 rfl ?_
  exact zr (s.imp fun _ q => ⟨_, rfl, q⟩)
theorem C_cell_Row_file_File_is.of {B : RO} {p1 : Option Addr} {i2 : Int} {h : Heap} {Q : Bool → Heap → Prop} (s : S_cell_Row_file_File_is B p1 i2 h Q) : C_cell_Row_file_File_is B p1 i2 h Q := by
 refine zspec Tryz.func120 [ResultVar.tmp 4] rfl rfl rfl rfl rfl ?_
 refine au 7 rfl ?_
 by_cases hb4 : p1 = none
 ·replace s := s.1 hb4
  refine zg rfl (sem_ptrNilT p1 (.inr rfl) false rfl rfl TF.ptr_182 hb4 rfl ?_)
  refine au 15 rfl ?_
  exact zr (s.imp fun _ q => ⟨_, rfl, q⟩)
 ·replace s := s.2 hb4
  refine zg rfl (sem_ptrNilF p1 (.inr rfl) true rfl rfl TF.ptr_182 hb4 rfl ?_)
  refine au 2 rfl ?_
  refine zt s rfl rfl rfl binI_geq_t binI_geq_f (fun s => ?_) fun s => ?_
  ·refine au 4 rfl ?_
   refine znil s rfl rfl fun A5 s => ?_
   refine au 1 rfl ?_
   refine Run.ldSl s fun a7 n8 c9 h10 hl s => ?_
   refine zg rfl (sem_load1 A5 ((.slice a7 n8 c9)) rfl TF.agg_217 hl ?_)
   refine zg rfl (sem_lenSl a7 n8 c9 rfl TF.sl_217 ?_)
   refine au 4 rfl ?_
   exact zr (s.imp fun _ q => ⟨_, rfl, q⟩)
  ·refine au 12 rfl ?_
   exact zr (s.imp fun _ q => ⟨_, rfl, q⟩)
end Go.Proofs.YtgldgabefiialaaGreat.H
