/- What the law's proof stands on, part 4. No condition. -/
import Derived.Test.YtgldgabefiialaaGreatG3
namespace Go.Proofs.YtgldgabefiialaaGreat.H
open Go
set_option linter.unusedVariables false
set_option maxRecDepth 100000
set_option maxHeartbeats 4000000
theorem C_countermandlaw20_AttemptLands.of {B : RO} {a1 : Option Addr} {n2 : Nat} {c3 : Nat} {a4 : Option Addr} {n5 : Nat} {c6 : Nat} {h : Heap} {Q : Bool → Heap → Prop} (s : S_countermandlaw20_AttemptLands B a1 n2 c3 a4 n5 c6 h Q) : C_countermandlaw20_AttemptLands B a1 n2 c3 a4 n5 c6 h Q := by
 refine zspec Tryz.func4 [ResultVar.tmp 4] rfl rfl rfl rfl rfl ?_
 refine au 7 rfl ?_
 refine zcall s rfl rfl TF.goes_9 ?_
 rintro _ h8 ⟨b9, rfl, s⟩
 cases b9
 ·replace s := s.2 rfl
  refine au 7 rfl ?_
  exact zr (s.imp fun _ q => ⟨_, rfl, q⟩)
 ·replace s := s.1 rfl
  refine au 4 rfl ?_
  refine Run.seqJ (fun e h11 => Agree [(0, (.slice a1 n2 c3)), (1, (.slice a4 n5 c6))] e ∧ S_countermandlaw20_AttemptLands_J1 B a1 n2 c3 a4 n5 c6 h11 Q) ?_ fun j10 => ?_
  ·rintro e h11 ⟨hag, s⟩
   refine Run.env hag ?_; clear hag
   refine au 3 rfl ?_
   refine zg rfl (sem_buildAL [] [(.int .i64 (0)), (.int .i64 (0)), (.int .i64 (0)), (.int .i64 (0))] TF.zero_26 TF.arr_26 rfl rfl ?_)
   refine zcall s rfl rfl TF.goes_10 ?_
   rintro _ h12 ⟨p13, rfl, s⟩
   refine au 2 rfl ?_
   refine Run.seqJ (fun e h15 => Agree [(5, (.pointer p13))] e ∧ S_countermandlaw20_AttemptLands_J2 B p13 h15 Q) ?_ fun j14 => ?_
   ·rintro e h15 ⟨hag, s⟩
    refine Run.env hag ?_; clear hag
    refine au 3 rfl ?_
    refine znil s rfl rfl fun A16 s => ?_
    refine au 1 rfl ?_
    refine zl s rfl rfl TF.agg_29 fun p18 s => ?_
    refine zcall s rfl rfl TF.goes_16 ?_
    rintro _ h19 ⟨l20, s21, s22, s23, rfl, s⟩
    refine au 3 rfl ?_
    refine zal s rfl TF.zero_55 rfl fun k24 h25 s => ?_
    refine zal s rfl TF.zero_56 rfl fun k26 h27 s => ?_
    obtain ⟨hln, h28, hst, s⟩ := s
    refine zg0 rfl (sem_storeN ⟨k24, 0, none⟩ l20 h28 rfl rfl (TF.sz_55.trans (congrArg some hln.symm)) hst ?_)
    refine zsn s rfl rfl rfl TF.sz_56 rfl fun h29 s => ?_
    refine au 2 rfl ?_
    obtain ⟨A31, e32, s⟩ := s
    obtain ⟨p35, hl, s⟩ := s
    have f36 := hl
    obtain ⟨A37, e38, s⟩ := s
    obtain ⟨i41, hl, s⟩ := s
    have f42 := hl
    obtain ⟨A44, e45, s⟩ := s
    obtain ⟨p48, hl, s⟩ := s
    have f49 := hl
    refine Run.drawM (fun h' => cellH B h' A31 = some (.pointer p35) ∧ cellH B h' (Addr.add A37 3) = some (.int .i64 (i41)) ∧ cellH B h' (Addr.add A44 1) = some (.pointer p48) ∧ True) [] ⟨[0, 1, 2, 4, 8, 16, 32, 0, 128, 256, 512, 1024, 2175, 8191], [16383, 16382, 16381, 16379, 16375, 16367, 16351, 16383, 16255, 16127, 15871, 15359, 16319, 14335], [0, 0, 0, 0, 0, 0, 0, 0, 0, 0, 0, 0, 0, 0], 0⟩ (.q 0 (.q 1 (.q 2 (.q 3 (.q 4 (.q 5 (.q 6 (.q 7 (.q 8 (.q 9 (.q 10 (.x 11 (.q 12 (.q 13 .nil)) .no)))))))))))) TF.mixed (by kernel_rfl) ⟨f36, f42, f49, trivial⟩ ?_
    refine auT 1 rfl ?_
    refine zq rfl (fun _ hC => sem_nilCheck A31 (congrArg Value.pointer e32) ⟨rfl, rfl⟩) ?_
    refine auT 1 rfl ?_
    refine zq rfl (fun _ hC => sem_load1 A31 ((.pointer p35)) rfl TF.agg_29 hC.1 ⟨rfl, rfl⟩) ?_
    refine zq rfl (fun _ hC => sem_nilCheck A37 (congrArg Value.pointer e38) ⟨rfl, rfl⟩) ?_
    refine auT 1 rfl ?_
    refine zq rfl (fun _ hC => sem_load1 (Addr.add A37 3) ((.int .i64 (i41))) rfl TF.agg_3 hC.2.1 ⟨rfl, rfl⟩) ?_
    refine auT 1 rfl ?_
    refine zq rfl (fun _ hC => sem_nilCheck A44 (congrArg Value.pointer e45) ⟨rfl, rfl⟩) ?_
    refine auT 1 rfl ?_
    refine zq rfl (fun _ hC => sem_load1 (Addr.add A44 1) ((.pointer p48)) rfl TF.agg_30 hC.2.2.1 ⟨rfl, rfl⟩) ?_
    refine ⟨zo rfl (sem_callL [(.pointer p48)] (TF.goes_13) rfl rfl (Spec.mono s fun v h50 hv => ?_)), trivial⟩
    obtain ⟨b51, rfl, s⟩ := hv
    cases b51
    ·replace s := s.2 rfl
     obtain ⟨g52, g53, g54, s⟩ := s
     refine ⟨fun _ => ⟨g52, g53, g54, trivial⟩, ?_⟩
     refine auT 2 rfl ?_
     refine au 3 rfl ?_
     refine znil s rfl rfl fun A55 s => ?_
     refine au 1 rfl ?_
     refine zl s rfl rfl TF.agg_30 fun p57 s => ?_
     refine zcall s rfl rfl TF.goes_14 ?_
     rintro _ h58 ⟨b59, rfl, s⟩
     cases b59
     ·replace s := s.2 rfl
      refine au 5 rfl ?_
      refine znil s rfl rfl fun A60 s => ?_
      refine au 1 rfl ?_
      refine zl s rfl rfl TF.agg_29 fun p62 s => ?_
      refine zcall s rfl rfl TF.goes_16 ?_
      rintro _ h63 ⟨l64, s65, s66, s67, rfl, s⟩
      refine au 3 rfl ?_
      refine zal s rfl TF.zero_55 rfl fun k68 h69 s => ?_
      refine zal s rfl TF.zero_56 rfl fun k70 h71 s => ?_
      obtain ⟨hln, h72, hst, s⟩ := s
      refine zg0 rfl (sem_storeN ⟨k68, 0, none⟩ l64 h72 rfl rfl (TF.sz_55.trans (congrArg some hln.symm)) hst ?_)
      refine zsn s rfl rfl rfl TF.sz_56 rfl fun h73 s => ?_
      refine au 13 rfl ?_
      obtain ⟨l74, nl74, hl, s⟩ := s
      refine zg rfl (sem_loadN ⟨k68, 0, none⟩ l74 rfl TF.agg_55 (TF.sz_55.trans (congrArg some nl74.symm)) hl ?_)
      obtain ⟨l75, nl75, hl, s⟩ := s
      refine zg rfl (sem_loadN ⟨k24, 0, none⟩ l75 rfl TF.agg_55 (TF.sz_55.trans (congrArg some nl75.symm)) hl ?_)
      obtain ⟨hi0, hi1, s⟩ := s
      by_cases hb76 : eqL l74 l75 = true
      ·replace s := s.1 hb76
       refine zg rfl (sem_aggEq l74 l75 _ (true) (.inl rfl) rfl rfl TF.agg_55 TF.flat_55 TF.eqg_55 hi0 hi1 (eqLT_eql hb76) ?_)
       refine au 3 rfl ?_
       refine znil s rfl rfl fun A77 s => ?_
       refine au 1 rfl ?_
       refine zl s rfl rfl TF.agg_29 fun p79 s => ?_
       refine znil s rfl rfl fun A80 s => ?_
       refine au 1 rfl ?_
       refine zl s rfl rfl TF.agg_3 fun i82 s => ?_
       refine au 5 rfl ?_
       exact zr (s.imp fun _ q => ⟨_, rfl, q⟩)
      ·replace s := s.2 hb76
       refine zg rfl (sem_aggEq l74 l75 _ (false) (.inl rfl) rfl rfl TF.agg_55 TF.flat_55 TF.eqg_55 hi0 hi1 (eqLF_eql hb76) ?_)
       refine au 14 rfl ?_
       exact zr (s.imp fun _ q => ⟨_, rfl, q⟩)
     ·replace s := s.1 rfl
      refine au 5 rfl ?_
      refine znil s rfl rfl fun A83 s => ?_
      refine au 1 rfl ?_
      refine zl s rfl rfl TF.agg_29 fun p85 s => ?_
      refine zcall s rfl rfl TF.goes_16 ?_
      rintro _ h86 ⟨l87, s88, s89, s90, rfl, s⟩
      refine au 3 rfl ?_
      refine zal s rfl TF.zero_55 rfl fun k91 h92 s => ?_
      refine zal s rfl TF.zero_56 rfl fun k93 h94 s => ?_
      obtain ⟨hln, h95, hst, s⟩ := s
      refine zg0 rfl (sem_storeN ⟨k91, 0, none⟩ l87 h95 rfl rfl (TF.sz_55.trans (congrArg some hln.symm)) hst ?_)
      refine zsn s rfl rfl rfl TF.sz_56 rfl fun h96 s => ?_
      refine au 30 rfl ?_
      exact zr (s.imp fun _ q => ⟨_, rfl, q⟩)
    ·replace s := s.1 rfl
     obtain ⟨g97, g98, g99, s⟩ := s
     refine ⟨fun _ => ⟨g97, g98, g99, trivial⟩, ?_⟩
     refine auT 2 rfl ?_
     refine au 3 rfl ?_
     refine znil s rfl rfl fun A100 s => ?_
     refine au 1 rfl ?_
     refine zl s rfl rfl TF.agg_30 fun p102 s => ?_
     refine zcall s rfl rfl TF.goes_14 ?_
     rintro _ h103 ⟨b104, rfl, s⟩
     cases b104
     ·replace s := s.2 rfl
      refine au 5 rfl ?_
      refine znil s rfl rfl fun A105 s => ?_
      refine au 1 rfl ?_
      refine zl s rfl rfl TF.agg_29 fun p107 s => ?_
      refine zcall s rfl rfl TF.goes_16 ?_
      rintro _ h108 ⟨l109, s110, s111, s112, rfl, s⟩
      refine au 3 rfl ?_
      refine zal s rfl TF.zero_55 rfl fun k113 h114 s => ?_
      refine zal s rfl TF.zero_56 rfl fun k115 h116 s => ?_
      obtain ⟨hln, h117, hst, s⟩ := s
      refine zg0 rfl (sem_storeN ⟨k113, 0, none⟩ l109 h117 rfl rfl (TF.sz_55.trans (congrArg some hln.symm)) hst ?_)
      refine zsn s rfl rfl rfl TF.sz_56 rfl fun h118 s => ?_
      refine au 9 rfl ?_
      refine Run.seqJ (fun e h121 => ∃ A120 : Addr, Agree [(5, (.pointer p13)), (16, (.int .i64 (i41))), (18, (.bool false)), (19, (.pointer (some ⟨k113, 0, none⟩))), (22, (.pointer (some A120)))] e ∧ S_countermandlaw20_AttemptLands_J3 B p13 i41 k113 A120 h121 Q) ?_ fun j119 => ?_
      ·rintro e h121 ⟨A120, hag, s⟩
       refine Run.env hag ?_; clear hag
       refine au 3 rfl ?_
       refine znil s rfl rfl fun A122 s => ?_
       refine au 1 rfl ?_
       refine zl s rfl rfl TF.agg_29 fun p124 s => ?_
       refine zcall s rfl rfl TF.goes_20 ?_
       rintro _ h125 ⟨l126, rfl, s⟩
       refine zal s rfl TF.zero_65 rfl fun k127 h128 s => ?_
       obtain ⟨hln, h129, hst, s⟩ := s
       refine zg0 rfl (sem_storeN ⟨k127, 0, none⟩ l126 h129 rfl rfl (TF.sz_65.trans (congrArg some hln.symm)) hst ?_)
       refine au 1 rfl ?_
       refine Run.seqJ (fun e h131 => Agree [(5, (.pointer p13)), (16, (.int .i64 (i41))), (18, (.bool false)), (19, (.pointer (some ⟨k113, 0, none⟩))), (22, (.pointer (some A120))), (23, (.pointer (some ⟨k127, 0, none⟩)))] e ∧ S_countermandlaw20_AttemptLands_J4 B p13 i41 k113 A120 k127 h131 Q) ?_ fun j130 => ?_
       ·rintro e h131 ⟨hag, s⟩
        refine Run.env hag ?_; clear hag
        refine au 29 rfl ?_
        exact zr (s.imp fun _ q => ⟨_, rfl, q⟩)
       refine au 5 rfl ?_
       obtain ⟨J137, m135, h0, s⟩ := s
       refine Run.of_fin (h0.imp fun h' h0 => ?_)
       refine Run.loop (σ := Int × Nat) (fun x e h => J137 x.1 x.2 h ∧ Agree [(5, (.pointer p13)), (16, (.int .i64 (i41))), (18, (.bool false)), (19, (.pointer (some ⟨k113, 0, none⟩))), (22, (.pointer (some A120))), (23, (.pointer (some ⟨k127, 0, none⟩))), (189, (.int .i64 (x.1)))] e) (fun x => x.2) ((0), m135) ⟨h0, ⟨rfl, rfl, rfl, rfl, rfl, rfl, rfl, trivial⟩⟩ ?_; clear h0
       rintro ⟨i132, m134⟩ e h133 ⟨hJ, hag⟩ ih136
       have s := s i132 m134 h133 hJ; clear hJ
       refine Run.env hag ?_; clear hag
       refine au 2 rfl ?_
       refine zt s rfl rfl rfl binI_lss_t binI_lss_f (fun s => ?_) fun s => ?_
       ·refine au 15 rfl ?_
        obtain ⟨hi0, hi1, s⟩ := s
        refine zg rfl (sem_indexAddrA ⟨k127, 0, none⟩ .i64 (i132) rfl rfl TF.arr_63 hi0 hi1 ?_)
        obtain ⟨i138, i139, i140, i141, i142, i143, i144, i145, hl, s⟩ := s
        refine zn hl rfl rfl TF.agg_49 TF.sz_49 rfl ?_
        refine au 3 rfl ?_
        obtain ⟨J151, m149, h0, s⟩ := s
        refine Run.of_fin (h0.imp fun h' h0 => ?_)
        refine Run.loop (σ := Int × Nat) (fun x e h => J151 x.1 x.2 h ∧ Agree [(5, (.pointer p13)), (16, (.int .i64 (i41))), (18, (.bool false)), (19, (.pointer (some ⟨k113, 0, none⟩))), (22, (.pointer (some A120))), (23, (.pointer (some ⟨k127, 0, none⟩))), (189, (.int .i64 (i132))), (195, (.agg #[(.int .i64 (i138)), (.int .i64 (i139)), (.int .i64 (i140)), (.int .i64 (i141)), (.int .i64 (i142)), (.int .i64 (i143)), (.int .i64 (i144)), (.int .i64 (i145))])), (196, (.int .i64 (x.1)))] e) (fun x => x.2) ((0), m149) ⟨h0, ⟨rfl, rfl, rfl, rfl, rfl, rfl, rfl, rfl, rfl, trivial⟩⟩ ?_; clear h0
        rintro ⟨i146, m148⟩ e h147 ⟨hJ, hag⟩ ih150
        have s := s i146 m148 h147 hJ; clear hJ
        refine Run.env hag ?_; clear hag
        refine au 2 rfl ?_
        refine zt s rfl rfl rfl binI_lss_t binI_lss_f (fun s => ?_) fun s => ?_
        ·refine au 8 rfl ?_
         obtain ⟨hi0, hi1, i152, hix, s⟩ := s
         refine zg rfl (sem_indexArr #[(.int .i64 (i138)), (.int .i64 (i139)), (.int .i64 (i140)), (.int .i64 (i141)), (.int .i64 (i142)), (.int .i64 (i143)), (.int .i64 (i144)), (.int .i64 (i145))] (.int .i64 (i152)) .i64 (i146) rfl rfl TF.arr_49 hi0 hi1 hix ?_)
         refine au 6 rfl ?_
         refine zl s rfl rfl TF.agg_3 fun i153 s => ?_
         refine zt s rfl rfl rfl binI_gtr_t binI_gtr_f (fun s => ?_) fun s => ?_
         ·refine au 6 rfl ?_
          exact zr (s.imp fun _ q => ⟨_, rfl, q⟩)
         ·refine au 8 rfl ?_
          exact Run.of_fin (s.imp fun h' ⟨m', hm, s⟩ => ih150 ((IntKind.wrap .i64 ((i146) + (1))), m') _ _ ⟨s, ⟨rfl, rfl, rfl, rfl, rfl, rfl, rfl, rfl, rfl, trivial⟩⟩ hm)
        ·refine au 9 rfl ?_
         exact Run.of_fin (s.imp fun h' ⟨m', hm, s⟩ => ih136 ((IntKind.wrap .i64 ((i132) + (1))), m') _ _ ⟨s, ⟨rfl, rfl, rfl, rfl, rfl, rfl, rfl, trivial⟩⟩ hm)
       ·refine au 4 rfl ?_
        exact Run.of_fin (s.imp fun h' s => j130 _ _ ⟨⟨rfl, rfl, rfl, rfl, rfl, rfl, trivial⟩, s⟩)
      obtain ⟨l154, nl154, hl, s⟩ := s
      have f155 := hl
      obtain ⟨s156, s157, s158, hl, s⟩ := s
      have f159 := hl
      obtain ⟨A161, e162, s⟩ := s
      obtain ⟨a165, n166, c167, hl, s⟩ := s
      have f168 := hl
      refine Run.drawM (fun h' => CellsAt B h' ⟨k24, 0, none⟩ 0 l154 ∧ CellsAt B h' ⟨k26, 0, none⟩ 0 [(.string s156), (.string s157), (.string s158)] ∧ cellH B h' (Addr.add A161 2) = some (.slice a165 n166 c167) ∧ True) [12] ⟨[0, 0, 0, 4, 8, 16, 35, 64, 128, 128, 0, 1535, 4095], [8191, 8191, 8191, 8187, 8183, 8175, 8156, 8127, 8063, 8063, 8191, 7935, 6655], [0, 0, 0, 4, 12, 28, 63, 127, 255, 255, 0, 1535, 4095], 4096⟩ (.q 0 (.q 1 (.q 2 (.q 3 (.q 4 (.q 5 (.x 6 (.q 7 (.q 8 (.q 9 (.x 10 (.q 11 (.x 12 .nil .no)) .no)))) (.x 10 (.x 6 (.q 7 (.q 8 (.q 9 (.q 11 (.x 12 .nil .no))))) .no) .no)))))))) TF.mixed (by kernel_rfl) ⟨f155, f159, f168, trivial⟩ ?_
      refine zq rfl (fun _ hC => sem_loadN ⟨k24, 0, none⟩ l154 rfl TF.agg_55 (TF.sz_55.trans (congrArg some nl154.symm)) hC.1 ⟨rfl, rfl⟩) ?_
      refine zq rfl (fun _ hC => sem_loadN ⟨k26, 0, none⟩ [(.string s156), (.string s157), (.string s158)] rfl TF.agg_56 TF.sz_56 hC.2.1 ⟨rfl, rfl⟩) ?_
      refine auT 1 rfl ?_
      refine zq rfl (fun _ hC => sem_nilCheck A161 (congrArg Value.pointer e162) ⟨rfl, rfl⟩) ?_
      refine auT 1 rfl ?_
      refine zq rfl (fun _ hC => sem_load1 (Addr.add A161 2) ((.slice a165 n166 c167)) rfl TF.agg_31 hC.2.2.1 ⟨rfl, rfl⟩) ?_
      refine RunT.joinJ (t := (.q 11 (.x 12 .nil .no))) (fun e h195 => ∃ A192 : Addr, ∃ i193 : Int, ∃ l194 : List Value, Agree [(5, (.pointer p13)), (16, (.int .i64 (i41))), (18, (.bool false)), (19, (.pointer (some ⟨k113, 0, none⟩))), (22, (.pointer (some A192))), (182, (.int .i64 (i193))), (183, (.agg (List.toArray l194)))] e ∧ CellsAt B h195 ⟨k24, 0, none⟩ 0 l154 ∧ CellsAt B h195 ⟨k26, 0, none⟩ 0 [(.string s156), (.string s157), (.string s158)] ∧ cellH B h195 (Addr.add A161 2) = some (.slice a165 n166 c167) ∧ S_countermandlaw20_AttemptLands_J5 B p13 k24 k26 i41 k113 l154 s156 s157 s158 A161 a165 n166 c167 A192 i193 l194 h195 Q) ?_ fun j191 => ?_
      ·rintro e h195 ⟨A192, i193, l194, hag, g196, g197, g198, s⟩
       refine RunT.env hag ?_; clear hag
       refine auT 1 rfl ?_
       obtain ⟨hln, h199, hst, s⟩ := s
       refine ⟨zo0 rfl (sem_storeN A192 l194 h199 rfl rfl (TF.sz_55.trans (congrArg some hln.symm)) hst ?_), trivial⟩
       refine ⟨fun hz => Bool.noConfusion hz, ?_⟩
       exact Run.of_fin (s.imp fun h' s => j119 _ _ ⟨A192, ⟨rfl, rfl, rfl, rfl, rfl, trivial⟩, s⟩)
      refine ⟨?_, ?_, trivial⟩
      ·have s := s.1
       refine zo rfl (sem_callL [(.agg (List.toArray l154)), (.agg #[(.string s156), (.string s157), (.string s158)]), (.slice a165 n166 c167)] (TF.goes_19) rfl rfl (Spec.mono s fun v h200 hv => ?_))
       obtain ⟨i201, l202, rfl, s⟩ := hv
       obtain ⟨g203, g204, g205, s⟩ := s
       refine ⟨fun _ => ⟨g203, g204, g205, trivial⟩, ?_⟩
       refine auT 3 rfl ?_
       refine ⟨zo rfl (sem_allocN [(.int .i64 (0)), (.int .i64 (0)), (.int .i64 (0)), (.int .i64 (0)), (.int .i64 (0)), (.int .i64 (0)), (.int .i64 (0)), (.int .i64 (0)), (.bool false), (.string ByteArray.empty), (.bool false), (.string ByteArray.empty), (.bool false), (.string ByteArray.empty), (.bool false), (.string ByteArray.empty), (.bool false), (.string ByteArray.empty), (.bool false), (.string ByteArray.empty), (.int .i64 (0)), (.int .i64 (0)), (.int .i64 (0))] TF.zero_55 (fun k206 hb1 hb2 h207 hb3 => ?_)), trivial⟩
       have s := s k206 hb1 hb2 h207 hb3
       obtain ⟨g208, g209, g210, s⟩ := s
       refine ⟨fun _ => ⟨g208, g209, g210, trivial⟩, ?_⟩
       exact j191 _ _ ⟨⟨k206, 0, none⟩, (i201), l202, ⟨rfl, rfl, rfl, rfl, rfl, rfl, rfl, trivial⟩, g208, g209, g210, s⟩
      ·have s := s.2
       refine zo rfl (sem_allocN [(.int .i64 (0)), (.int .i64 (0)), (.int .i64 (0)), (.int .i64 (0)), (.int .i64 (0)), (.int .i64 (0)), (.int .i64 (0)), (.int .i64 (0)), (.bool false), (.string ByteArray.empty), (.bool false), (.string ByteArray.empty), (.bool false), (.string ByteArray.empty), (.bool false), (.string ByteArray.empty), (.bool false), (.string ByteArray.empty), (.bool false), (.string ByteArray.empty), (.int .i64 (0)), (.int .i64 (0)), (.int .i64 (0))] TF.zero_55 (fun k211 hb1 hb2 h212 hb3 => ?_))
       have s := s k211 hb1 hb2 h212 hb3
       obtain ⟨g213, g214, g215, s⟩ := s
       refine ⟨fun _ => ⟨g213, g214, g215, trivial⟩, ?_⟩
       refine ⟨zo rfl (sem_callL [(.agg (List.toArray l154)), (.agg #[(.string s156), (.string s157), (.string s158)]), (.slice a165 n166 c167)] (TF.goes_19) rfl rfl (Spec.mono s fun v h216 hv => ?_)), trivial⟩
       obtain ⟨i217, l218, rfl, s⟩ := hv
       obtain ⟨g219, g220, g221, s⟩ := s
       refine ⟨fun _ => ⟨g219, g220, g221, trivial⟩, ?_⟩
       refine auT 3 rfl ?_
       exact j191 _ _ ⟨⟨k211, 0, none⟩, (i217), l218, ⟨rfl, rfl, rfl, rfl, rfl, rfl, rfl, trivial⟩, g219, g220, g221, s⟩
     ·replace s := s.1 rfl
      refine au 5 rfl ?_
      refine znil s rfl rfl fun A222 s => ?_
      refine au 1 rfl ?_
      refine zl s rfl rfl TF.agg_29 fun p224 s => ?_
      refine zcall s rfl rfl TF.goes_16 ?_
      rintro _ h225 ⟨l226, s227, s228, s229, rfl, s⟩
      refine au 3 rfl ?_
      refine zal s rfl TF.zero_55 rfl fun k230 h231 s => ?_
      refine zal s rfl TF.zero_56 rfl fun k232 h233 s => ?_
      obtain ⟨hln, h234, hst, s⟩ := s
      refine zg0 rfl (sem_storeN ⟨k230, 0, none⟩ l226 h234 rfl rfl (TF.sz_55.trans (congrArg some hln.symm)) hst ?_)
      refine zsn s rfl rfl rfl TF.sz_56 rfl fun h235 s => ?_
      refine au 9 rfl ?_
      refine Run.seqJ (fun e h238 => ∃ A237 : Addr, Agree [(5, (.pointer p13)), (16, (.int .i64 (i41))), (18, (.bool true)), (19, (.pointer (some ⟨k230, 0, none⟩))), (22, (.pointer (some A237)))] e ∧ S_countermandlaw20_AttemptLands_J6 B p13 i41 k230 A237 h238 Q) ?_ fun j236 => ?_
      ·rintro e h238 ⟨A237, hag, s⟩
       refine Run.env hag ?_; clear hag
       refine au 3 rfl ?_
       refine znil s rfl rfl fun A239 s => ?_
       refine au 1 rfl ?_
       refine zl s rfl rfl TF.agg_29 fun p241 s => ?_
       refine zcall s rfl rfl TF.goes_20 ?_
       rintro _ h242 ⟨l243, rfl, s⟩
       refine zal s rfl TF.zero_65 rfl fun k244 h245 s => ?_
       obtain ⟨hln, h246, hst, s⟩ := s
       refine zg0 rfl (sem_storeN ⟨k244, 0, none⟩ l243 h246 rfl rfl (TF.sz_65.trans (congrArg some hln.symm)) hst ?_)
       refine au 1 rfl ?_
       refine Run.seqJ (fun e h248 => Agree [(5, (.pointer p13)), (16, (.int .i64 (i41))), (18, (.bool true)), (19, (.pointer (some ⟨k230, 0, none⟩))), (22, (.pointer (some A237))), (23, (.pointer (some ⟨k244, 0, none⟩)))] e ∧ S_countermandlaw20_AttemptLands_J7 B p13 i41 k230 A237 k244 h248 Q) ?_ fun j247 => ?_
       ·rintro e h248 ⟨hag, s⟩
        refine Run.env hag ?_; clear hag
        refine au 4 rfl ?_
        obtain ⟨l249, nl249, hl, s⟩ := s
        refine zg rfl (sem_loadN ⟨k230, 0, none⟩ l249 rfl TF.agg_55 (TF.sz_55.trans (congrArg some nl249.symm)) hl ?_)
        obtain ⟨l250, nl250, hl, s⟩ := s
        refine zg rfl (sem_loadN A237 l250 rfl TF.agg_55 (TF.sz_55.trans (congrArg some nl250.symm)) hl ?_)
        obtain ⟨hi0, hi1, s⟩ := s
        by_cases hb251 : eqL l249 l250 = true
        ·replace s := s.1 hb251
         refine zg rfl (sem_aggEq l249 l250 _ (true) (.inl rfl) rfl rfl TF.agg_55 TF.flat_55 TF.eqg_55 hi0 hi1 (eqLT_eql hb251) ?_)
         refine au 3 rfl ?_
         refine znil s rfl rfl fun A252 s => ?_
         refine au 1 rfl ?_
         refine zl s rfl rfl TF.agg_29 fun p254 s => ?_
         refine znil s rfl rfl fun A255 s => ?_
         refine au 1 rfl ?_
         refine zl s rfl rfl TF.agg_3 fun i257 s => ?_
         refine au 2 rfl ?_
         refine zt s rfl rfl rfl binI_eql_t binI_eql_f (fun s => ?_) fun s => ?_
         ·refine au 3 rfl ?_
          refine zl s rfl rfl TF.agg_3 fun i258 s => ?_
          refine au 6 rfl ?_
          exact zr (s.imp fun _ q => ⟨_, rfl, q⟩)
         ·refine au 10 rfl ?_
          exact zr (s.imp fun _ q => ⟨_, rfl, q⟩)
        ·replace s := s.2 hb251
         refine zg rfl (sem_aggEq l249 l250 _ (false) (.inl rfl) rfl rfl TF.agg_55 TF.flat_55 TF.eqg_55 hi0 hi1 (eqLF_eql hb251) ?_)
         refine au 22 rfl ?_
         exact zr (s.imp fun _ q => ⟨_, rfl, q⟩)
       refine au 5 rfl ?_
       obtain ⟨J264, m262, h0, s⟩ := s
       refine Run.of_fin (h0.imp fun h' h0 => ?_)
       refine Run.loop (σ := Int × Nat) (fun x e h => J264 x.1 x.2 h ∧ Agree [(5, (.pointer p13)), (16, (.int .i64 (i41))), (18, (.bool true)), (19, (.pointer (some ⟨k230, 0, none⟩))), (22, (.pointer (some A237))), (23, (.pointer (some ⟨k244, 0, none⟩))), (189, (.int .i64 (x.1)))] e) (fun x => x.2) ((0), m262) ⟨h0, ⟨rfl, rfl, rfl, rfl, rfl, rfl, rfl, trivial⟩⟩ ?_; clear h0
       rintro ⟨i259, m261⟩ e h260 ⟨hJ, hag⟩ ih263
       have s := s i259 m261 h260 hJ; clear hJ
       refine Run.env hag ?_; clear hag
       refine au 2 rfl ?_
       refine zt s rfl rfl rfl binI_lss_t binI_lss_f (fun s => ?_) fun s => ?_
       ·refine au 15 rfl ?_
        obtain ⟨hi0, hi1, s⟩ := s
        refine zg rfl (sem_indexAddrA ⟨k244, 0, none⟩ .i64 (i259) rfl rfl TF.arr_63 hi0 hi1 ?_)
        obtain ⟨i265, i266, i267, i268, i269, i270, i271, i272, hl, s⟩ := s
        refine zn hl rfl rfl TF.agg_49 TF.sz_49 rfl ?_
        refine au 3 rfl ?_
        obtain ⟨J278, m276, h0, s⟩ := s
        refine Run.of_fin (h0.imp fun h' h0 => ?_)
        refine Run.loop (σ := Int × Nat) (fun x e h => J278 x.1 x.2 h ∧ Agree [(5, (.pointer p13)), (16, (.int .i64 (i41))), (18, (.bool true)), (19, (.pointer (some ⟨k230, 0, none⟩))), (22, (.pointer (some A237))), (23, (.pointer (some ⟨k244, 0, none⟩))), (189, (.int .i64 (i259))), (195, (.agg #[(.int .i64 (i265)), (.int .i64 (i266)), (.int .i64 (i267)), (.int .i64 (i268)), (.int .i64 (i269)), (.int .i64 (i270)), (.int .i64 (i271)), (.int .i64 (i272))])), (196, (.int .i64 (x.1)))] e) (fun x => x.2) ((0), m276) ⟨h0, ⟨rfl, rfl, rfl, rfl, rfl, rfl, rfl, rfl, rfl, trivial⟩⟩ ?_; clear h0
        rintro ⟨i273, m275⟩ e h274 ⟨hJ, hag⟩ ih277
        have s := s i273 m275 h274 hJ; clear hJ
        refine Run.env hag ?_; clear hag
        refine au 2 rfl ?_
        refine zt s rfl rfl rfl binI_lss_t binI_lss_f (fun s => ?_) fun s => ?_
        ·refine au 8 rfl ?_
         obtain ⟨hi0, hi1, i279, hix, s⟩ := s
         refine zg rfl (sem_indexArr #[(.int .i64 (i265)), (.int .i64 (i266)), (.int .i64 (i267)), (.int .i64 (i268)), (.int .i64 (i269)), (.int .i64 (i270)), (.int .i64 (i271)), (.int .i64 (i272))] (.int .i64 (i279)) .i64 (i273) rfl rfl TF.arr_49 hi0 hi1 hix ?_)
         refine au 6 rfl ?_
         refine zl s rfl rfl TF.agg_3 fun i280 s => ?_
         refine zt s rfl rfl rfl binI_gtr_t binI_gtr_f (fun s => ?_) fun s => ?_
         ·refine au 6 rfl ?_
          exact zr (s.imp fun _ q => ⟨_, rfl, q⟩)
         ·refine au 8 rfl ?_
          exact Run.of_fin (s.imp fun h' ⟨m', hm, s⟩ => ih277 ((IntKind.wrap .i64 ((i273) + (1))), m') _ _ ⟨s, ⟨rfl, rfl, rfl, rfl, rfl, rfl, rfl, rfl, rfl, trivial⟩⟩ hm)
        ·refine au 9 rfl ?_
         exact Run.of_fin (s.imp fun h' ⟨m', hm, s⟩ => ih263 ((IntKind.wrap .i64 ((i259) + (1))), m') _ _ ⟨s, ⟨rfl, rfl, rfl, rfl, rfl, rfl, rfl, trivial⟩⟩ hm)
       ·refine au 4 rfl ?_
        exact Run.of_fin (s.imp fun h' s => j247 _ _ ⟨⟨rfl, rfl, rfl, rfl, rfl, rfl, trivial⟩, s⟩)
      obtain ⟨l281, nl281, hl, s⟩ := s
      have f282 := hl
      obtain ⟨s283, s284, s285, hl, s⟩ := s
      have f286 := hl
      obtain ⟨A288, e289, s⟩ := s
      obtain ⟨a292, n293, c294, hl, s⟩ := s
      have f295 := hl
      refine Run.drawM (fun h' => CellsAt B h' ⟨k24, 0, none⟩ 0 l281 ∧ CellsAt B h' ⟨k26, 0, none⟩ 0 [(.string s283), (.string s284), (.string s285)] ∧ cellH B h' (Addr.add A288 2) = some (.slice a292 n293 c294) ∧ True) [12] ⟨[0, 0, 0, 4, 8, 16, 35, 64, 128, 128, 0, 1535, 4095], [8191, 8191, 8191, 8187, 8183, 8175, 8156, 8127, 8063, 8063, 8191, 7935, 6655], [0, 0, 0, 4, 12, 28, 63, 127, 255, 255, 0, 1535, 4095], 4096⟩ (.q 0 (.q 1 (.q 2 (.q 3 (.q 4 (.q 5 (.x 6 (.q 7 (.q 8 (.q 9 (.x 10 (.q 11 (.x 12 .nil .no)) .no)))) (.x 10 (.x 6 (.q 7 (.q 8 (.q 9 (.q 11 (.x 12 .nil .no))))) .no) .no)))))))) TF.mixed (by kernel_rfl) ⟨f282, f286, f295, trivial⟩ ?_
      refine zq rfl (fun _ hC => sem_loadN ⟨k24, 0, none⟩ l281 rfl TF.agg_55 (TF.sz_55.trans (congrArg some nl281.symm)) hC.1 ⟨rfl, rfl⟩) ?_
      refine zq rfl (fun _ hC => sem_loadN ⟨k26, 0, none⟩ [(.string s283), (.string s284), (.string s285)] rfl TF.agg_56 TF.sz_56 hC.2.1 ⟨rfl, rfl⟩) ?_
      refine auT 1 rfl ?_
      refine zq rfl (fun _ hC => sem_nilCheck A288 (congrArg Value.pointer e289) ⟨rfl, rfl⟩) ?_
      refine auT 1 rfl ?_
      refine zq rfl (fun _ hC => sem_load1 (Addr.add A288 2) ((.slice a292 n293 c294)) rfl TF.agg_31 hC.2.2.1 ⟨rfl, rfl⟩) ?_
      refine RunT.joinJ (t := (.q 11 (.x 12 .nil .no))) (fun e h322 => ∃ A319 : Addr, ∃ i320 : Int, ∃ l321 : List Value, Agree [(5, (.pointer p13)), (16, (.int .i64 (i41))), (18, (.bool true)), (19, (.pointer (some ⟨k230, 0, none⟩))), (22, (.pointer (some A319))), (182, (.int .i64 (i320))), (183, (.agg (List.toArray l321)))] e ∧ CellsAt B h322 ⟨k24, 0, none⟩ 0 l281 ∧ CellsAt B h322 ⟨k26, 0, none⟩ 0 [(.string s283), (.string s284), (.string s285)] ∧ cellH B h322 (Addr.add A288 2) = some (.slice a292 n293 c294) ∧ S_countermandlaw20_AttemptLands_J8 B p13 k24 k26 i41 k230 l281 s283 s284 s285 A288 a292 n293 c294 A319 i320 l321 h322 Q) ?_ fun j318 => ?_
      ·rintro e h322 ⟨A319, i320, l321, hag, g323, g324, g325, s⟩
       refine RunT.env hag ?_; clear hag
       refine auT 1 rfl ?_
       obtain ⟨hln, h326, hst, s⟩ := s
       refine ⟨zo0 rfl (sem_storeN A319 l321 h326 rfl rfl (TF.sz_55.trans (congrArg some hln.symm)) hst ?_), trivial⟩
       refine ⟨fun hz => Bool.noConfusion hz, ?_⟩
       exact Run.of_fin (s.imp fun h' s => j236 _ _ ⟨A319, ⟨rfl, rfl, rfl, rfl, rfl, trivial⟩, s⟩)
      refine ⟨?_, ?_, trivial⟩
      ·have s := s.1
       refine zo rfl (sem_callL [(.agg (List.toArray l281)), (.agg #[(.string s283), (.string s284), (.string s285)]), (.slice a292 n293 c294)] (TF.goes_19) rfl rfl (Spec.mono s fun v h327 hv => ?_))
       obtain ⟨i328, l329, rfl, s⟩ := hv
       obtain ⟨g330, g331, g332, s⟩ := s
       refine ⟨fun _ => ⟨g330, g331, g332, trivial⟩, ?_⟩
       refine auT 3 rfl ?_
       refine ⟨zo rfl (sem_allocN [(.int .i64 (0)), (.int .i64 (0)), (.int .i64 (0)), (.int .i64 (0)), (.int .i64 (0)), (.int .i64 (0)), (.int .i64 (0)), (.int .i64 (0)), (.bool false), (.string ByteArray.empty), (.bool false), (.string ByteArray.empty), (.bool false), (.string ByteArray.empty), (.bool false), (.string ByteArray.empty), (.bool false), (.string ByteArray.empty), (.bool false), (.string ByteArray.empty), (.int .i64 (0)), (.int .i64 (0)), (.int .i64 (0))] TF.zero_55 (fun k333 hb1 hb2 h334 hb3 => ?_)), trivial⟩
       have s := s k333 hb1 hb2 h334 hb3
       obtain ⟨g335, g336, g337, s⟩ := s
       refine ⟨fun _ => ⟨g335, g336, g337, trivial⟩, ?_⟩
       exact j318 _ _ ⟨⟨k333, 0, none⟩, (i328), l329, ⟨rfl, rfl, rfl, rfl, rfl, rfl, rfl, trivial⟩, g335, g336, g337, s⟩
      ·have s := s.2
       refine zo rfl (sem_allocN [(.int .i64 (0)), (.int .i64 (0)), (.int .i64 (0)), (.int .i64 (0)), (.int .i64 (0)), (.int .i64 (0)), (.int .i64 (0)), (.int .i64 (0)), (.bool false), (.string ByteArray.empty), (.bool false), (.string ByteArray.empty), (.bool false), (.string ByteArray.empty), (.bool false), (.string ByteArray.empty), (.bool false), (.string ByteArray.empty), (.bool false), (.string ByteArray.empty), (.int .i64 (0)), (.int .i64 (0)), (.int .i64 (0))] TF.zero_55 (fun k338 hb1 hb2 h339 hb3 => ?_))
       have s := s k338 hb1 hb2 h339 hb3
       obtain ⟨g340, g341, g342, s⟩ := s
       refine ⟨fun _ => ⟨g340, g341, g342, trivial⟩, ?_⟩
       refine ⟨zo rfl (sem_callL [(.agg (List.toArray l281)), (.agg #[(.string s283), (.string s284), (.string s285)]), (.slice a292 n293 c294)] (TF.goes_19) rfl rfl (Spec.mono s fun v h343 hv => ?_)), trivial⟩
       obtain ⟨i344, l345, rfl, s⟩ := hv
       obtain ⟨g346, g347, g348, s⟩ := s
       refine ⟨fun _ => ⟨g346, g347, g348, trivial⟩, ?_⟩
       refine auT 3 rfl ?_
       exact j318 _ _ ⟨⟨k338, 0, none⟩, (i344), l345, ⟨rfl, rfl, rfl, rfl, rfl, rfl, rfl, trivial⟩, g346, g347, g348, s⟩
   refine au 3 rfl ?_
   refine zg rfl (sem_lenSl a4 n5 c6 rfl TF.sl_45 ?_)
   refine au 3 rfl ?_
   obtain ⟨J354, m352, h0, s⟩ := s
   refine Run.of_fin (h0.imp fun h' h0 => ?_)
   refine Run.loop (σ := Int × Nat) (fun x e h => J354 x.1 x.2 h ∧ Agree [(5, (.pointer p13)), (39, (.slice a4 n5 c6)), (40, (.int .i64 ((n5 : Nat)))), (41, (.int .i64 (x.1)))] e) (fun x => x.2) ((0), m352) ⟨h0, ⟨rfl, rfl, rfl, rfl, trivial⟩⟩ ?_; clear h0
   rintro ⟨i349, m351⟩ e h350 ⟨hJ, hag⟩ ih353
   have s := s i349 m351 h350 hJ; clear hJ
   refine Run.env hag ?_; clear hag
   refine au 2 rfl ?_
   refine zt s rfl rfl rfl binI_lss_t binI_lss_f (fun s => ?_) fun s => ?_
   ·refine au 8 rfl ?_
    obtain ⟨A355, e356, hi0, hi1, s⟩ := s
    refine zg rfl (sem_indexAddrS A355 n5 c6 .i64 (i349) (congrArg (fun a => Value.slice a n5 c6) e356) rfl TF.slc_45 hi0 hi1 ?_)
    obtain ⟨i357, i358, i359, i360, i361, s362, hl, s⟩ := s
    refine zn hl rfl rfl TF.agg_48 TF.sz_48 rfl ?_
    refine zal s rfl TF.zero_48 rfl fun k363 h364 s => ?_
    refine zsn s rfl rfl rfl TF.sz_48 rfl fun h365 s => ?_
    refine au 4 rfl ?_
    refine zl s rfl rfl TF.agg_3 fun i366 s => ?_
    refine au 4 rfl ?_
    refine zt s rfl rfl rfl binI_eql_t binI_eql_f (fun s => ?_) fun s => ?_
    ·refine au 6 rfl ?_
     refine znil s rfl rfl fun A367 s => ?_
     refine au 1 rfl ?_
     refine zl s rfl rfl TF.agg_29 fun p369 s => ?_
     refine zcall s rfl rfl TF.goes_16 ?_
     rintro _ h370 ⟨l371, s372, s373, s374, rfl, s⟩
     refine au 3 rfl ?_
     refine zal s rfl TF.zero_55 rfl fun k375 h376 s => ?_
     refine zal s rfl TF.zero_56 rfl fun k377 h378 s => ?_
     obtain ⟨hln, h379, hst, s⟩ := s
     refine zg0 rfl (sem_storeN ⟨k375, 0, none⟩ l371 h379 rfl rfl (TF.sz_55.trans (congrArg some hln.symm)) hst ?_)
     refine zsn s rfl rfl rfl TF.sz_56 rfl fun h380 s => ?_
     refine au 2 rfl ?_
     obtain ⟨A382, e383, s⟩ := s
     obtain ⟨p386, hl, s⟩ := s
     have f387 := hl
     obtain ⟨i389, i390, i391, i392, hl, s⟩ := s
     have f393 := hl
     refine Run.drawM (fun h' => cellH B h' (Addr.add A382 1) = some (.pointer p386) ∧ CellsAt B h' ⟨k363, 1, none⟩ 0 [(.int .i64 (i389)), (.int .i64 (i390)), (.int .i64 (i391)), (.int .u8 (i392))] ∧ True) [] ⟨[0, 1, 2, 4, 0, 16, 40, 64, 128, 128, 511, 2047], [4095, 4094, 4093, 4091, 4095, 4079, 4055, 4031, 3967, 3967, 3839, 3583], [0, 0, 0, 0, 0, 0, 0, 0, 0, 0, 0, 0], 0⟩ (.q 0 (.q 1 (.q 2 (.q 3 (.q 4 (.q 5 (.x 6 (.q 7 (.q 8 (.q 9 (.q 10 (.q 11 .nil))))) .no))))))) TF.mixed (by kernel_rfl) ⟨f387, f393, trivial⟩ ?_
     refine auT 1 rfl ?_
     refine zq rfl (fun _ hC => sem_nilCheck A382 (congrArg Value.pointer e383) ⟨rfl, rfl⟩) ?_
     refine auT 1 rfl ?_
     refine zq rfl (fun _ hC => sem_load1 (Addr.add A382 1) ((.pointer p386)) rfl TF.agg_30 hC.1 ⟨rfl, rfl⟩) ?_
     refine auT 1 rfl ?_
     refine zq rfl (fun _ hC => sem_loadN ⟨k363, 1, none⟩ [(.int .i64 (i389)), (.int .i64 (i390)), (.int .i64 (i391)), (.int .u8 (i392))] rfl TF.agg_38 TF.sz_38 hC.2.1 ⟨rfl, rfl⟩) ?_
     refine ⟨zo rfl (sem_callL [(.pointer p386), (.agg #[(.int .i64 (i389)), (.int .i64 (i390)), (.int .i64 (i391)), (.int .u8 (i392))])] (TF.goes_17) rfl rfl (Spec.mono s fun v h394 hv => ?_)), trivial⟩
     obtain ⟨i395, i396, rfl, s⟩ := hv
     obtain ⟨g397, g398, s⟩ := s
     refine ⟨fun _ => ⟨g397, g398, trivial⟩, ?_⟩
     refine auT 5 rfl ?_
     refine au 4 rfl ?_
     refine znil s rfl rfl fun A399 s => ?_
     refine au 1 rfl ?_
     refine zl s rfl rfl TF.agg_29 fun p401 s => ?_
     refine zcall s rfl rfl TF.goes_16 ?_
     rintro _ h402 ⟨l403, s404, s405, s406, rfl, s⟩
     refine au 3 rfl ?_
     refine zal s rfl TF.zero_55 rfl fun k407 h408 s => ?_
     refine zal s rfl TF.zero_56 rfl fun k409 h410 s => ?_
     obtain ⟨hln, h411, hst, s⟩ := s
     refine zg0 rfl (sem_storeN ⟨k407, 0, none⟩ l403 h411 rfl rfl (TF.sz_55.trans (congrArg some hln.symm)) hst ?_)
     refine zsn s rfl rfl rfl TF.sz_56 rfl fun h412 s => ?_
     refine au 3 rfl ?_
     obtain ⟨l413, nl413, hl, s⟩ := s
     refine zg rfl (sem_loadN ⟨k407, 0, none⟩ l413 rfl TF.agg_55 (TF.sz_55.trans (congrArg some nl413.symm)) hl ?_)
     obtain ⟨l414, nl414, hl, s⟩ := s
     refine zg rfl (sem_loadN ⟨k375, 0, none⟩ l414 rfl TF.agg_55 (TF.sz_55.trans (congrArg some nl414.symm)) hl ?_)
     obtain ⟨hi0, hi1, s⟩ := s
     by_cases hb415 : eqL l413 l414 = true
     ·replace s := s.1 hb415
      refine zg rfl (sem_aggEq l413 l414 _ (false) (.inr rfl) rfl rfl TF.agg_55 TF.flat_55 TF.eqg_55 hi0 hi1 (eqLT_neq hb415) ?_)
      refine au 7 rfl ?_
      refine zt s rfl rfl rfl binI_eql_t binI_eql_f (fun s => ?_) fun s => ?_
      ·refine au 5 rfl ?_
       refine znil s rfl rfl fun A416 s => ?_
       refine au 1 rfl ?_
       refine zl s rfl rfl TF.agg_30 fun p418 s => ?_
       refine zcall s rfl rfl TF.goes_14 ?_
       rintro _ h419 ⟨b420, rfl, s⟩
       refine au 3 rfl ?_
       exact zr (s.imp fun _ q => ⟨_, rfl, q⟩)
      ·refine au 6 rfl ?_
       refine zt s rfl rfl rfl binI_eql_t binI_eql_f (fun s => ?_) fun s => ?_
       ·refine au 2 rfl ?_
        obtain ⟨A423, e424, s⟩ := s
        obtain ⟨a427, n428, c429, hl, s⟩ := s
        have f430 := hl
        obtain ⟨i432, i433, i434, i435, hl, s⟩ := s
        have f436 := hl
        refine Run.drawM (fun h' => cellH B h' (Addr.add A423 2) = some (.slice a427 n428 c429) ∧ CellsAt B h' ⟨k363, 1, none⟩ 0 [(.int .i64 (i432)), (.int .i64 (i433)), (.int .i64 (i434)), (.int .u8 (i435))] ∧ True) [11] ⟨[0, 0, 2, 4, 8, 0, 32, 64, 144, 511, 1023, 1535], [4095, 4095, 4093, 4091, 4087, 4095, 4063, 4031, 3951, 4094, 3583, 2815], [0, 0, 2, 6, 14, 0, 32, 96, 254, 511, 1023, 2047], 2048⟩ (.q 0 (.q 1 (.q 2 (.q 3 (.q 4 (.q 5 (.q 6 (.x 7 (.x 8 (.q 9 (.q 10 (.x 11 .nil .no))) .no) .no)))))))) TF.mixed (by kernel_rfl) ⟨f430, f436, trivial⟩ ?_
        refine auT 2 rfl ?_
        refine zq rfl (fun _ hC => sem_nilCheck A423 (congrArg Value.pointer e424) ⟨rfl, rfl⟩) ?_
        refine auT 1 rfl ?_
        refine zq rfl (fun _ hC => sem_load1 (Addr.add A423 2) ((.slice a427 n428 c429)) rfl TF.agg_31 hC.1 ⟨rfl, rfl⟩) ?_
        refine auT 1 rfl ?_
        refine zq rfl (fun _ hC => sem_loadN ⟨k363, 1, none⟩ [(.int .i64 (i432)), (.int .i64 (i433)), (.int .i64 (i434)), (.int .u8 (i435))] rfl TF.agg_38 TF.sz_38 hC.2.1 ⟨rfl, rfl⟩) ?_
        refine ⟨zo rfl (sem_buildSliceL [(0, (.agg #[(.int .i64 (i432)), (.int .i64 (i433)), (.int .i64 (i434)), (.int .u8 (i435))]))] [(.int .i64 (i432)), (.int .i64 (i433)), (.int .i64 (i434)), (.int .u8 (i435))] TF.slc_31 TF.zero_38 rfl (by decide) (by decide) rfl rfl (fun k437 hb1 hb2 h438 hb3 => ?_)), trivial⟩
        have s := s k437 hb1 hb2 h438 hb3
        obtain ⟨g439, g440, s⟩ := s
        refine ⟨fun _ => ⟨g439, g440, trivial⟩, ?_⟩
        refine ⟨zo rfl (sem_appendL [(.slice a427 n428 c429), (.slice (some ⟨k437, 0, none⟩) 1 1)] rfl (semH_mono (fun v h441 hv => ?_) s)), trivial⟩
        obtain ⟨a442, n443, c444, rfl, s⟩ := hv
        obtain ⟨g445, g446, s⟩ := s
        refine ⟨fun _ => ⟨g445, g446, trivial⟩, ?_⟩
        obtain ⟨A447, e448, s⟩ := s
        refine zq rfl (fun _ _ => sem_nilCheck A447 (congrArg Value.pointer e448) ⟨rfl, rfl⟩) ?_
        refine auT 1 rfl ?_
        obtain ⟨h449, hst, s⟩ := s
        refine ⟨zo0 rfl (sem_store1 (Addr.add A447 2) ((.slice a442 n443 c444)) h449 rfl rfl rfl TF.sz_31 hst ?_), trivial⟩
        refine ⟨fun hz => Bool.noConfusion hz, ?_⟩
        refine au 6 rfl ?_
        exact Run.of_fin (s.imp fun h' ⟨m', hm, s⟩ => ih353 ((IntKind.wrap .i64 ((i349) + (1))), m') _ _ ⟨s, ⟨rfl, rfl, rfl, rfl, trivial⟩⟩ hm)
       ·refine au 9 rfl ?_
        exact Run.of_fin (s.imp fun h' ⟨m', hm, s⟩ => ih353 ((IntKind.wrap .i64 ((i349) + (1))), m') _ _ ⟨s, ⟨rfl, rfl, rfl, rfl, trivial⟩⟩ hm)
     ·replace s := s.2 hb415
      refine zg rfl (sem_aggEq l413 l414 _ (true) (.inr rfl) rfl rfl TF.agg_55 TF.flat_55 TF.eqg_55 hi0 hi1 (eqLF_neq hb415) ?_)
      refine au 6 rfl ?_
      exact zr (s.imp fun _ q => ⟨_, rfl, q⟩)
    ·refine au 5 rfl ?_
     refine zt s rfl rfl rfl binI_eql_t binI_eql_f (fun s => ?_) fun s => ?_
     ·refine au 6 rfl ?_
      obtain ⟨i450, i451, i452, i453, hl, s⟩ := s
      refine zn hl rfl rfl TF.agg_38 TF.sz_38 rfl ?_
      refine zcall s rfl rfl TF.goes_12 ?_
      rintro _ h454 ⟨rfl, s⟩
      refine au 7 rfl ?_
      exact Run.of_fin (s.imp fun h' ⟨m', hm, s⟩ => ih353 ((IntKind.wrap .i64 ((i349) + (1))), m') _ _ ⟨s, ⟨rfl, rfl, rfl, rfl, trivial⟩⟩ hm)
     ·refine au 5 rfl ?_
      refine zt s rfl rfl rfl binI_eql_t binI_eql_f (fun s => ?_) fun s => ?_
      ·refine au 3 rfl ?_
       refine Run.drawM (fun h' => h' = h365) [12] ⟨[0, 1, 2, 4, 8, 16, 32, 0, 128, 256, 0, 1024, 2624], [8191, 8190, 8189, 8187, 8183, 8175, 8159, 8191, 8063, 7935, 8191, 7167, 5567], [0, 1, 3, 7, 15, 31, 63, 0, 128, 384, 0, 1024, 4095], 4096⟩ (.q 0 (.q 1 (.q 2 (.q 3 (.q 4 (.q 5 (.q 6 (.q 7 (.q 8 (.q 9 (.q 10 (.q 11 (.x 12 .nil .no))))))))))))) TF.mixed (by kernel_rfl) rfl ?_
       refine auT 1 rfl ?_
       obtain ⟨A455, e456, s⟩ := s
       refine zqe rfl (sem_nilCheck A455 (congrArg Value.pointer e456) ⟨rfl, rfl⟩) ?_
       refine auT 1 rfl ?_
       obtain ⟨p457, hl, s⟩ := s
       refine zqe rfl (sem_load1 A455 ((.pointer p457)) rfl TF.agg_29 hl ⟨rfl, rfl⟩) ?_
       obtain ⟨A458, e459, s⟩ := s
       refine zqe rfl (sem_nilCheck A458 (congrArg Value.pointer e459) ⟨rfl, rfl⟩) ?_
       refine auT 1 rfl ?_
       obtain ⟨p460, hl, s⟩ := s
       refine zqe rfl (sem_load1 (Addr.add A458 2) ((.pointer p460)) rfl TF.agg_41 hl ⟨rfl, rfl⟩) ?_
       refine auT 2 rfl ?_
       obtain ⟨i461, hl, s⟩ := s
       refine zqe rfl (sem_load1 ⟨k363, 2, none⟩ ((.int .i64 (i461))) rfl TF.agg_3 hl ⟨rfl, rfl⟩) ?_
       refine auT 1 rfl ?_
       obtain ⟨s462, hl, s⟩ := s
       refine zqe rfl (sem_load1 ⟨k363, 5, none⟩ ((.string s462)) rfl TF.agg_9 hl ⟨rfl, rfl⟩) ?_
       refine ⟨zo rfl (sem_callL [(.pointer p460), (.int .i64 (i461)), (.string s462)] (TF.goes_18) rfl rfl (Spec.mono s fun v h463 hv => ?_)), trivial⟩
       obtain ⟨i464, rfl, s⟩ := hv
       refine ⟨fun hz => Bool.noConfusion hz, ?_⟩
       refine au 6 rfl ?_
       exact Run.of_fin (s.imp fun h' ⟨m', hm, s⟩ => ih353 ((IntKind.wrap .i64 ((i349) + (1))), m') _ _ ⟨s, ⟨rfl, rfl, rfl, rfl, trivial⟩⟩ hm)
      ·refine au 10 rfl ?_
       exact Run.of_fin (s.imp fun h' ⟨m', hm, s⟩ => ih353 ((IntKind.wrap .i64 ((i349) + (1))), m') _ _ ⟨s, ⟨rfl, rfl, rfl, rfl, trivial⟩⟩ hm)
   ·refine au 4 rfl ?_
    exact Run.of_fin (s.imp fun h' s => j14 _ _ ⟨⟨rfl, trivial⟩, s⟩)
  refine au 3 rfl ?_
  refine zcall s rfl rfl TF.goes_15 ?_
  rintro _ h465 ⟨b466, rfl, s⟩
  cases b466
  ·replace s := s.2 rfl
   refine au 2 rfl ?_
   refine zg rfl (sem_lenSl a1 n2 c3 rfl TF.sl_31 ?_)
   refine zt s rfl rfl rfl binI_gtr_t binI_gtr_f (fun s => ?_) fun s => ?_
   ·refine au 7 rfl ?_
    exact zr (s.imp fun _ q => ⟨_, rfl, q⟩)
   ·refine au 4 rfl ?_
    exact Run.of_fin (s.imp fun h' s => j10 _ _ ⟨⟨rfl, rfl, trivial⟩, s⟩)
  ·replace s := s.1 rfl
   refine au 11 rfl ?_
   exact zr (s.imp fun _ q => ⟨_, rfl, q⟩)
end Go.Proofs.YtgldgabefiialaaGreat.H
namespace Go.Proofs.YtgldgabefiialaaGreat.H
open Go
set_option linter.unusedVariables false
set_option maxRecDepth 100000
set_option maxHeartbeats 4000000
theorem C_countermandlaw20_alive.of {B : RO} {h : Heap} {Q : Bool → Heap → Prop} (s : S_countermandlaw20_alive B h Q) : C_countermandlaw20_alive B h Q := by
 refine zspec Tryz.func9 [ResultVar.tmp 0] rfl rfl rfl rfl rfl ?_
 refine au 6 rfl ?_
 refine zcall s rfl rfl TF.goes_24 ?_
 rintro _ h2 ⟨p3, rfl, s⟩
 refine au 5 rfl ?_
 refine zg rfl (sem_buildAL [] [(.int .i64 (0)), (.int .i64 (0)), (.int .i64 (0)), (.int .i64 (0))] TF.zero_26 TF.arr_26 rfl rfl ?_)
 refine zcall s rfl rfl TF.goes_25 ?_
 rintro _ h4 ⟨p5, rfl, s⟩
 refine au 1 rfl ?_
 refine zg rfl (sem_buildAL [] [(.int .i64 (0)), (.int .i64 (0)), (.int .i64 (0)), (.int .i64 (0))] TF.zero_26 TF.arr_26 rfl rfl ?_)
 refine zcall s rfl rfl TF.goes_25 ?_
 rintro _ h6 ⟨p7, rfl, s⟩
 refine au 7 rfl ?_
 refine zcall s rfl rfl TF.goes_21 ?_
 rintro _ h8 ⟨i9, rfl, s⟩
 refine zu s rfl rfl rfl binI_neq_t binI_neq_f (fun s => ?_) fun s => ?_
 ·refine au 6 rfl ?_
  refine zcall s rfl rfl TF.goes_11 ?_
  rintro _ h10 ⟨i11, i12, rfl, s⟩
  refine au 9 rfl ?_
  refine zcall s rfl rfl TF.goes_11 ?_
  rintro _ h13 ⟨i14, i15, rfl, s⟩
  refine au 9 rfl ?_
  refine zt s rfl rfl rfl binI_eql_t binI_eql_f (fun s => ?_) fun s => ?_
  ·refine au 2 rfl ?_
   refine zt s rfl rfl rfl binI_eql_t binI_eql_f (fun s => ?_) fun s => ?_
   ·refine au 3 rfl ?_
    refine zcall s rfl rfl TF.goes_14 ?_
    rintro _ h16 ⟨b17, rfl, s⟩
    cases b17
    ·replace s := s.2 rfl
     refine au 10 rfl ?_
     exact zr (s.imp fun _ q => ⟨_, rfl, q⟩)
    ·replace s := s.1 rfl
     refine au 3 rfl ?_
     refine znil s rfl rfl fun A18 s => ?_
     refine au 1 rfl ?_
     refine zl s rfl rfl TF.agg_3 fun i20 s => ?_
     refine au 4 rfl ?_
     exact zr (s.imp fun _ q => ⟨_, rfl, q⟩)
   ·refine au 14 rfl ?_
    exact zr (s.imp fun _ q => ⟨_, rfl, q⟩)
  ·refine au 17 rfl ?_
   exact zr (s.imp fun _ q => ⟨_, rfl, q⟩)
 ·refine au 6 rfl ?_
  exact zr (s.imp fun _ q => ⟨_, rfl, q⟩)
theorem C_countermandlaw20_start.of {B : RO} {a1 : Option Addr} {n2 : Nat} {c3 : Nat} {i4 : Int} {i5 : Int} {i6 : Int} {i7 : Int} {h : Heap} {Q : Option Addr → Heap → Prop} (s : S_countermandlaw20_start B a1 n2 c3 i4 i5 i6 i7 h Q) : C_countermandlaw20_start B a1 n2 c3 i4 i5 i6 i7 h Q := by
 refine zspec Tryz.func10 [ResultVar.tmp 4] rfl rfl rfl rfl rfl ?_
 refine au 2 rfl ?_
 refine zbn s rfl rfl rfl fun k9 h10 s => ?_
 refine au 4 rfl ?_
 refine zcall s rfl rfl TF.goes_24 ?_
 rintro _ h11 ⟨p12, rfl, s⟩
 refine zg rfl (sem_buildSL [(0, (.pointer p12))] [(.pointer p12), (.pointer none), (.slice none 0 0), (.slice none 0 0)] TF.zero_34 TF.places_34 rfl rfl ?_)
 refine zbn s rfl rfl rfl fun k13 h14 s => ?_
 refine au 7 rfl ?_
 refine zl s rfl rfl TF.agg_29 fun p15 s => ?_
 refine zcall s rfl rfl TF.goes_16 ?_
 rintro _ h16 ⟨l17, s18, s19, s20, rfl, s⟩
 refine au 3 rfl ?_
 refine zal s rfl TF.zero_55 rfl fun k21 h22 s => ?_
 refine zal s rfl TF.zero_56 rfl fun k23 h24 s => ?_
 obtain ⟨hln, h25, hst, s⟩ := s
 refine zg0 rfl (sem_storeN ⟨k21, 0, none⟩ l17 h25 rfl rfl (TF.sz_55.trans (congrArg some hln.symm)) hst ?_)
 refine zsn s rfl rfl rfl TF.sz_56 rfl fun h26 s => ?_
 refine au 2 rfl ?_
 obtain ⟨a31, n32, c33, hl, s⟩ := s
 have f34 := hl
 obtain ⟨l35, nl35, hl, s⟩ := s
 have f36 := hl
 refine Run.drawM (fun h' => cellH B h' ⟨k13, 3, none⟩ = some (.slice a31 n32 c33) ∧ CellsAt B h' ⟨k21, 0, none⟩ 0 l35 ∧ True) [10] ⟨[0, 0, 2, 4, 8, 0, 32, 80, 255, 511, 767], [2047, 2047, 2045, 2043, 2039, 2047, 2015, 1967, 2046, 1791, 1407], [0, 0, 2, 6, 14, 0, 32, 126, 255, 511, 1023], 1024⟩ (.q 0 (.q 1 (.q 2 (.q 3 (.q 4 (.q 5 (.x 6 (.x 7 (.q 8 (.q 9 (.x 10 .nil .no))) .no) .no))))))) TF.mixed (by kernel_rfl) ⟨f34, f36, trivial⟩ ?_
 refine auT 4 rfl ?_
 refine zq rfl (fun _ hC => sem_load1 ⟨k13, 3, none⟩ ((.slice a31 n32 c33)) rfl TF.agg_32 hC.1 ⟨rfl, rfl⟩) ?_
 refine zq rfl (fun _ hC => sem_loadN ⟨k21, 0, none⟩ l35 rfl TF.agg_55 (TF.sz_55.trans (congrArg some nl35.symm)) hC.2.1 ⟨rfl, rfl⟩) ?_
 refine ⟨zo rfl (sem_buildSlice1 l35 TF.slc_32 TF.zero_55 rfl nl35 (by decide) (by decide) rfl (fun k37 hb1 hb2 h38 hb3 => ?_)), trivial⟩
 have s := s k37 hb1 hb2 h38 hb3
 obtain ⟨g39, g40, s⟩ := s
 refine ⟨fun _ => ⟨g39, g40, trivial⟩, ?_⟩
 refine ⟨zo rfl (sem_appendL [(.slice a31 n32 c33), (.slice (some ⟨k37, 0, none⟩) 1 1)] rfl (semH_mono (fun v h41 hv => ?_) s)), trivial⟩
 obtain ⟨a42, n43, c44, rfl, s⟩ := hv
 obtain ⟨g45, g46, s⟩ := s
 refine ⟨fun _ => ⟨g45, g46, trivial⟩, ?_⟩
 refine auT 2 rfl ?_
 obtain ⟨h47, hst, s⟩ := s
 refine ⟨zo0 rfl (sem_store1 ⟨k13, 3, none⟩ ((.slice a42 n43 c44)) h47 rfl rfl rfl TF.sz_32 hst ?_), trivial⟩
 refine ⟨fun hz => Bool.noConfusion hz, ?_⟩
 refine Run.seqJ (fun e h49 => Agree [(3, (.pointer (some ⟨k9, 0, none⟩))), (5, (.pointer (some ⟨k13, 0, none⟩)))] e ∧ S_countermandlaw20_start_J1 B k9 k13 h49 Q) ?_ fun j48 => ?_
 ·rintro e h49 ⟨hag, s⟩
  refine Run.env hag ?_; clear hag
  refine au 1 rfl ?_
  obtain ⟨p54, hl, s⟩ := s
  have f55 := hl
  obtain ⟨i56, i57, i58, i59, hl, s⟩ := s
  have f60 := hl
  refine Run.drawM (fun h' => cellH B h' ⟨k13, 0, none⟩ = some (.pointer p54) ∧ CellsAt B h' ⟨k9, 0, none⟩ 0 [(.int .i64 (i56)), (.int .i64 (i57)), (.int .i64 (i58)), (.int .i64 (i59))] ∧ True) [9] ⟨[0, 0, 2, 4, 8, 0, 48, 127, 255, 383], [1023, 1023, 1021, 1019, 1015, 1023, 975, 1022, 895, 703], [0, 0, 2, 6, 14, 0, 62, 127, 255, 511], 512⟩ (.q 0 (.q 1 (.q 2 (.q 3 (.q 4 (.q 5 (.x 6 (.q 7 (.q 8 (.x 9 .nil .no))) .no))))))) TF.mixed (by kernel_rfl) ⟨f55, f60, trivial⟩ ?_
  refine auT 4 rfl ?_
  refine zq rfl (fun _ hC => sem_load1 ⟨k13, 0, none⟩ ((.pointer p54)) rfl TF.agg_29 hC.1 ⟨rfl, rfl⟩) ?_
  refine zq rfl (fun _ hC => sem_loadN ⟨k9, 0, none⟩ [(.int .i64 (i56)), (.int .i64 (i57)), (.int .i64 (i58)), (.int .i64 (i59))] rfl TF.agg_26 TF.sz_26 hC.2.1 ⟨rfl, rfl⟩) ?_
  refine ⟨zo rfl (sem_callL [(.pointer p54), (.agg #[(.int .i64 (i56)), (.int .i64 (i57)), (.int .i64 (i58)), (.int .i64 (i59))])] (TF.goes_25) rfl rfl (Spec.mono s fun v h61 hv => ?_)), trivial⟩
  obtain ⟨p62, rfl, s⟩ := hv
  obtain ⟨g63, g64, s⟩ := s
  refine ⟨fun _ => ⟨g63, g64, trivial⟩, ?_⟩
  refine auT 2 rfl ?_
  obtain ⟨h65, hst, s⟩ := s
  refine ⟨zo0 rfl (sem_store1 ⟨k13, 1, none⟩ ((.pointer p62)) h65 rfl rfl rfl TF.sz_30 hst ?_), trivial⟩
  refine ⟨fun hz => Bool.noConfusion hz, ?_⟩
  refine au 5 rfl ?_
  exact zr (s.imp fun _ q => ⟨_, rfl, q⟩)
 refine au 3 rfl ?_
 refine zg rfl (sem_lenSl a1 n2 c3 rfl TF.sl_31 ?_)
 refine au 3 rfl ?_
 obtain ⟨J71, m69, h0, s⟩ := s
 refine Run.of_fin (h0.imp fun h' h0 => ?_)
 refine Run.loop (σ := Int × Nat) (fun x e h => J71 x.1 x.2 h ∧ Agree [(3, (.pointer (some ⟨k9, 0, none⟩))), (5, (.pointer (some ⟨k13, 0, none⟩))), (31, (.slice a1 n2 c3)), (32, (.int .i64 ((n2 : Nat)))), (33, (.int .i64 (x.1)))] e) (fun x => x.2) ((0), m69) ⟨h0, ⟨rfl, rfl, rfl, rfl, rfl, trivial⟩⟩ ?_; clear h0
 rintro ⟨i66, m68⟩ e h67 ⟨hJ, hag⟩ ih70
 have s := s i66 m68 h67 hJ; clear hJ
 refine Run.env hag ?_; clear hag
 refine au 2 rfl ?_
 refine zt s rfl rfl rfl binI_lss_t binI_lss_f (fun s => ?_) fun s => ?_
 ·refine au 8 rfl ?_
  obtain ⟨A72, e73, hi0, hi1, s⟩ := s
  refine zg rfl (sem_indexAddrS A72 n2 c3 .i64 (i66) (congrArg (fun a => Value.slice a n2 c3) e73) rfl TF.slc_31 hi0 hi1 ?_)
  obtain ⟨i74, i75, i76, i77, hl, s⟩ := s
  refine zn hl rfl rfl TF.agg_38 TF.sz_38 rfl ?_
  refine zal s rfl TF.zero_38 rfl fun k78 h79 s => ?_
  refine zsn s rfl rfl rfl TF.sz_38 rfl fun h80 s => ?_
  refine au 3 rfl ?_
  obtain ⟨i81, i82, i83, i84, hl, s⟩ := s
  refine zn hl rfl rfl TF.agg_38 TF.sz_38 rfl ?_
  refine zcall s rfl rfl TF.goes_12 ?_
  rintro _ h85 ⟨rfl, s⟩
  refine au 6 rfl ?_
  exact Run.of_fin (s.imp fun h' ⟨m', hm, s⟩ => ih70 ((IntKind.wrap .i64 ((i66) + (1))), m') _ _ ⟨s, ⟨rfl, rfl, rfl, rfl, rfl, trivial⟩⟩ hm)
 ·refine au 4 rfl ?_
  exact Run.of_fin (s.imp fun h' s => j48 _ _ ⟨⟨rfl, rfl, trivial⟩, s⟩)
theorem C_attempt_Attempt_Load.of {B : RO} {p1 : Option Addr} {i2 : Int} {h : Heap} {Q : Int → Int → Heap → Prop} (s : S_attempt_Attempt_Load B p1 i2 h Q) : C_attempt_Attempt_Load B p1 i2 h Q := by
 refine zspec Tryz.func11 [ResultVar.tmp 4, ResultVar.tmp 5] rfl rfl rfl rfl rfl ?_
 refine au 5 rfl ?_
 refine Run.seqJ (fun e h6 => Agree [(0, (.pointer p1)), (1, (.int .i64 (i2)))] e ∧ S_attempt_Attempt_Load_J1 B p1 i2 h6 Q) ?_ fun j5 => ?_
 ·rintro e h6 ⟨hag, s⟩
  refine Run.env hag ?_; clear hag
  refine au 4 rfl ?_
  refine znil s rfl rfl fun A7 s => ?_
  refine au 2 rfl ?_
  refine zl s rfl rfl TF.agg_91 fun p9 s => ?_
  refine au 1 rfl ?_
  refine zcall s rfl rfl TF.goes_39 ?_
  rintro _ h10 ⟨i11, b12, rfl, s⟩
  refine au 2 rfl ?_
  cases b12
  ·replace s := s.2 rfl
   refine au 1 rfl ?_
   refine au 14 rfl ?_
   refine zcall s rfl rfl TF.goes_40 ?_
   rintro _ h13 ⟨i14, rfl, s⟩
   refine au 5 rfl ?_
   refine zu s rfl rfl rfl binI_neq_t binI_neq_f (fun s => ?_) fun s => ?_
   ·refine au 6 rfl ?_
    refine znil s rfl rfl fun A15 s => ?_
    refine au 1 rfl ?_
    refine zl s rfl rfl TF.agg_29 fun p17 s => ?_
    refine znil s rfl rfl fun A18 s => ?_
    refine au 1 rfl ?_
    refine zl s rfl rfl TF.agg_39 fun p20 s => ?_
    refine au 1 rfl ?_
    refine zcall s rfl rfl TF.goes_41 ?_
    rintro _ h21 ⟨i22, i23, rfl, s⟩
    refine au 12 rfl ?_
    exact zr (s.imp fun _ q => ⟨_, _, rfl, q⟩)
   ·refine au 8 rfl ?_
    exact zr (s.imp fun _ q => ⟨_, _, rfl, q⟩)
  ·replace s := s.1 rfl
   refine au 1 rfl ?_
   refine au 14 rfl ?_
   exact zr (s.imp fun _ q => ⟨_, _, rfl, q⟩)
 refine au 4 rfl ?_
 by_cases hb24 : p1 = none
 ·replace s := s.1 hb24
  refine zg rfl (sem_ptrNilT p1 (.inl rfl) true rfl rfl TF.ptr_30 hb24 rfl ?_)
  refine au 8 rfl ?_
  exact zr (s.imp fun _ q => ⟨_, _, rfl, q⟩)
 ·replace s := s.2 hb24
  refine zg rfl (sem_ptrNilF p1 (.inl rfl) false rfl rfl TF.ptr_30 hb24 rfl ?_)
  refine au 6 rfl ?_
  refine zt s rfl rfl rfl binI_lss_t binI_lss_f (fun s => ?_) fun s => ?_
  ·refine au 12 rfl ?_
   exact zr (s.imp fun _ q => ⟨_, _, rfl, q⟩)
  ·refine au 2 rfl ?_
   refine zt s rfl rfl rfl binI_geq_t binI_geq_f (fun s => ?_) fun s => ?_
   ·refine au 9 rfl ?_
    exact zr (s.imp fun _ q => ⟨_, _, rfl, q⟩)
   ·refine au 6 rfl ?_
    exact Run.of_fin (s.imp fun h' s => j5 _ _ ⟨⟨rfl, rfl, trivial⟩, s⟩)
theorem C_countermandlaw20_run_other.of {B : RO} {p1 : Option Addr} {i2 : Int} {i3 : Int} {i4 : Int} {i5 : Int} {h : Heap} {Q : Heap → Prop} (s : S_countermandlaw20_run_other B p1 i2 i3 i4 i5 h Q) : C_countermandlaw20_run_other B p1 i2 i3 i4 i5 h Q := by
 refine zspec Tryz.func12 [] rfl rfl rfl rfl rfl ?_
 refine au 2 rfl ?_
 refine zbn s rfl rfl rfl fun k6 h7 s => ?_
 refine au 4 rfl ?_
 refine znil s rfl rfl fun A8 s => ?_
 refine au 1 rfl ?_
 refine zl s rfl rfl TF.agg_29 fun p10 s => ?_
 refine zg rfl (sem_buildAL [] [(.int .i64 (0)), (.int .i64 (0)), (.int .i64 (0)), (.int .i64 (0))] TF.zero_26 TF.arr_26 rfl rfl ?_)
 refine zcall s rfl rfl TF.goes_25 ?_
 rintro _ h11 ⟨p12, rfl, s⟩
 refine au 5 rfl ?_
 obtain ⟨i13, i14, i15, i16, hl, s⟩ := s
 refine zn hl rfl rfl TF.agg_38 TF.sz_38 rfl ?_
 refine zcall s rfl rfl TF.goes_17 ?_
 rintro _ h17 ⟨i18, i19, rfl, s⟩
 refine au 4 rfl ?_
 refine zcall s rfl rfl TF.goes_14 ?_
 rintro _ h20 ⟨b21, rfl, s⟩
 refine au 4 rfl ?_
 refine znil s rfl rfl fun A22 s => ?_
 refine au 1 rfl ?_
 refine zl s rfl rfl TF.agg_29 fun p24 s => ?_
 refine zcall s rfl rfl TF.goes_16 ?_
 rintro _ h25 ⟨l26, s27, s28, s29, rfl, s⟩
 refine au 3 rfl ?_
 refine zal s rfl TF.zero_55 rfl fun k30 h31 s => ?_
 refine zal s rfl TF.zero_56 rfl fun k32 h33 s => ?_
 obtain ⟨hln, h34, hst, s⟩ := s
 refine zg0 rfl (sem_storeN ⟨k30, 0, none⟩ l26 h34 rfl rfl (TF.sz_55.trans (congrArg some hln.symm)) hst ?_)
 refine zsn s rfl rfl rfl TF.sz_56 rfl fun h35 s => ?_
 refine au 1 rfl ?_
 obtain ⟨A38, e39, s⟩ := s
 obtain ⟨a42, n43, c44, hl, s⟩ := s
 have f45 := hl
 obtain ⟨l46, nl46, hl, s⟩ := s
 have f47 := hl
 refine Run.drawM (fun h' => cellH B h' (Addr.add A38 3) = some (.slice a42 n43 c44) ∧ CellsAt B h' ⟨k30, 0, none⟩ 0 l46 ∧ True) [10] ⟨[0, 0, 2, 4, 8, 0, 32, 80, 255, 511, 767], [2047, 2047, 2045, 2043, 2039, 2047, 2015, 1967, 2046, 1791, 1407], [0, 0, 2, 6, 14, 0, 32, 126, 255, 511, 1023], 1024⟩ (.q 0 (.q 1 (.q 2 (.q 3 (.q 4 (.q 5 (.x 6 (.x 7 (.q 8 (.q 9 (.x 10 .nil .no))) .no) .no))))))) TF.mixed (by kernel_rfl) ⟨f45, f47, trivial⟩ ?_
 refine auT 2 rfl ?_
 refine zq rfl (fun _ hC => sem_nilCheck A38 (congrArg Value.pointer e39) ⟨rfl, rfl⟩) ?_
 refine auT 1 rfl ?_
 refine zq rfl (fun _ hC => sem_load1 (Addr.add A38 3) ((.slice a42 n43 c44)) rfl TF.agg_32 hC.1 ⟨rfl, rfl⟩) ?_
 refine zq rfl (fun _ hC => sem_loadN ⟨k30, 0, none⟩ l46 rfl TF.agg_55 (TF.sz_55.trans (congrArg some nl46.symm)) hC.2.1 ⟨rfl, rfl⟩) ?_
 refine ⟨zo rfl (sem_buildSlice1 l46 TF.slc_32 TF.zero_55 rfl nl46 (by decide) (by decide) rfl (fun k48 hb1 hb2 h49 hb3 => ?_)), trivial⟩
 have s := s k48 hb1 hb2 h49 hb3
 obtain ⟨g50, g51, s⟩ := s
 refine ⟨fun _ => ⟨g50, g51, trivial⟩, ?_⟩
 refine ⟨zo rfl (sem_appendL [(.slice a42 n43 c44), (.slice (some ⟨k48, 0, none⟩) 1 1)] rfl (semH_mono (fun v h52 hv => ?_) s)), trivial⟩
 obtain ⟨a53, n54, c55, rfl, s⟩ := hv
 obtain ⟨g56, g57, s⟩ := s
 refine ⟨fun _ => ⟨g56, g57, trivial⟩, ?_⟩
 obtain ⟨A58, e59, s⟩ := s
 refine zq rfl (fun _ _ => sem_nilCheck A58 (congrArg Value.pointer e59) ⟨rfl, rfl⟩) ?_
 refine auT 1 rfl ?_
 obtain ⟨h60, hst, s⟩ := s
 refine ⟨zo0 rfl (sem_store1 (Addr.add A58 3) ((.slice a53 n54 c55)) h60 rfl rfl rfl TF.sz_32 hst ?_), trivial⟩
 refine ⟨fun hz => Bool.noConfusion hz, ?_⟩
 exact zf (s.imp fun _ q => ⟨rfl, q⟩)
theorem C_attempt_Attempt_Valid.of {B : RO} {p1 : Option Addr} {h : Heap} {Q : Bool → Heap → Prop} (s : S_attempt_Attempt_Valid B p1 h Q) : C_attempt_Attempt_Valid B p1 h Q := by
 refine zspec Tryz.func13 [ResultVar.tmp 2] rfl rfl rfl rfl rfl ?_
 refine au 5 rfl ?_
 by_cases hb4 : p1 = none
 ·replace s := s.1 hb4
  refine Run.drawM (fun h' => True) [] ⟨[0, 1, 2, 4, 12, 20, 36, 4, 132, 260, 516, 1028, 2116, 4100, 16383], [32767, 32766, 32765, 32763, 32755, 32747, 32731, 32763, 32635, 32507, 32251, 31739, 30651, 28667, 24575], [0, 0, 0, 0, 0, 0, 0, 0, 0, 0, 0, 0, 0, 0, 0], 0⟩ (.q 0 (.q 1 (.q 2 (.q 3 (.q 4 (.q 5 (.q 6 (.q 7 (.q 8 (.q 9 (.q 10 (.x 11 (.x 12 (.q 13 (.q 14 .nil)) .no) .no)))))))))))) TF.mixed (by kernel_rfl) trivial ?_
  refine auT 1 rfl ?_
  refine zq rfl (fun _ hC => sem_ptrNilT p1 (.inr rfl) false rfl rfl TF.ptr_30 hb4 rfl ⟨rfl, rfl⟩) ?_
  refine auT 9 rfl ?_
  refine ⟨zon rfl ⟨fun _ => trivial, ?_⟩, trivial⟩
  refine ⟨zon rfl ⟨fun _ => trivial, ?_⟩, trivial⟩
  refine auT 2 rfl ?_
  exact zr (s.imp fun _ q => ⟨_, rfl, q⟩)
 ·replace s := s.2 hb4
  obtain ⟨A10, e11, s⟩ := s
  obtain ⟨p14, hl, s⟩ := s
  have f15 := hl
  obtain ⟨A17, e18, s⟩ := s
  obtain ⟨p21, hl, s⟩ := s
  have f22 := hl
  refine Run.drawM (fun h' => cellH B h' (Addr.add A10 1) = some (.pointer p14) ∧ cellH B h' A17 = some (.pointer p21) ∧ True) [] ⟨[0, 1, 2, 4, 12, 20, 36, 4, 132, 260, 516, 1028, 2116, 4100, 16383], [32767, 32766, 32765, 32763, 32755, 32747, 32731, 32763, 32635, 32507, 32251, 31739, 30651, 28667, 24575], [0, 0, 0, 0, 0, 0, 0, 0, 0, 0, 0, 0, 0, 0, 0], 0⟩ (.q 0 (.q 1 (.q 2 (.q 3 (.q 4 (.q 5 (.q 6 (.q 7 (.q 8 (.q 9 (.q 10 (.x 11 (.x 12 (.q 13 (.q 14 .nil)) .no) .no)))))))))))) TF.mixed (by kernel_rfl) ⟨f15, f22, trivial⟩ ?_
  refine auT 1 rfl ?_
  refine zq rfl (fun _ hC => sem_ptrNilF p1 (.inr rfl) true rfl rfl TF.ptr_30 hb4 rfl ⟨rfl, rfl⟩) ?_
  refine auT 2 rfl ?_
  refine zq rfl (fun _ hC => sem_nilCheck A10 (congrArg Value.pointer e11) ⟨rfl, rfl⟩) ?_
  refine auT 1 rfl ?_
  refine zq rfl (fun _ hC => sem_load1 (Addr.add A10 1) ((.pointer p14)) rfl TF.agg_69 hC.1 ⟨rfl, rfl⟩) ?_
  refine auT 1 rfl ?_
  refine zq rfl (fun _ hC => sem_nilCheck A17 (congrArg Value.pointer e18) ⟨rfl, rfl⟩) ?_
  refine auT 1 rfl ?_
  refine zq rfl (fun _ hC => sem_load1 A17 ((.pointer p21)) rfl TF.agg_29 hC.2.1 ⟨rfl, rfl⟩) ?_
  refine ⟨zo rfl (sem_callL [(.pointer p21)] (TF.goes_20) rfl rfl (Spec.mono s fun v h23 hv => ?_)), trivial⟩
  obtain ⟨l24, rfl, s⟩ := hv
  obtain ⟨g25, g26, s⟩ := s
  refine ⟨fun _ => ⟨g25, g26, trivial⟩, ?_⟩
  refine ⟨zo rfl (sem_callL [(.pointer p14), (.agg (List.toArray l24))] (TF.goes_42) rfl rfl (Spec.mono s fun v h27 hv => ?_)), trivial⟩
  obtain ⟨b28, rfl, s⟩ := hv
  obtain ⟨g29, g30, s⟩ := s
  refine ⟨fun _ => ⟨g29, g30, trivial⟩, ?_⟩
  refine auT 2 rfl ?_
  exact zr (s.imp fun _ q => ⟨_, rfl, q⟩)
theorem C_attempt_Attempt_Land.of {B : RO} {p1 : Option Addr} {h : Heap} {Q : Bool → Heap → Prop} (s : S_attempt_Attempt_Land B p1 h Q) : C_attempt_Attempt_Land B p1 h Q := by
 refine zspec Tryz.func14 [ResultVar.tmp 2] rfl rfl rfl rfl rfl ?_
 refine au 8 rfl ?_
 refine zcall s rfl rfl TF.goes_13 ?_
 rintro _ h3 ⟨b4, rfl, s⟩
 cases b4
 ·replace s := s.2 rfl
  refine au 7 rfl ?_
  exact zr (s.imp fun _ q => ⟨_, rfl, q⟩)
 ·replace s := s.1 rfl
  refine au 7 rfl ?_
  refine znil s rfl rfl fun A5 s => ?_
  refine au 1 rfl ?_
  refine zl s rfl rfl TF.agg_29 fun p7 s => ?_
  refine zal s rfl TF.zero_29 rfl fun k8 h9 s => ?_
  refine zs1 s rfl rfl rfl rfl TF.sz_29 fun h10 s => ?_
  refine au 3 rfl ?_
  refine zl s rfl rfl TF.agg_29 fun p11 s => ?_
  refine znil s rfl rfl fun A12 s => ?_
  refine au 1 rfl ?_
  refine zl s rfl rfl TF.agg_3 fun i14 s => ?_
  refine au 1 rfl ?_
  refine znil s rfl rfl fun A15 s => ?_
  refine au 1 rfl ?_
  refine zs1 s rfl rfl rfl rfl TF.sz_3 fun h17 s => ?_
  refine au 1 rfl ?_
  refine Run.seqJ (fun e h19 => Agree [(0, (.pointer p1)), (3, (.pointer (some ⟨k8, 0, none⟩)))] e ∧ S_attempt_Attempt_Land_J1 B p1 k8 h19 Q) ?_ fun j18 => ?_
  ·rintro e h19 ⟨hag, s⟩
   refine Run.env hag ?_; clear hag
   refine au 1 rfl ?_
   refine Run.drawM (fun h' => h' = h19) [13] ⟨[0, 1, 2, 4, 8, 0, 32, 64, 128, 0, 512, 1024, 2048, 4368], [16383, 16382, 16381, 16379, 16375, 16383, 16351, 16319, 16255, 16383, 15871, 15359, 14335, 12015], [0, 1, 3, 7, 15, 0, 32, 96, 224, 0, 512, 1536, 3584, 8191], 8192⟩ (.q 0 (.q 1 (.q 2 (.q 3 (.q 4 (.q 5 (.q 6 (.q 7 (.q 8 (.q 9 (.q 10 (.q 11 (.q 12 (.x 13 .nil .no)))))))))))))) TF.mixed (by kernel_rfl) rfl ?_
   refine auT 1 rfl ?_
   obtain ⟨A20, e21, s⟩ := s
   refine zqe rfl (sem_nilCheck A20 (congrArg Value.pointer e21) ⟨rfl, rfl⟩) ?_
   refine auT 2 rfl ?_
   obtain ⟨p22, hl, s⟩ := s
   refine zqe rfl (sem_load1 (Addr.add (Addr.add A20 2) 1) ((.pointer p22)) rfl TF.agg_92 hl ⟨rfl, rfl⟩) ?_
   obtain ⟨p23, hl, s⟩ := s
   refine zqe rfl (sem_load1 ⟨k8, 0, none⟩ ((.pointer p23)) rfl TF.agg_29 hl ⟨rfl, rfl⟩) ?_
   obtain ⟨A24, e25, s⟩ := s
   refine zqe rfl (sem_nilCheck A24 (congrArg Value.pointer e25) ⟨rfl, rfl⟩) ?_
   refine auT 1 rfl ?_
   obtain ⟨p26, hl, s⟩ := s
   refine zqe rfl (sem_load1 (Addr.add A24 1) ((.pointer p26)) rfl TF.agg_40 hl ⟨rfl, rfl⟩) ?_
   obtain ⟨p27, hl, s⟩ := s
   refine zqe rfl (sem_load1 ⟨k8, 0, none⟩ ((.pointer p27)) rfl TF.agg_29 hl ⟨rfl, rfl⟩) ?_
   obtain ⟨A28, e29, s⟩ := s
   refine zqe rfl (sem_nilCheck A28 (congrArg Value.pointer e29) ⟨rfl, rfl⟩) ?_
   refine auT 1 rfl ?_
   obtain ⟨i30, hl, s⟩ := s
   refine zqe rfl (sem_load1 (Addr.add A28 3) ((.int .i64 (i30))) rfl TF.agg_3 hl ⟨rfl, rfl⟩) ?_
   refine ⟨zo rfl (sem_callL [(.pointer p22), (.pointer p26), (.int .i64 (i30))] (TF.goes_45) rfl rfl (Spec.mono s fun v h31 hv => ?_)), trivial⟩
   obtain ⟨i32, rfl, s⟩ := hv
   refine ⟨fun hz => Bool.noConfusion hz, ?_⟩
   refine au 6 rfl ?_
   obtain ⟨J38, m36, h0, s⟩ := s
   refine Run.of_fin (h0.imp fun h' h0 => ?_)
   refine Run.loop (σ := Int × Nat) (fun x e h => J38 x.1 x.2 h ∧ Agree [(0, (.pointer p1)), (3, (.pointer (some ⟨k8, 0, none⟩))), (57, (.int .i64 (x.1)))] e) (fun x => x.2) ((0), m36) ⟨h0, ⟨rfl, rfl, rfl, trivial⟩⟩ ?_; clear h0
   rintro ⟨i33, m35⟩ e h34 ⟨hJ, hag⟩ ih37
   have s := s i33 m35 h34 hJ; clear hJ
   refine Run.env hag ?_; clear hag
   refine au 2 rfl ?_
   refine zt s rfl rfl rfl binI_lss_t binI_lss_f (fun s => ?_) fun s => ?_
   ·refine au 14 rfl ?_
    refine znil s rfl rfl fun A39 s => ?_
    refine au 2 rfl ?_
    refine zl s rfl rfl TF.agg_93 fun p41 s => ?_
    refine au 1 rfl ?_
    refine zcall s rfl rfl TF.goes_46 ?_
    rintro _ h42 ⟨i43, rfl, s⟩
    refine au 5 rfl ?_
    refine zt s rfl rfl rfl binI_gtr_t binI_gtr_f (fun s => ?_) fun s => ?_
    ·refine au 4 rfl ?_
     refine zl s rfl rfl TF.agg_29 fun p44 s => ?_
     refine znil s rfl rfl fun A45 s => ?_
     refine au 1 rfl ?_
     refine zl s rfl rfl TF.agg_41 fun p47 s => ?_
     refine au 1 rfl ?_
     refine zcall s rfl rfl TF.goes_47 ?_
     rintro _ h48 ⟨i49, i50, rfl, s⟩
     refine au 6 rfl ?_
     refine Run.drawM (fun h' => h' = h48) [12] ⟨[0, 1, 2, 4, 0, 0, 0, 96, 0, 256, 512, 1024, 2200], [8191, 8190, 8189, 8187, 8191, 8191, 8191, 8095, 8191, 7935, 7679, 7167, 5991], [0, 1, 3, 7, 0, 0, 0, 96, 0, 256, 768, 1792, 4095], 4096⟩ (.q 0 (.q 1 (.q 2 (.q 3 (.q 4 (.q 5 (.q 6 (.q 7 (.q 8 (.q 9 (.q 10 (.q 11 (.x 12 .nil .no))))))))))))) TF.mixed (by kernel_rfl) rfl ?_
     obtain ⟨p51, hl, s⟩ := s
     refine zqe rfl (sem_load1 ⟨k8, 0, none⟩ ((.pointer p51)) rfl TF.agg_29 hl ⟨rfl, rfl⟩) ?_
     obtain ⟨A52, e53, s⟩ := s
     refine zqe rfl (sem_nilCheck A52 (congrArg Value.pointer e53) ⟨rfl, rfl⟩) ?_
     refine auT 1 rfl ?_
     obtain ⟨p54, hl, s⟩ := s
     refine zqe rfl (sem_load1 (Addr.add A52 2) ((.pointer p54)) rfl TF.agg_41 hl ⟨rfl, rfl⟩) ?_
     refine auT 4 rfl ?_
     obtain ⟨p55, hl, s⟩ := s
     refine zqe rfl (sem_load1 ⟨k8, 0, none⟩ ((.pointer p55)) rfl TF.agg_29 hl ⟨rfl, rfl⟩) ?_
     obtain ⟨A56, e57, s⟩ := s
     refine zqe rfl (sem_nilCheck A56 (congrArg Value.pointer e57) ⟨rfl, rfl⟩) ?_
     refine auT 1 rfl ?_
     obtain ⟨i58, hl, s⟩ := s
     refine zqe rfl (sem_load1 (Addr.add A56 3) ((.int .i64 (i58))) rfl TF.agg_3 hl ⟨rfl, rfl⟩) ?_
     refine ⟨zo rfl (sem_callL [(.pointer p54), (.int .i64 (i33)), (.int .i64 (IntKind.wrap .i64 ((i49) + (i43)))), (.int .i64 (i58))] (TF.goes_48) rfl rfl (Spec.mono s fun v h59 hv => ?_)), trivial⟩
     obtain ⟨b60, rfl, s⟩ := hv
     refine ⟨fun hz => Bool.noConfusion hz, ?_⟩
     refine au 5 rfl ?_
     exact Run.of_fin (s.imp fun h' ⟨m', hm, s⟩ => ih37 ((IntKind.wrap .i64 ((i33) + (1))), m') _ _ ⟨s, ⟨rfl, rfl, rfl, trivial⟩⟩ hm)
    ·refine au 8 rfl ?_
     exact Run.of_fin (s.imp fun h' ⟨m', hm, s⟩ => ih37 ((IntKind.wrap .i64 ((i33) + (1))), m') _ _ ⟨s, ⟨rfl, rfl, rfl, trivial⟩⟩ hm)
   ·refine au 8 rfl ?_
    exact zr (s.imp fun _ q => ⟨_, rfl, q⟩)
  refine au 3 rfl ?_
  refine znil s rfl rfl fun A61 s => ?_
  refine au 2 rfl ?_
  refine zl s rfl rfl TF.agg_91 fun p63 s => ?_
  refine zcall s rfl rfl TF.goes_43 ?_
  rintro v65 h64 ⟨_, rfl, s⟩
  refine au 2 rfl ?_
  obtain ⟨xs72, G68, J71, hit, hins, hG, h0, s, hR⟩ := s
  refine Run.of_fin (h0.imp fun h' h0 => ?_)
  refine Run.range (v65) (xs72.map (fun x : Int × Int => [(.int .i64 (x.1)), (.int .i64 (x.2))])) G68 J71 rfl hit hins hG h0 rfl (fun a ha => by obtain ⟨x, _, rfl⟩ := List.mem_map.1 ha; rfl) ?_ ?_
  ·rintro q70 args h69 ha hJ
   obtain ⟨⟨i66, i67⟩, hx, rfl⟩ := Option.map_eq_some_iff.1 ((List.getElem?_map ..).symm.trans ha)
   have s := s q70 h69 i66 i67 hx hJ; clear hJ hx ha
   refine zput rfl ?_
   refine au 7 rfl ?_
   refine Run.begin ⟨rfl, ?_⟩
   refine au 1 rfl ?_
   refine Run.drawM (fun h' => h' = h69) [10] ⟨[0, 1, 2, 4, 0, 0, 0, 64, 128, 256, 568], [2047, 2046, 2045, 2043, 2047, 2047, 2047, 1983, 1919, 1791, 1479], [0, 1, 3, 7, 0, 0, 0, 64, 192, 448, 1023], 1024⟩ (.q 0 (.q 1 (.q 2 (.q 3 (.q 4 (.q 5 (.q 6 (.q 7 (.q 8 (.q 9 (.x 10 .nil .no))))))))))) TF.mixed (by kernel_rfl) rfl ?_
   obtain ⟨p73, hl, s⟩ := s
   refine zqe rfl (sem_load1 ⟨k8, 0, none⟩ ((.pointer p73)) rfl TF.agg_29 hl ⟨rfl, rfl⟩) ?_
   obtain ⟨A74, e75, s⟩ := s
   refine zqe rfl (sem_nilCheck A74 (congrArg Value.pointer e75) ⟨rfl, rfl⟩) ?_
   refine auT 1 rfl ?_
   obtain ⟨p76, hl, s⟩ := s
   refine zqe rfl (sem_load1 A74 ((.pointer p76)) rfl TF.agg_39 hl ⟨rfl, rfl⟩) ?_
   refine auT 2 rfl ?_
   obtain ⟨p77, hl, s⟩ := s
   refine zqe rfl (sem_load1 ⟨k8, 0, none⟩ ((.pointer p77)) rfl TF.agg_29 hl ⟨rfl, rfl⟩) ?_
   obtain ⟨A78, e79, s⟩ := s
   refine zqe rfl (sem_nilCheck A78 (congrArg Value.pointer e79) ⟨rfl, rfl⟩) ?_
   refine auT 1 rfl ?_
   obtain ⟨i80, hl, s⟩ := s
   refine zqe rfl (sem_load1 (Addr.add A78 3) ((.int .i64 (i80))) rfl TF.agg_3 hl ⟨rfl, rfl⟩) ?_
   refine ⟨zo rfl (sem_callL [(.pointer p76), (.int .i64 (i66)), (.int .i64 (i67)), (.int .i64 (i80))] (TF.goes_44) rfl rfl (Spec.mono s fun v h81 hv => ?_)), trivial⟩
   obtain ⟨b82, rfl, s⟩ := hv
   refine ⟨fun hz => Bool.noConfusion hz, ?_⟩
   refine au 1 rfl ?_
   refine Run.of_fin (s.imp fun h' s => ?_)
   exact Run.fall (.inl ⟨rfl, s⟩)
  ·intro h69 hJ
   have s := hR h69 (by simpa using hJ); clear hJ hR
   refine au 1 rfl ?_
   exact Run.of_fin (s.imp fun h' s => j18 _ _ ⟨⟨rfl, rfl, trivial⟩, s⟩)
theorem C_countermandlaw20_great.of {B : RO} {a1 : Option Addr} {n2 : Nat} {c3 : Nat} {h : Heap} {Q : Bool → Heap → Prop} (s : S_countermandlaw20_great B a1 n2 c3 h Q) : C_countermandlaw20_great B a1 n2 c3 h Q := by
 refine zspec Tryz.func15 [ResultVar.tmp 2] rfl rfl rfl rfl rfl ?_
 refine au 8 rfl ?_
 refine zg rfl (sem_lenSl a1 n2 c3 rfl TF.sl_45 ?_)
 refine zt s rfl rfl rfl binI_gtr_t binI_gtr_f (fun s => ?_) fun s => ?_
 ·refine au 6 rfl ?_
  exact zr (s.imp fun _ q => ⟨_, rfl, q⟩)
 ·refine au 7 rfl ?_
  refine zg rfl (sem_lenSl a1 n2 c3 rfl TF.sl_45 ?_)
  refine au 3 rfl ?_
  obtain ⟨J10, m8, h0, s⟩ := s
  refine Run.of_fin (h0.imp fun h' h0 => ?_)
  refine Run.loop (σ := Int × Nat) (fun x e h => J10 x.1 x.2 h ∧ Agree [(8, (.slice a1 n2 c3)), (9, (.int .i64 ((n2 : Nat)))), (10, (.int .i64 (x.1)))] e) (fun x => x.2) ((0), m8) ⟨h0, ⟨rfl, rfl, rfl, trivial⟩⟩ ?_; clear h0
  rintro ⟨i5, m7⟩ e h6 ⟨hJ, hag⟩ ih9
  have s := s i5 m7 h6 hJ; clear hJ
  refine Run.env hag ?_; clear hag
  refine au 2 rfl ?_
  refine zt s rfl rfl rfl binI_lss_t binI_lss_f (fun s => ?_) fun s => ?_
  ·refine au 8 rfl ?_
   obtain ⟨A11, e12, hi0, hi1, s⟩ := s
   refine zg rfl (sem_indexAddrS A11 n2 c3 .i64 (i5) (congrArg (fun a => Value.slice a n2 c3) e12) rfl TF.slc_45 hi0 hi1 ?_)
   obtain ⟨i13, i14, i15, i16, i17, s18, hl, s⟩ := s
   refine zn hl rfl rfl TF.agg_48 TF.sz_48 rfl ?_
   refine zal s rfl TF.zero_48 rfl fun k19 h20 s => ?_
   refine zsn s rfl rfl rfl TF.sz_48 rfl fun h21 s => ?_
   refine au 4 rfl ?_
   refine zl s rfl rfl TF.agg_9 fun s22 s => ?_
   refine zg rfl (sem_lenStr s22 rfl TF.isStr_9 ?_)
   refine zt s rfl rfl rfl binI_gtr_t binI_gtr_f (fun s => ?_) fun s => ?_
   ·refine au 6 rfl ?_
    exact zr (s.imp fun _ q => ⟨_, rfl, q⟩)
   ·refine au 8 rfl ?_
    exact Run.of_fin (s.imp fun h' ⟨m', hm, s⟩ => ih9 ((IntKind.wrap .i64 ((i5) + (1))), m') _ _ ⟨s, ⟨rfl, rfl, rfl, trivial⟩⟩ hm)
  ·refine au 8 rfl ?_
   exact zr (s.imp fun _ q => ⟨_, rfl, q⟩)
theorem C_countermandlaw20_things.of {B : RO} {p1 : Option Addr} {h : Heap} {Q : List Value → ByteArray → ByteArray → ByteArray → Heap → Prop} (s : S_countermandlaw20_things B p1 h Q) : C_countermandlaw20_things B p1 h Q := by
 refine zspec Tryz.func16 [ResultVar.cell 2 55, ResultVar.cell 3 56] rfl rfl rfl rfl rfl ?_
 refine au 2 rfl ?_
 refine zal s rfl TF.zero_55 rfl fun k6 h7 s => ?_
 refine zal s rfl TF.zero_56 rfl fun k8 h9 s => ?_
 refine au 3 rfl ?_
 refine zal s rfl TF.zero_55 rfl fun k10 h11 s => ?_
 refine au 3 rfl ?_
 refine zal s rfl TF.zero_56 rfl fun k12 h13 s => ?_
 refine au 1 rfl ?_
 refine Run.seqJ (fun e h15 => Agree [(0, (.pointer p1)), (2, (.pointer (some ⟨k6, 0, none⟩))), (3, (.pointer (some ⟨k8, 0, none⟩))), (4, (.pointer (some ⟨k10, 0, none⟩))), (5, (.pointer (some ⟨k12, 0, none⟩)))] e ∧ S_countermandlaw20_things_J1 B p1 k6 k8 k10 k12 h15 Q) ?_ fun j14 => ?_
 ·rintro e h15 ⟨hag, s⟩
  refine Run.env hag ?_; clear hag
  refine Run.seqJ (fun e h17 => Agree [(0, (.pointer p1)), (2, (.pointer (some ⟨k6, 0, none⟩))), (3, (.pointer (some ⟨k8, 0, none⟩))), (4, (.pointer (some ⟨k10, 0, none⟩))), (5, (.pointer (some ⟨k12, 0, none⟩)))] e ∧ S_countermandlaw20_things_J2 B p1 k6 k8 k10 k12 h17 Q) ?_ fun j16 => ?_
  ·rintro e h17 ⟨hag, s⟩
   refine Run.env hag ?_; clear hag
   refine au 6 rfl ?_
   obtain ⟨J23, m21, h0, s⟩ := s
   refine Run.of_fin (h0.imp fun h' h0 => ?_)
   refine Run.loop (σ := Int × Nat) (fun x e h => J23 x.1 x.2 h ∧ Agree [(0, (.pointer p1)), (2, (.pointer (some ⟨k6, 0, none⟩))), (3, (.pointer (some ⟨k8, 0, none⟩))), (4, (.pointer (some ⟨k10, 0, none⟩))), (5, (.pointer (some ⟨k12, 0, none⟩))), (44, (.int .i64 (x.1)))] e) (fun x => x.2) ((0), m21) ⟨h0, ⟨rfl, rfl, rfl, rfl, rfl, rfl, trivial⟩⟩ ?_; clear h0
   rintro ⟨i18, m20⟩ e h19 ⟨hJ, hag⟩ ih22
   have s := s i18 m20 h19 hJ; clear hJ
   refine Run.env hag ?_; clear hag
   refine au 2 rfl ?_
   refine zt s rfl rfl rfl binI_lss_t binI_lss_f (fun s => ?_) fun s => ?_
   ·refine au 15 rfl ?_
    refine znil s rfl rfl fun A24 s => ?_
    refine au 1 rfl ?_
    refine zl s rfl rfl TF.agg_41 fun p26 s => ?_
    refine au 1 rfl ?_
    refine zcall s rfl rfl TF.goes_47 ?_
    rintro _ h27 ⟨i28, i29, rfl, s⟩
    refine au 4 rfl ?_
    obtain ⟨hi0, hi1, s⟩ := s
    refine zg rfl (sem_indexAddrA ⟨k10, 20, none⟩ .i64 (i18) rfl rfl TF.arr_53 hi0 hi1 ?_)
    refine zs1 s rfl rfl rfl rfl TF.sz_3 fun h30 s => ?_
    refine au 4 rfl ?_
    refine znil s rfl rfl fun A31 s => ?_
    refine au 1 rfl ?_
    refine zl s rfl rfl TF.agg_41 fun p33 s => ?_
    refine au 1 rfl ?_
    refine zcall s rfl rfl TF.goes_50 ?_
    rintro _ h34 ⟨s35, rfl, s⟩
    obtain ⟨hi0, hi1, s⟩ := s
    refine zg rfl (sem_indexAddrA ⟨k12, 0, none⟩ .i64 (i18) rfl rfl TF.arr_56 hi0 hi1 ?_)
    refine zs1 s rfl rfl rfl rfl TF.sz_9 fun h36 s => ?_
    refine au 6 rfl ?_
    exact Run.of_fin (s.imp fun h' ⟨m', hm, s⟩ => ih22 ((IntKind.wrap .i64 ((i18) + (1))), m') _ _ ⟨s, ⟨rfl, rfl, rfl, rfl, rfl, rfl, trivial⟩⟩ hm)
   ·refine au 5 rfl ?_
    obtain ⟨l37, nl37, hl, s⟩ := s
    have f38 := hl
    obtain ⟨s39, s40, s41, hl, s⟩ := s
    have f42 := hl
    refine Run.drawM (fun h' => CellsAt B h' ⟨k10, 0, none⟩ 0 l37 ∧ CellsAt B h' ⟨k12, 0, none⟩ 0 [(.string s39), (.string s40), (.string s41)] ∧ True) [3] ⟨[0, 0, 1, 7], [15, 15, 14, 13], [0, 0, 1, 7], 8⟩ (.q 0 (.q 1 (.x 2 (.x 3 .nil .no) .no))) TF.mixed (by kernel_rfl) ⟨f38, f42, trivial⟩ ?_
    refine zq rfl (fun _ hC => sem_loadN ⟨k10, 0, none⟩ l37 rfl TF.agg_55 (TF.sz_55.trans (congrArg some nl37.symm)) hC.1 ⟨rfl, rfl⟩) ?_
    refine zq rfl (fun _ hC => sem_loadN ⟨k12, 0, none⟩ [(.string s39), (.string s40), (.string s41)] rfl TF.agg_56 TF.sz_56 hC.2.1 ⟨rfl, rfl⟩) ?_
    obtain ⟨hln, h43, hst, s⟩ := s
    refine ⟨zo0 rfl (sem_storeN ⟨k6, 0, none⟩ l37 h43 rfl rfl (TF.sz_55.trans (congrArg some hln.symm)) hst ?_), trivial⟩
    obtain ⟨g44, g45, s⟩ := s
    refine ⟨fun _ => ⟨g44, g45, trivial⟩, ?_⟩
    obtain ⟨h46, hst, s⟩ := s
    refine ⟨zo0 rfl (sem_storeN ⟨k8, 0, none⟩ [(.string s39), (.string s40), (.string s41)] h46 rfl rfl TF.sz_56 hst ?_), trivial⟩
    refine ⟨fun hz => Bool.noConfusion hz, ?_⟩
    obtain ⟨l47, hln0, hl0, s⟩ := s
    obtain ⟨s48, s49, s50, hl1, s⟩ := s
    exact zr (⟨⟨k6, 0, none⟩, (.agg (List.toArray l47)), rfl, loadHN TF.agg_55 (TF.sz_55.trans (congrArg some hln0.symm)) hl0, ⟨⟨k8, 0, none⟩, (.agg #[(.string s48), (.string s49), (.string s50)]), rfl, loadHN TF.agg_56 TF.sz_56 hl1, s.imp fun _ q => ⟨_, _, _, _, rfl, q⟩⟩⟩)
  refine au 5 rfl ?_
  obtain ⟨J56, m54, h0, s⟩ := s
  refine Run.of_fin (h0.imp fun h' h0 => ?_)
  refine Run.loop (σ := Int × Nat) (fun x e h => J56 x.1 x.2 h ∧ Agree [(0, (.pointer p1)), (2, (.pointer (some ⟨k6, 0, none⟩))), (3, (.pointer (some ⟨k8, 0, none⟩))), (4, (.pointer (some ⟨k10, 0, none⟩))), (5, (.pointer (some ⟨k12, 0, none⟩))), (27, (.int .i64 (x.1)))] e) (fun x => x.2) ((0), m54) ⟨h0, ⟨rfl, rfl, rfl, rfl, rfl, rfl, trivial⟩⟩ ?_; clear h0
  rintro ⟨i51, m53⟩ e h52 ⟨hJ, hag⟩ ih55
  have s := s i51 m53 h52 hJ; clear hJ
  refine Run.env hag ?_; clear hag
  refine au 2 rfl ?_
  refine zt s rfl rfl rfl binI_lss_t binI_lss_f (fun s => ?_) fun s => ?_
  ·refine au 14 rfl ?_
   refine znil s rfl rfl fun A57 s => ?_
   refine au 1 rfl ?_
   refine zl s rfl rfl TF.agg_40 fun p59 s => ?_
   refine au 1 rfl ?_
   refine zcall s rfl rfl TF.goes_49 ?_
   rintro _ h60 ⟨b61, s62, i63, rfl, s⟩
   refine au 3 rfl ?_
   refine zal s rfl TF.zero_119 rfl fun k64 h65 s => ?_
   refine zsn s rfl rfl rfl TF.sz_119 rfl fun h66 s => ?_
   refine au 4 rfl ?_
   obtain ⟨b67, s68, hl, s⟩ := s
   refine zn hl rfl rfl TF.agg_119 TF.sz_119 rfl ?_
   refine au 1 rfl ?_
   obtain ⟨hi0, hi1, s⟩ := s
   refine zg rfl (sem_indexAddrA ⟨k10, 8, none⟩ .i64 (i51) rfl rfl TF.arr_52 hi0 hi1 ?_)
   refine zsn s rfl rfl rfl TF.sz_51 rfl fun h69 s => ?_
   refine au 6 rfl ?_
   exact Run.of_fin (s.imp fun h' ⟨m', hm, s⟩ => ih55 ((IntKind.wrap .i64 ((i51) + (1))), m') _ _ ⟨s, ⟨rfl, rfl, rfl, rfl, rfl, rfl, trivial⟩⟩ hm)
  ·refine au 4 rfl ?_
   exact Run.of_fin (s.imp fun h' s => j16 _ _ ⟨⟨rfl, rfl, rfl, rfl, rfl, trivial⟩, s⟩)
 refine au 5 rfl ?_
 obtain ⟨J75, m73, h0, s⟩ := s
 refine Run.of_fin (h0.imp fun h' h0 => ?_)
 refine Run.loop (σ := Int × Nat) (fun x e h => J75 x.1 x.2 h ∧ Agree [(0, (.pointer p1)), (2, (.pointer (some ⟨k6, 0, none⟩))), (3, (.pointer (some ⟨k8, 0, none⟩))), (4, (.pointer (some ⟨k10, 0, none⟩))), (5, (.pointer (some ⟨k12, 0, none⟩))), (11, (.int .i64 (x.1)))] e) (fun x => x.2) ((0), m73) ⟨h0, ⟨rfl, rfl, rfl, rfl, rfl, rfl, trivial⟩⟩ ?_; clear h0
 rintro ⟨i70, m72⟩ e h71 ⟨hJ, hag⟩ ih74
 have s := s i70 m72 h71 hJ; clear hJ
 refine Run.env hag ?_; clear hag
 refine au 2 rfl ?_
 refine zt s rfl rfl rfl binI_lss_t binI_lss_f (fun s => ?_) fun s => ?_
 ·refine au 14 rfl ?_
  refine znil s rfl rfl fun A76 s => ?_
  refine au 1 rfl ?_
  refine zl s rfl rfl TF.agg_39 fun p78 s => ?_
  refine au 1 rfl ?_
  refine zcall s rfl rfl TF.goes_41 ?_
  rintro _ h79 ⟨i80, i81, rfl, s⟩
  refine au 4 rfl ?_
  obtain ⟨hi0, hi1, s⟩ := s
  refine zg rfl (sem_indexAddrA ⟨k10, 0, none⟩ .i64 (i70) rfl rfl TF.arr_49 hi0 hi1 ?_)
  refine zs1 s rfl rfl rfl rfl TF.sz_3 fun h82 s => ?_
  refine au 6 rfl ?_
  exact Run.of_fin (s.imp fun h' ⟨m', hm, s⟩ => ih74 ((IntKind.wrap .i64 ((i70) + (1))), m') _ _ ⟨s, ⟨rfl, rfl, rfl, rfl, rfl, rfl, trivial⟩⟩ hm)
 ·refine au 4 rfl ?_
  exact Run.of_fin (s.imp fun h' s => j14 _ _ ⟨⟨rfl, rfl, rfl, rfl, rfl, trivial⟩, s⟩)
theorem C_countermandlaw20_does.of {B : RO} {p1 : Option Addr} {i2 : Int} {i3 : Int} {i4 : Int} {i5 : Int} {h : Heap} {Q : Int → Int → Heap → Prop} (s : S_countermandlaw20_does B p1 i2 i3 i4 i5 h Q) : C_countermandlaw20_does B p1 i2 i3 i4 i5 h Q := by
 refine zspec Tryz.func17 [ResultVar.tmp 4, ResultVar.tmp 5] rfl rfl rfl rfl rfl ?_
 refine au 2 rfl ?_
 refine zbn s rfl rfl rfl fun k8 h9 s => ?_
 refine au 7 rfl ?_
 refine zl s rfl rfl TF.agg_3 fun i10 s => ?_
 refine au 4 rfl ?_
 refine zt s rfl rfl rfl binI_eql_t binI_eql_f (fun s => ?_) fun s => ?_
 ·refine au 7 rfl ?_
  refine zl s rfl rfl TF.agg_3 fun i11 s => ?_
  refine zcall s rfl rfl TF.goes_11 ?_
  rintro _ h12 ⟨i13, i14, rfl, s⟩
  refine au 5 rfl ?_
  exact zr (s.imp fun _ q => ⟨_, _, rfl, q⟩)
 ·refine au 5 rfl ?_
  refine zt s rfl rfl rfl binI_eql_t binI_eql_f (fun s => ?_) fun s => ?_
  ·refine au 7 rfl ?_
   refine zl s rfl rfl TF.agg_3 fun i15 s => ?_
   refine au 1 rfl ?_
   refine zl s rfl rfl TF.agg_3 fun i16 s => ?_
   refine zcall s rfl rfl TF.goes_21 ?_
   rintro _ h17 ⟨i18, rfl, s⟩
   refine au 3 rfl ?_
   exact zr (s.imp fun _ q => ⟨_, _, rfl, q⟩)
  ·refine au 5 rfl ?_
   refine zt s rfl rfl rfl binI_eql_t binI_eql_f (fun s => ?_) fun s => ?_
   ·refine au 7 rfl ?_
    refine zl s rfl rfl TF.agg_3 fun i19 s => ?_
    refine au 1 rfl ?_
    refine zl s rfl rfl TF.agg_3 fun i20 s => ?_
    refine zcall s rfl rfl TF.goes_51 ?_
    rintro _ h21 ⟨i22, i23, rfl, s⟩
    refine au 5 rfl ?_
    exact zr (s.imp fun _ q => ⟨_, _, rfl, q⟩)
   ·refine au 5 rfl ?_
    refine zt s rfl rfl rfl binI_eql_t binI_eql_f (fun s => ?_) fun s => ?_
    ·refine au 7 rfl ?_
     refine zl s rfl rfl TF.agg_3 fun i24 s => ?_
     refine au 1 rfl ?_
     refine zl s rfl rfl TF.agg_3 fun i25 s => ?_
     refine au 1 rfl ?_
     refine zl s rfl rfl TF.agg_5 fun i26 s => ?_
     refine zcall s rfl rfl TF.goes_52 ?_
     rintro _ h27 ⟨i28, rfl, s⟩
     refine au 3 rfl ?_
     exact zr (s.imp fun _ q => ⟨_, _, rfl, q⟩)
    ·refine au 5 rfl ?_
     refine zt s rfl rfl rfl binI_eql_t binI_eql_f (fun s => ?_) fun s => ?_
     ·refine au 7 rfl ?_
      refine zl s rfl rfl TF.agg_3 fun i29 s => ?_
      refine zcall s rfl rfl TF.goes_53 ?_
      rintro _ h30 ⟨i31, rfl, s⟩
      refine au 3 rfl ?_
      exact zr (s.imp fun _ q => ⟨_, _, rfl, q⟩)
     ·refine au 5 rfl ?_
      refine zt s rfl rfl rfl binI_eql_t binI_eql_f (fun s => ?_) fun s => ?_
      ·refine au 7 rfl ?_
       refine zl s rfl rfl TF.agg_3 fun i32 s => ?_
       refine zcall s rfl rfl TF.goes_54 ?_
       rintro _ h33 ⟨i34, rfl, s⟩
       refine au 3 rfl ?_
       exact zr (s.imp fun _ q => ⟨_, _, rfl, q⟩)
      ·refine au 5 rfl ?_
       refine zt s rfl rfl rfl binI_eql_t binI_eql_f (fun s => ?_) fun s => ?_
       ·refine au 7 rfl ?_
        refine zl s rfl rfl TF.agg_3 fun i35 s => ?_
        refine au 1 rfl ?_
        refine zl s rfl rfl TF.agg_3 fun i36 s => ?_
        refine zcall s rfl rfl TF.goes_55 ?_
        rintro _ h37 ⟨i38, rfl, s⟩
        refine au 3 rfl ?_
        exact zr (s.imp fun _ q => ⟨_, _, rfl, q⟩)
       ·refine au 5 rfl ?_
        refine zt s rfl rfl rfl binI_eql_t binI_eql_f (fun s => ?_) fun s => ?_
        ·refine au 7 rfl ?_
         refine zl s rfl rfl TF.agg_3 fun i39 s => ?_
         refine au 1 rfl ?_
         refine zl s rfl rfl TF.agg_3 fun i40 s => ?_
         refine zcall s rfl rfl TF.goes_56 ?_
         rintro _ h41 ⟨i42, rfl, s⟩
         refine au 3 rfl ?_
         exact zr (s.imp fun _ q => ⟨_, _, rfl, q⟩)
        ·refine au 5 rfl ?_
         refine zt s rfl rfl rfl binI_eql_t binI_eql_f (fun s => ?_) fun s => ?_
         ·refine au 7 rfl ?_
          refine zl s rfl rfl TF.agg_3 fun i43 s => ?_
          refine zcall s rfl rfl TF.goes_57 ?_
          rintro _ h44 ⟨i45, i46, rfl, s⟩
          refine au 5 rfl ?_
          exact zr (s.imp fun _ q => ⟨_, _, rfl, q⟩)
         ·refine au 10 rfl ?_
          exact zr (s.imp fun _ q => ⟨_, _, rfl, q⟩)
theorem C_feed_Feed_Arrive.of {B : RO} {p1 : Option Addr} {i2 : Int} {s3 : ByteArray} {h : Heap} {Q : Int → Heap → Prop} (s : S_feed_Feed_Arrive B p1 i2 s3 h Q) : C_feed_Feed_Arrive B p1 i2 s3 h Q := by
 refine zspec Tryz.func18 [ResultVar.tmp 6] rfl rfl rfl rfl rfl ?_
 refine au 4 rfl ?_
 refine Run.seqJ (fun e h6 => Agree [(0, (.pointer p1)), (1, (.int .i64 (i2))), (2, (.string s3))] e ∧ S_feed_Feed_Arrive_J1 B p1 i2 s3 h6 Q) ?_ fun j5 => ?_
 ·rintro e h6 ⟨hag, s⟩
  refine Run.env hag ?_; clear hag
  refine au 1 rfl ?_
  refine Run.drawM (fun h' => h' = h6) [11] ⟨[0, 0, 1, 4, 10, 16, 0, 96, 1, 256, 767, 1279], [4095, 4095, 4094, 4091, 4085, 4079, 4095, 3999, 4094, 3839, 3581, 2943], [0, 0, 1, 5, 15, 31, 0, 127, 1, 257, 1023, 2047], 2048⟩ (.q 0 (.q 1 (.q 2 (.q 3 (.q 4 (.q 5 (.q 6 (.q 7 (.q 8 (.q 9 (.q 10 (.x 11 .nil .no)))))))))))) TF.mixed (by kernel_rfl) rfl ?_
  refine auT 2 rfl ?_
  obtain ⟨A7, e8, s⟩ := s
  refine zqe rfl (sem_nilCheck A7 (congrArg Value.pointer e8) ⟨rfl, rfl⟩) ?_
  refine auT 1 rfl ?_
  obtain ⟨hi0, hi1, s⟩ := s
  refine zqe rfl (sem_indexAddrA A7 .i64 (i2) rfl rfl TF.arr_56 hi0 hi1 ⟨rfl, rfl⟩) ?_
  obtain ⟨s9, hl, s⟩ := s
  refine zqe rfl (sem_load1 (Addr.add A7 (Int.toNat (i2) * 1)) ((.string s9)) rfl TF.agg_9 hl ⟨rfl, rfl⟩) ?_
  refine auT 1 rfl ?_
  obtain ⟨hi0, s⟩ := s
  refine zqe rfl (sem_strAdd s9 s3 rfl rfl hi0 ⟨rfl, rfl⟩) ?_
  obtain ⟨A10, e11, s⟩ := s
  refine zqe rfl (sem_nilCheck A10 (congrArg Value.pointer e11) ⟨rfl, rfl⟩) ?_
  refine auT 1 rfl ?_
  obtain ⟨hi0, hi1, s⟩ := s
  refine zqe rfl (sem_indexAddrA A10 .i64 (i2) rfl rfl TF.arr_56 hi0 hi1 ⟨rfl, rfl⟩) ?_
  obtain ⟨h12, hst, s⟩ := s
  refine ⟨zo0 rfl (sem_store1 (Addr.add A10 (Int.toNat (i2) * 1)) ((.string (s9 ++ s3))) h12 rfl rfl rfl TF.sz_9 hst ?_), trivial⟩
  refine ⟨fun hz => Bool.noConfusion hz, ?_⟩
  refine au 4 rfl ?_
  exact zr (s.imp fun _ q => ⟨_, rfl, q⟩)
 refine au 4 rfl ?_
 by_cases hb13 : p1 = none
 ·replace s := s.1 hb13
  refine zg rfl (sem_ptrNilT p1 (.inl rfl) true rfl rfl TF.ptr_41 hb13 rfl ?_)
  refine au 7 rfl ?_
  exact zr (s.imp fun _ q => ⟨_, rfl, q⟩)
 ·replace s := s.2 hb13
  refine zg rfl (sem_ptrNilF p1 (.inl rfl) false rfl rfl TF.ptr_41 hb13 rfl ?_)
  refine au 7 rfl ?_
  refine zcall s rfl rfl TF.goes_58 ?_
  rintro _ h14 ⟨b15, rfl, s⟩
  cases b15
  ·replace s := s.2 rfl
   refine au 8 rfl ?_
   exact zr (s.imp fun _ q => ⟨_, rfl, q⟩)
  ·replace s := s.1 rfl
   refine au 7 rfl ?_
   refine zg rfl (sem_lenStr s3 rfl TF.isStr_9 ?_)
   refine au 2 rfl ?_
   refine znil s rfl rfl fun A16 s => ?_
   refine au 1 rfl ?_
   obtain ⟨hi0, hi1, s⟩ := s
   refine zg rfl (sem_indexAddrA A16 .i64 (i2) rfl rfl TF.arr_56 hi0 hi1 ?_)
   refine zl s rfl rfl TF.agg_9 fun s18 s => ?_
   refine zg rfl (sem_lenStr s18 rfl TF.isStr_9 ?_)
   refine au 1 rfl ?_
   refine zt s rfl rfl rfl binI_gtr_t binI_gtr_f (fun s => ?_) fun s => ?_
   ·refine au 7 rfl ?_
    exact zr (s.imp fun _ q => ⟨_, rfl, q⟩)
   ·refine au 5 rfl ?_
    exact Run.of_fin (s.imp fun h' s => j5 _ _ ⟨⟨rfl, rfl, rfl, trivial⟩, s⟩)
theorem C_countermandref20_Do.of {B : RO} {l1 : List Value} {s2 : ByteArray} {s3 : ByteArray} {s4 : ByteArray} {a5 : Option Addr} {n6 : Nat} {c7 : Nat} {h : Heap} {Q : Int → List Value → Heap → Prop} (s : S_countermandref20_Do B l1 s2 s3 s4 a5 n6 c7 h Q) : C_countermandref20_Do B l1 s2 s3 s4 a5 n6 c7 h Q := by
 refine zspec Tryz.func19 [ResultVar.tmp 6, ResultVar.cell 7 55] rfl rfl rfl rfl rfl ?_
 refine au 2 rfl ?_
 refine zg rfl (sem_boxNN l1 rfl (fun k10 hb1 hb2 h11 hb3 => ?_))
 have s := s k10 hb1 hb2 h11 hb3
 refine zbn s rfl rfl rfl fun k12 h13 s => ?_
 refine au 1 rfl ?_
 refine zal s rfl TF.zero_55 rfl fun k14 h15 s => ?_
 refine au 4 rfl ?_
 obtain ⟨l16, nl16, hl, s⟩ := s
 refine zg rfl (sem_loadN ⟨k10, 8, none⟩ l16 rfl TF.agg_52 (TF.sz_52.trans (congrArg some nl16.symm)) hl ?_)
 refine au 1 rfl ?_
 obtain ⟨l17, nl17, hl, s⟩ := s
 refine zg rfl (sem_loadN ⟨k10, 8, none⟩ l17 rfl TF.agg_52 (TF.sz_52.trans (congrArg some nl17.symm)) hl ?_)
 refine zg rfl (sem_buildS2 l16 l17 [(.bool false), (.bool false), (.bool false), (.bool false), (.bool false), (.bool false)] TF.zero_132 TF.places_132 rfl nl16 nl17 rfl rfl rfl ?_)
 refine zg rfl (sem_boxNN (l16 ++ l17 ++ [(.bool false), (.bool false), (.bool false), (.bool false), (.bool false), (.bool false)]) rfl (fun k18 hb1 hb2 h19 hb3 => ?_))
 have s := s k18 hb1 hb2 h19 hb3
 refine au 6 rfl ?_
 refine Run.seqJ (fun e h22 => ∃ i21 : Int, Agree [(3, (.pointer (some ⟨k10, 0, none⟩))), (7, (.pointer (some ⟨k14, 0, none⟩))), (8, (.pointer (some ⟨k18, 0, none⟩))), (9, (.int .i64 (i21)))] e ∧ S_countermandref20_Do_J1 B k10 k14 k18 i21 h22 Q) ?_ fun j20 => ?_
 ·rintro e h22 ⟨i21, hag, s⟩
  refine Run.env hag ?_; clear hag
  refine au 5 rfl ?_
  obtain ⟨l23, nl23, hl, s⟩ := s
  refine zg rfl (sem_loadN ⟨k18, 12, none⟩ l23 rfl TF.agg_52 (TF.sz_52.trans (congrArg some nl23.symm)) hl ?_)
  refine au 1 rfl ?_
  obtain ⟨hln, h24, hst, s⟩ := s
  refine zg0 rfl (sem_storeN ⟨k10, 8, none⟩ l23 h24 rfl rfl (TF.sz_52.trans (congrArg some hln.symm)) hst ?_)
  refine au 2 rfl ?_
  refine Run.drawM (fun h' => h' = h24) [3] ⟨[0, 0, 1, 7], [15, 15, 14, 13], [0, 0, 1, 7], 8⟩ (.q 0 (.q 1 (.q 2 (.x 3 .nil .no)))) TF.mixed (by kernel_rfl) rfl ?_
  refine auT 1 rfl ?_
  obtain ⟨l25, nl25, hl, s⟩ := s
  refine zqe rfl (sem_loadN ⟨k10, 0, none⟩ l25 rfl TF.agg_55 (TF.sz_55.trans (congrArg some nl25.symm)) hl ⟨rfl, rfl⟩) ?_
  refine auT 1 rfl ?_
  obtain ⟨hln, h26, hst, s⟩ := s
  refine ⟨zo0 rfl (sem_storeN ⟨k14, 0, none⟩ l25 h26 rfl rfl (TF.sz_55.trans (congrArg some hln.symm)) hst ?_), trivial⟩
  refine ⟨fun hz => Bool.noConfusion hz, ?_⟩
  obtain ⟨l27, hln1, hl1, s⟩ := s
  exact zr (⟨⟨k14, 0, none⟩, (.agg (List.toArray l27)), rfl, loadHN TF.agg_55 (TF.sz_55.trans (congrArg some hln1.symm)) hl1, s.imp fun _ q => ⟨_, _, rfl, q⟩⟩)
 refine au 3 rfl ?_
 refine zg rfl (sem_lenSl a5 n6 c7 rfl TF.sl_31 ?_)
 refine au 3 rfl ?_
 obtain ⟨J34, m32, h0, s⟩ := s
 refine Run.of_fin (h0.imp fun h' h0 => ?_)
 refine Run.loop (σ := Int × Int × Nat) (fun x e h => J34 x.1 x.2.1 x.2.2 h ∧ Agree [(3, (.pointer (some ⟨k10, 0, none⟩))), (4, (.pointer (some ⟨k12, 0, none⟩))), (7, (.pointer (some ⟨k14, 0, none⟩))), (8, (.pointer (some ⟨k18, 0, none⟩))), (9, (.int .i64 (x.1))), (18, (.slice a5 n6 c7)), (19, (.int .i64 ((n6 : Nat)))), (20, (.int .i64 (x.2.1)))] e) (fun x => x.2.2) ((0), (0), m32) ⟨h0, ⟨rfl, rfl, rfl, rfl, rfl, rfl, rfl, rfl, trivial⟩⟩ ?_; clear h0
 rintro ⟨i28, i29, m31⟩ e h30 ⟨hJ, hag⟩ ih33
 have s := s i28 i29 m31 h30 hJ; clear hJ
 refine Run.env hag ?_; clear hag
 refine au 2 rfl ?_
 refine zt s rfl rfl rfl binI_lss_t binI_lss_f (fun s => ?_) fun s => ?_
 ·refine au 8 rfl ?_
  obtain ⟨A35, e36, hi0, hi1, s⟩ := s
  refine zg rfl (sem_indexAddrS A35 n6 c7 .i64 (i29) (congrArg (fun a => Value.slice a n6 c7) e36) rfl TF.slc_31 hi0 hi1 ?_)
  obtain ⟨i37, i38, i39, i40, hl, s⟩ := s
  refine zn hl rfl rfl TF.agg_38 TF.sz_38 rfl ?_
  refine zal s rfl TF.zero_38 rfl fun k41 h42 s => ?_
  refine zsn s rfl rfl rfl TF.sz_38 rfl fun h43 s => ?_
  refine au 8 rfl ?_
  refine zl s rfl rfl TF.agg_3 fun i44 s => ?_
  refine au 4 rfl ?_
  refine zt s rfl rfl rfl binI_eql_t binI_eql_f (fun s => ?_) fun s => ?_
  ·refine au 5 rfl ?_
   refine zl s rfl rfl TF.agg_3 fun i45 s => ?_
   refine au 1 rfl ?_
   obtain ⟨hi0, hi1, s⟩ := s
   refine zg rfl (sem_indexAddrA ⟨k10, 0, none⟩ .i64 (i45) rfl rfl TF.arr_49 hi0 hi1 ?_)
   refine zl s rfl rfl TF.agg_3 fun i46 s => ?_
   refine au 8 rfl ?_
   exact Run.of_fin (s.imp fun h' ⟨m', hm, s⟩ => ih33 ((i46), (IntKind.wrap .i64 ((i29) + (1))), m') _ _ ⟨s, ⟨rfl, rfl, rfl, rfl, rfl, rfl, rfl, rfl, trivial⟩⟩ hm)
  ·refine au 5 rfl ?_
   refine zt s rfl rfl rfl binI_eql_t binI_eql_f (fun s => ?_) fun s => ?_
   ·refine au 5 rfl ?_
    refine zl s rfl rfl TF.agg_3 fun i47 s => ?_
    refine au 1 rfl ?_
    refine zl s rfl rfl TF.agg_3 fun i48 s => ?_
    refine au 1 rfl ?_
    obtain ⟨hi0, hi1, s⟩ := s
    refine zg rfl (sem_indexAddrA ⟨k10, 0, none⟩ .i64 (i47) rfl rfl TF.arr_49 hi0 hi1 ?_)
    refine zs1 s rfl rfl rfl rfl TF.sz_3 fun h49 s => ?_
    refine au 7 rfl ?_
    exact Run.of_fin (s.imp fun h' ⟨m', hm, s⟩ => ih33 ((0), (IntKind.wrap .i64 ((i29) + (1))), m') _ _ ⟨s, ⟨rfl, rfl, rfl, rfl, rfl, rfl, rfl, rfl, trivial⟩⟩ hm)
   ·refine au 5 rfl ?_
    refine zt s rfl rfl rfl binI_eql_t binI_eql_f (fun s => ?_) fun s => ?_
    ·refine au 3 rfl ?_
     obtain ⟨i52, hl, s⟩ := s
     have f53 := hl
     obtain ⟨hi0, hi1, s⟩ := s
     have f57 := hi0; have f58 := hi1
     obtain ⟨b59, s60, hl, s⟩ := s
     have f61 := hl
     obtain ⟨i63, hl, s⟩ := s
     have f64 := hl
     refine Run.drawM (fun h' => cellH B h' ⟨k41, 1, none⟩ = some (.int .i64 (i52)) ∧ CellsAt B h' (Addr.add ⟨k18, 12, none⟩ (Int.toNat (i52) * 2)) 0 [(.bool b59), (.string s60)] ∧ cellH B h' ⟨k41, 2, none⟩ = some (.int .i64 (i63)) ∧ True) [] ⟨[0, 0, 2, 1, 8, 20, 32, 0, 128, 320, 1023], [2047, 2047, 2045, 2046, 2039, 2027, 2015, 2047, 1919, 1727, 1535], [0, 0, 0, 0, 0, 0, 0, 0, 0, 0, 0], 0⟩ (.q 0 (.q 1 (.q 2 (.q 3 (.q 4 (.q 5 (.q 6 (.q 7 (.q 8 (.x 9 (.q 10 .nil) .no)))))))))) TF.mixed (by kernel_rfl) ⟨f53, f61, f64, trivial⟩ ?_
     refine auT 2 rfl ?_
     refine zq rfl (fun _ hC => sem_load1 ⟨k41, 1, none⟩ ((.int .i64 (i52))) rfl TF.agg_3 hC.1 ⟨rfl, rfl⟩) ?_
     refine auT 2 rfl ?_
     refine zq rfl (fun _ hC => sem_indexAddrA ⟨k18, 12, none⟩ .i64 (i52) rfl rfl TF.arr_52 f57 f58 ⟨rfl, rfl⟩) ?_
     refine zq rfl (fun _ hC => sem_loadN (Addr.add ⟨k18, 12, none⟩ (Int.toNat (i52) * 2)) [(.bool b59), (.string s60)] rfl TF.agg_51 TF.sz_51 hC.2.1 ⟨rfl, rfl⟩) ?_
     refine auT 1 rfl ?_
     refine zq rfl (fun _ hC => sem_load1 ⟨k41, 2, none⟩ ((.int .i64 (i63))) rfl TF.agg_3 hC.2.2.1 ⟨rfl, rfl⟩) ?_
     refine ⟨zo rfl (sem_callL [(.agg #[(.bool b59), (.string s60)]), (.int .i64 (i63))] (TF.goes_59) rfl rfl (Spec.mono s fun v h65 hv => ?_)), trivial⟩
     obtain ⟨i66, rfl, s⟩ := hv
     obtain ⟨g67, g68, g69, s⟩ := s
     refine ⟨fun _ => ⟨g67, g68, g69, trivial⟩, ?_⟩
     refine auT 1 rfl ?_
     refine au 6 rfl ?_
     exact Run.of_fin (s.imp fun h' ⟨m', hm, s⟩ => ih33 ((i66), (IntKind.wrap .i64 ((i29) + (1))), m') _ _ ⟨s, ⟨rfl, rfl, rfl, rfl, rfl, rfl, rfl, rfl, trivial⟩⟩ hm)
    ·refine au 5 rfl ?_
     refine zt s rfl rfl rfl binI_eql_t binI_eql_f (fun s => ?_) fun s => ?_
     ·refine au 6 rfl ?_
      refine zl s rfl rfl TF.agg_3 fun i70 s => ?_
      refine au 1 rfl ?_
      refine zl s rfl rfl TF.agg_3 fun i71 s => ?_
      refine au 1 rfl ?_
      refine zl s rfl rfl TF.agg_5 fun i72 s => ?_
      refine zcall s rfl rfl TF.goes_60 ?_
      rintro _ h73 ⟨b74, rfl, s⟩
      refine au 7 rfl ?_
      exact Run.of_fin (s.imp fun h' ⟨m', hm, s⟩ => ih33 ((0), (IntKind.wrap .i64 ((i29) + (1))), m') _ _ ⟨s, ⟨rfl, rfl, rfl, rfl, rfl, rfl, rfl, rfl, trivial⟩⟩ hm)
     ·refine au 5 rfl ?_
      refine zt s rfl rfl rfl binI_eql_t binI_eql_f (fun s => ?_) fun s => ?_
      ·refine au 6 rfl ?_
       refine zl s rfl rfl TF.agg_3 fun i75 s => ?_
       refine zcall s rfl rfl TF.goes_61 ?_
       rintro _ h76 ⟨b77, rfl, s⟩
       refine au 7 rfl ?_
       exact Run.of_fin (s.imp fun h' ⟨m', hm, s⟩ => ih33 ((0), (IntKind.wrap .i64 ((i29) + (1))), m') _ _ ⟨s, ⟨rfl, rfl, rfl, rfl, rfl, rfl, rfl, rfl, trivial⟩⟩ hm)
      ·refine au 5 rfl ?_
       refine zt s rfl rfl rfl binI_eql_t binI_eql_f (fun s => ?_) fun s => ?_
       ·refine au 6 rfl ?_
        refine zl s rfl rfl TF.agg_3 fun i78 s => ?_
        refine zcall s rfl rfl TF.goes_62 ?_
        rintro _ h79 ⟨b80, rfl, s⟩
        refine au 7 rfl ?_
        exact Run.of_fin (s.imp fun h' ⟨m', hm, s⟩ => ih33 ((0), (IntKind.wrap .i64 ((i29) + (1))), m') _ _ ⟨s, ⟨rfl, rfl, rfl, rfl, rfl, rfl, rfl, rfl, trivial⟩⟩ hm)
       ·refine au 5 rfl ?_
        refine zt s rfl rfl rfl binI_eql_t binI_eql_f (fun s => ?_) fun s => ?_
        ·refine au 6 rfl ?_
         refine zl s rfl rfl TF.agg_3 fun i81 s => ?_
         refine au 1 rfl ?_
         refine zl s rfl rfl TF.agg_3 fun i82 s => ?_
         refine zcall s rfl rfl TF.goes_63 ?_
         rintro _ h83 ⟨b84, rfl, s⟩
         refine au 7 rfl ?_
         exact Run.of_fin (s.imp fun h' ⟨m', hm, s⟩ => ih33 ((0), (IntKind.wrap .i64 ((i29) + (1))), m') _ _ ⟨s, ⟨rfl, rfl, rfl, rfl, rfl, rfl, rfl, rfl, trivial⟩⟩ hm)
        ·refine au 5 rfl ?_
         refine zt s rfl rfl rfl binI_eql_t binI_eql_f (fun s => ?_) fun s => ?_
         ·refine au 6 rfl ?_
          refine zl s rfl rfl TF.agg_3 fun i85 s => ?_
          refine au 1 rfl ?_
          refine zl s rfl rfl TF.agg_3 fun i86 s => ?_
          refine zcall s rfl rfl TF.goes_64 ?_
          rintro _ h87 ⟨b88, rfl, s⟩
          refine au 7 rfl ?_
          exact Run.of_fin (s.imp fun h' ⟨m', hm, s⟩ => ih33 ((0), (IntKind.wrap .i64 ((i29) + (1))), m') _ _ ⟨s, ⟨rfl, rfl, rfl, rfl, rfl, rfl, rfl, rfl, trivial⟩⟩ hm)
         ·refine au 5 rfl ?_
          refine zt s rfl rfl rfl binI_eql_t binI_eql_f (fun s => ?_) fun s => ?_
          ·refine au 8 rfl ?_
           refine Run.drawM (fun h' => h' = h43) [] ⟨[0, 1, 0, 6, 8, 0, 32, 64, 128, 256, 528], [2047, 2046, 2047, 2041, 2039, 2047, 2015, 1983, 1919, 1791, 1519], [0, 0, 0, 0, 0, 0, 0, 0, 0, 0, 0], 0⟩ (.q 0 (.q 1 (.q 2 (.q 3 (.q 4 (.q 5 (.q 6 (.q 7 (.q 8 (.q 9 (.q 10 .nil))))))))))) TF.mixed (by kernel_rfl) rfl ?_
           refine auT 1 rfl ?_
           obtain ⟨i89, hl, s⟩ := s
           refine zqe rfl (sem_load1 ⟨k41, 1, none⟩ ((.int .i64 (i89))) rfl TF.agg_3 hl ⟨rfl, rfl⟩) ?_
           refine auT 1 rfl ?_
           obtain ⟨hi0, hi1, s⟩ := s
           refine zqe rfl (sem_indexAddrA ⟨k10, 20, none⟩ .i64 (i89) rfl rfl TF.arr_53 hi0 hi1 ⟨rfl, rfl⟩) ?_
           obtain ⟨i90, hl, s⟩ := s
           refine zqe rfl (sem_load1 (Addr.add ⟨k10, 20, none⟩ (Int.toNat (i89) * 1)) ((.int .i64 (i90))) rfl TF.agg_3 hl ⟨rfl, rfl⟩) ?_
           refine auT 1 rfl ?_
           obtain ⟨i91, hl, s⟩ := s
           refine zqe rfl (sem_load1 ⟨k41, 1, none⟩ ((.int .i64 (i91))) rfl TF.agg_3 hl ⟨rfl, rfl⟩) ?_
           obtain ⟨hi0, hi1, s⟩ := s
           refine zqe rfl (sem_indexAddrA ⟨k12, 0, none⟩ .i64 (i91) rfl rfl TF.arr_56 hi0 hi1 ⟨rfl, rfl⟩) ?_
           obtain ⟨s92, hl, s⟩ := s
           refine zqe rfl (sem_load1 (Addr.add ⟨k12, 0, none⟩ (Int.toNat (i91) * 1)) ((.string s92)) rfl TF.agg_9 hl ⟨rfl, rfl⟩) ?_
           refine zqe rfl (sem_lenStr s92 rfl TF.isStr_9 ⟨rfl, rfl⟩) ?_
           by_cases hb93 : (i90 : Int) < ((ByteArray.size s92 : Nat))
           ·replace s := s.1 hb93
            refine zqe rfl (sem_binI .i64 (i90) ((ByteArray.size s92 : Nat)) (.bool true) rfl rfl (binI_lss_t hb93) ⟨rfl, rfl⟩) ?_
            refine au 2 rfl ?_
            refine Run.drawM (fun h' => h' = h43) [] ⟨[0, 1, 2, 4, 0, 16, 0, 96, 128, 264, 512, 2047], [4095, 4094, 4093, 4091, 4095, 4079, 4095, 3999, 3967, 3831, 3583, 3071], [0, 0, 0, 0, 0, 0, 0, 0, 0, 0, 0, 0], 0⟩ (.q 0 (.q 1 (.q 2 (.q 3 (.q 4 (.q 5 (.q 6 (.q 7 (.q 8 (.q 9 (.q 10 (.q 11 .nil)))))))))))) TF.mixed (by kernel_rfl) rfl ?_
            refine auT 1 rfl ?_
            obtain ⟨i94, hl, s⟩ := s
            refine zqe rfl (sem_load1 ⟨k41, 1, none⟩ ((.int .i64 (i94))) rfl TF.agg_3 hl ⟨rfl, rfl⟩) ?_
            obtain ⟨hi0, hi1, s⟩ := s
            refine zqe rfl (sem_indexAddrA ⟨k12, 0, none⟩ .i64 (i94) rfl rfl TF.arr_56 hi0 hi1 ⟨rfl, rfl⟩) ?_
            obtain ⟨s95, hl, s⟩ := s
            refine zqe rfl (sem_load1 (Addr.add ⟨k12, 0, none⟩ (Int.toNat (i94) * 1)) ((.string s95)) rfl TF.agg_9 hl ⟨rfl, rfl⟩) ?_
            refine auT 1 rfl ?_
            obtain ⟨i96, hl, s⟩ := s
            refine zqe rfl (sem_load1 ⟨k41, 1, none⟩ ((.int .i64 (i96))) rfl TF.agg_3 hl ⟨rfl, rfl⟩) ?_
            refine auT 1 rfl ?_
            obtain ⟨hi0, hi1, s⟩ := s
            refine zqe rfl (sem_indexAddrA ⟨k10, 20, none⟩ .i64 (i96) rfl rfl TF.arr_53 hi0 hi1 ⟨rfl, rfl⟩) ?_
            obtain ⟨i97, hl, s⟩ := s
            refine zqe rfl (sem_load1 (Addr.add ⟨k10, 20, none⟩ (Int.toNat (i96) * 1)) ((.int .i64 (i97))) rfl TF.agg_3 hl ⟨rfl, rfl⟩) ?_
            obtain ⟨hi0, hi1, s⟩ := s
            refine zqe rfl (sem_indexStr' s95 .i64 (i97) rfl rfl TF.isStr_9 hi0 hi1 ⟨rfl, rfl⟩) ?_
            refine zqe rfl (sem_convI .u8 .i64 (byteAt s95 (Int.toNat (i97))) rfl TF.int_5 TF.int_3 ⟨rfl, rfl⟩) ?_
            refine auT 1 rfl ?_
            refine au 2 rfl ?_
            refine zl s rfl rfl TF.agg_3 fun i98 s => ?_
            refine au 1 rfl ?_
            obtain ⟨hi0, hi1, s⟩ := s
            refine zg rfl (sem_indexAddrA ⟨k10, 20, none⟩ .i64 (i98) rfl rfl TF.arr_53 hi0 hi1 ?_)
            refine zl s rfl rfl TF.agg_3 fun i99 s => ?_
            refine au 2 rfl ?_
            obtain ⟨hi0, hi1, s⟩ := s
            refine zg rfl (sem_indexAddrA ⟨k10, 20, none⟩ .i64 (i98) rfl rfl TF.arr_53 hi0 hi1 ?_)
            refine zs1 s rfl rfl rfl rfl TF.sz_3 fun h100 s => ?_
            refine au 7 rfl ?_
            exact Run.of_fin (s.imp fun h' ⟨m', hm, s⟩ => ih33 ((IntKind.wrap .i64 (byteAt s95 (Int.toNat (i97)))), (IntKind.wrap .i64 ((i29) + (1))), m') _ _ ⟨s, ⟨rfl, rfl, rfl, rfl, rfl, rfl, rfl, rfl, trivial⟩⟩ hm)
           ·replace s := s.2 hb93
            refine zqe rfl (sem_binI .i64 (i90) ((ByteArray.size s92 : Nat)) (.bool false) rfl rfl (binI_lss_f hb93) ⟨rfl, rfl⟩) ?_
            refine au 8 rfl ?_
            exact Run.of_fin (s.imp fun h' ⟨m', hm, s⟩ => ih33 (((-1)), (IntKind.wrap .i64 ((i29) + (1))), m') _ _ ⟨s, ⟨rfl, rfl, rfl, rfl, rfl, rfl, rfl, rfl, trivial⟩⟩ hm)
          ·refine au 10 rfl ?_
           exact Run.of_fin (s.imp fun h' ⟨m', hm, s⟩ => ih33 ((0), (IntKind.wrap .i64 ((i29) + (1))), m') _ _ ⟨s, ⟨rfl, rfl, rfl, rfl, rfl, rfl, rfl, rfl, trivial⟩⟩ hm)
 ·refine au 4 rfl ?_
  exact Run.of_fin (s.imp fun h' s => j20 _ _ ⟨(i28), ⟨rfl, rfl, rfl, rfl, trivial⟩, s⟩)
theorem C_attempt_View_Now.of {B : RO} {p1 : Option Addr} {h : Heap} {Q : List Value → Heap → Prop} (s : S_attempt_View_Now B p1 h Q) : C_attempt_View_Now B p1 h Q := by
 refine zspec Tryz.func20 [ResultVar.cell 2 65] rfl rfl rfl rfl rfl ?_
 refine au 2 rfl ?_
 refine zal s rfl TF.zero_65 rfl fun k3 h4 s => ?_
 refine au 5 rfl ?_
 by_cases hb5 : p1 = none
 ·replace s := s.1 hb5
  refine zg rfl (sem_ptrNilT p1 (.inl rfl) true rfl rfl TF.ptr_29 hb5 rfl ?_)
  refine au 4 rfl ?_
  refine zg rfl (sem_buildSL [] (List.replicate 25 (.int .i64 (0))) TF.zero_65 TF.places_65 rfl rfl ?_)
  refine zsn s rfl rfl rfl TF.sz_65 rfl fun h6 s => ?_
  refine au 1 rfl ?_
  obtain ⟨l7, hln0, hl0, s⟩ := s
  exact zr (⟨⟨k3, 0, none⟩, (.agg (List.toArray l7)), rfl, loadHN TF.agg_65 (TF.sz_65.trans (congrArg some hln0.symm)) hl0, s.imp fun _ q => ⟨_, rfl, q⟩⟩)
 ·replace s := s.2 hb5
  refine zg rfl (sem_ptrNilF p1 (.inl rfl) false rfl rfl TF.ptr_29 hb5 rfl ?_)
  refine au 6 rfl ?_
  refine znil s rfl rfl fun A8 s => ?_
  refine au 1 rfl ?_
  refine zl s rfl rfl TF.agg_3 fun i10 s => ?_
  refine zg rfl (sem_buildSL [(1, (.int .i64 (i10)))] [(.int .i64 (0)), (.int .i64 (0)), (.int .i64 (0)), (.int .i64 (0)), (.int .i64 (0)), (.int .i64 (0)), (.int .i64 (0)), (.int .i64 (0)), (.int .i64 (0)), (.int .i64 (0)), (.int .i64 (0)), (.int .i64 (0)), (.int .i64 (0)), (.int .i64 (0)), (.int .i64 (0)), (.int .i64 (0)), (.int .i64 (0)), (.int .i64 (0)), (.int .i64 (0)), (.int .i64 (0)), (.int .i64 (0)), (.int .i64 (0)), (.int .i64 (0)), (.int .i64 (0)), (.int .i64 (i10))] TF.zero_65 TF.places_65 rfl rfl ?_)
  refine zal s rfl TF.zero_65 rfl fun k11 h12 s => ?_
  refine zsn s rfl rfl rfl TF.sz_65 rfl fun h13 s => ?_
  refine au 1 rfl ?_
  refine Run.seqJ (fun e h15 => Agree [(0, (.pointer p1)), (2, (.pointer (some ⟨k3, 0, none⟩))), (3, (.pointer (some ⟨k11, 0, none⟩)))] e ∧ S_attempt_View_Now_J1 B p1 k3 k11 h15 Q) ?_ fun j14 => ?_
  ·rintro e h15 ⟨hag, s⟩
   refine Run.env hag ?_; clear hag
   refine Run.seqJ (fun e h17 => Agree [(0, (.pointer p1)), (2, (.pointer (some ⟨k3, 0, none⟩))), (3, (.pointer (some ⟨k11, 0, none⟩)))] e ∧ S_attempt_View_Now_J2 B p1 k3 k11 h17 Q) ?_ fun j16 => ?_
   ·rintro e h17 ⟨hag, s⟩
    refine Run.env hag ?_; clear hag
    refine au 6 rfl ?_
    obtain ⟨J23, m21, h0, s⟩ := s
    refine Run.of_fin (h0.imp fun h' h0 => ?_)
    refine Run.loop (σ := Int × Nat) (fun x e h => J23 x.1 x.2 h ∧ Agree [(0, (.pointer p1)), (2, (.pointer (some ⟨k3, 0, none⟩))), (3, (.pointer (some ⟨k11, 0, none⟩))), (46, (.int .i64 (x.1)))] e) (fun x => x.2) ((0), m21) ⟨h0, ⟨rfl, rfl, rfl, rfl, trivial⟩⟩ ?_; clear h0
    rintro ⟨i18, m20⟩ e h19 ⟨hJ, hag⟩ ih22
    have s := s i18 m20 h19 hJ; clear hJ
    refine Run.env hag ?_; clear hag
    refine au 2 rfl ?_
    refine zt s rfl rfl rfl binI_lss_t binI_lss_f (fun s => ?_) fun s => ?_
    ·refine au 14 rfl ?_
     refine znil s rfl rfl fun A24 s => ?_
     refine au 1 rfl ?_
     refine zl s rfl rfl TF.agg_41 fun p26 s => ?_
     refine au 1 rfl ?_
     refine zcall s rfl rfl TF.goes_47 ?_
     rintro _ h27 ⟨i28, i29, rfl, s⟩
     refine au 4 rfl ?_
     obtain ⟨hi0, hi1, s⟩ := s
     refine zg rfl (sem_indexAddrA ⟨k11, 0, none⟩ .i64 (2) rfl rfl TF.arr_63 hi0 hi1 ?_)
     obtain ⟨hi0, hi1, s⟩ := s
     refine zg rfl (sem_indexAddrA ⟨k11, 16, none⟩ .i64 (i18) rfl rfl TF.arr_49 hi0 hi1 ?_)
     refine zs1 s rfl rfl rfl rfl TF.sz_3 fun h30 s => ?_
     refine au 6 rfl ?_
     exact Run.of_fin (s.imp fun h' ⟨m', hm, s⟩ => ih22 ((IntKind.wrap .i64 ((i18) + (1))), m') _ _ ⟨s, ⟨rfl, rfl, rfl, rfl, trivial⟩⟩ hm)
    ·refine au 6 rfl ?_
     obtain ⟨l31, nl31, hl, s⟩ := s
     refine zg rfl (sem_loadN ⟨k11, 0, none⟩ l31 rfl TF.agg_65 (TF.sz_65.trans (congrArg some nl31.symm)) hl ?_)
     obtain ⟨hln, h32, hst, s⟩ := s
     refine zg0 rfl (sem_storeN ⟨k3, 0, none⟩ l31 h32 rfl rfl (TF.sz_65.trans (congrArg some hln.symm)) hst ?_)
     refine au 1 rfl ?_
     obtain ⟨l33, hln0, hl0, s⟩ := s
     exact zr (⟨⟨k3, 0, none⟩, (.agg (List.toArray l33)), rfl, loadHN TF.agg_65 (TF.sz_65.trans (congrArg some hln0.symm)) hl0, s.imp fun _ q => ⟨_, rfl, q⟩⟩)
   refine au 5 rfl ?_
   obtain ⟨J39, m37, h0, s⟩ := s
   refine Run.of_fin (h0.imp fun h' h0 => ?_)
   refine Run.loop (σ := Int × Nat) (fun x e h => J39 x.1 x.2 h ∧ Agree [(0, (.pointer p1)), (2, (.pointer (some ⟨k3, 0, none⟩))), (3, (.pointer (some ⟨k11, 0, none⟩))), (29, (.int .i64 (x.1)))] e) (fun x => x.2) ((0), m37) ⟨h0, ⟨rfl, rfl, rfl, rfl, trivial⟩⟩ ?_; clear h0
   rintro ⟨i34, m36⟩ e h35 ⟨hJ, hag⟩ ih38
   have s := s i34 m36 h35 hJ; clear hJ
   refine Run.env hag ?_; clear hag
   refine au 2 rfl ?_
   refine zt s rfl rfl rfl binI_lss_t binI_lss_f (fun s => ?_) fun s => ?_
   ·refine au 14 rfl ?_
    refine znil s rfl rfl fun A40 s => ?_
    refine au 1 rfl ?_
    refine zl s rfl rfl TF.agg_40 fun p42 s => ?_
    refine au 1 rfl ?_
    refine zcall s rfl rfl TF.goes_49 ?_
    rintro _ h43 ⟨b44, s45, i46, rfl, s⟩
    refine au 4 rfl ?_
    obtain ⟨hi0, hi1, s⟩ := s
    refine zg rfl (sem_indexAddrA ⟨k11, 0, none⟩ .i64 (1) rfl rfl TF.arr_63 hi0 hi1 ?_)
    obtain ⟨hi0, hi1, s⟩ := s
    refine zg rfl (sem_indexAddrA ⟨k11, 8, none⟩ .i64 (i34) rfl rfl TF.arr_49 hi0 hi1 ?_)
    refine zs1 s rfl rfl rfl rfl TF.sz_3 fun h47 s => ?_
    refine au 6 rfl ?_
    exact Run.of_fin (s.imp fun h' ⟨m', hm, s⟩ => ih38 ((IntKind.wrap .i64 ((i34) + (1))), m') _ _ ⟨s, ⟨rfl, rfl, rfl, rfl, trivial⟩⟩ hm)
   ·refine au 4 rfl ?_
    exact Run.of_fin (s.imp fun h' s => j16 _ _ ⟨⟨rfl, rfl, rfl, trivial⟩, s⟩)
  refine au 5 rfl ?_
  obtain ⟨J53, m51, h0, s⟩ := s
  refine Run.of_fin (h0.imp fun h' h0 => ?_)
  refine Run.loop (σ := Int × Nat) (fun x e h => J53 x.1 x.2 h ∧ Agree [(0, (.pointer p1)), (2, (.pointer (some ⟨k3, 0, none⟩))), (3, (.pointer (some ⟨k11, 0, none⟩))), (15, (.int .i64 (x.1)))] e) (fun x => x.2) ((0), m51) ⟨h0, ⟨rfl, rfl, rfl, rfl, trivial⟩⟩ ?_; clear h0
  rintro ⟨i48, m50⟩ e h49 ⟨hJ, hag⟩ ih52
  have s := s i48 m50 h49 hJ; clear hJ
  refine Run.env hag ?_; clear hag
  refine au 2 rfl ?_
  refine zt s rfl rfl rfl binI_lss_t binI_lss_f (fun s => ?_) fun s => ?_
  ·refine au 14 rfl ?_
   refine znil s rfl rfl fun A54 s => ?_
   refine au 1 rfl ?_
   refine zl s rfl rfl TF.agg_39 fun p56 s => ?_
   refine au 1 rfl ?_
   refine zcall s rfl rfl TF.goes_65 ?_
   rintro _ h57 ⟨i58, rfl, s⟩
   refine au 1 rfl ?_
   obtain ⟨hi0, hi1, s⟩ := s
   refine zg rfl (sem_indexAddrA ⟨k11, 0, none⟩ .i64 (0) rfl rfl TF.arr_63 hi0 hi1 ?_)
   obtain ⟨hi0, hi1, s⟩ := s
   refine zg rfl (sem_indexAddrA ⟨k11, 0, none⟩ .i64 (i48) rfl rfl TF.arr_49 hi0 hi1 ?_)
   refine zs1 s rfl rfl rfl rfl TF.sz_3 fun h59 s => ?_
   refine au 6 rfl ?_
   exact Run.of_fin (s.imp fun h' ⟨m', hm, s⟩ => ih52 ((IntKind.wrap .i64 ((i48) + (1))), m') _ _ ⟨s, ⟨rfl, rfl, rfl, rfl, trivial⟩⟩ hm)
  ·refine au 4 rfl ?_
   exact Run.of_fin (s.imp fun h' s => j14 _ _ ⟨⟨rfl, rfl, rfl, trivial⟩, s⟩)
theorem C_attempt_Attempt_Store.of {B : RO} {p1 : Option Addr} {i2 : Int} {i3 : Int} {h : Heap} {Q : Int → Heap → Prop} (s : S_attempt_Attempt_Store B p1 i2 i3 h Q) : C_attempt_Attempt_Store B p1 i2 i3 h Q := by
 refine zspec Tryz.func21 [ResultVar.tmp 6] rfl rfl rfl rfl rfl ?_
 refine au 4 rfl ?_
 refine Run.seqJ (fun e h6 => Agree [(0, (.pointer p1)), (1, (.int .i64 (i2))), (2, (.int .i64 (i3)))] e ∧ S_attempt_Attempt_Store_J1 B p1 i2 i3 h6 Q) ?_ fun j5 => ?_
 ·rintro e h6 ⟨hag, s⟩
  refine Run.env hag ?_; clear hag
  refine au 3 rfl ?_
  refine znil s rfl rfl fun A7 s => ?_
  refine au 2 rfl ?_
  refine zl s rfl rfl TF.agg_91 fun p9 s => ?_
  refine au 2 rfl ?_
  refine zcall s rfl rfl TF.goes_66 ?_
  rintro _ h10 ⟨b11, rfl, s⟩
  refine au 5 rfl ?_
  exact zr (s.imp fun _ q => ⟨_, rfl, q⟩)
 refine au 4 rfl ?_
 by_cases hb12 : p1 = none
 ·replace s := s.1 hb12
  refine zg rfl (sem_ptrNilT p1 (.inl rfl) true rfl rfl TF.ptr_30 hb12 rfl ?_)
  refine au 7 rfl ?_
  exact zr (s.imp fun _ q => ⟨_, rfl, q⟩)
 ·replace s := s.2 hb12
  refine zg rfl (sem_ptrNilF p1 (.inl rfl) false rfl rfl TF.ptr_30 hb12 rfl ?_)
  refine au 6 rfl ?_
  refine zt s rfl rfl rfl binI_lss_t binI_lss_f (fun s => ?_) fun s => ?_
  ·refine au 11 rfl ?_
   exact zr (s.imp fun _ q => ⟨_, rfl, q⟩)
  ·refine au 2 rfl ?_
   refine zt s rfl rfl rfl binI_geq_t binI_geq_f (fun s => ?_) fun s => ?_
   ·refine au 8 rfl ?_
    exact zr (s.imp fun _ q => ⟨_, rfl, q⟩)
   ·refine au 6 rfl ?_
    exact Run.of_fin (s.imp fun h' s => j5 _ _ ⟨⟨rfl, rfl, rfl, trivial⟩, s⟩)
theorem C_attempt_NewView.of {B : RO} {h : Heap} {Q : Option Addr → Heap → Prop} (s : S_attempt_NewView B h Q) : C_attempt_NewView B h Q := by
 refine zspec Tryz.func24 [ResultVar.tmp 0] rfl rfl rfl rfl rfl ?_
 refine au 6 rfl ?_
 refine zcall s rfl rfl TF.goes_67 ?_
 rintro _ h2 ⟨p3, rfl, s⟩
 refine zcall s rfl rfl TF.goes_68 ?_
 rintro _ h4 ⟨p5, rfl, s⟩
 refine zcall s rfl rfl TF.goes_69 ?_
 rintro _ h6 ⟨p7, rfl, s⟩
 refine zg rfl (sem_buildSL [(0, (.pointer p3)), (1, (.pointer p5)), (2, (.pointer p7))] [(.pointer p3), (.pointer p5), (.pointer p7), (.int .i64 (0))] TF.zero_43 TF.places_43 rfl rfl ?_)
 refine zbn s rfl rfl rfl fun k8 h9 s => ?_
 refine au 2 rfl ?_
 exact zr (s.imp fun _ q => ⟨_, rfl, q⟩)
theorem C_attempt_New.of {B : RO} {p1 : Option Addr} {i2 : Int} {i3 : Int} {i4 : Int} {i5 : Int} {h : Heap} {Q : Option Addr → Heap → Prop} (s : S_attempt_New B p1 i2 i3 i4 i5 h Q) : C_attempt_New B p1 i2 i3 i4 i5 h Q := by
 refine zspec Tryz.func25 [ResultVar.tmp 4] rfl rfl rfl rfl rfl ?_
 refine au 2 rfl ?_
 refine zbn s rfl rfl rfl fun k7 h8 s => ?_
 refine au 2 rfl ?_
 refine Run.seqJ (fun e h11 => ∃ p10 : Option Addr, Agree [(0, (.pointer p10)), (3, (.pointer (some ⟨k7, 0, none⟩)))] e ∧ S_attempt_New_J1 B k7 p10 h11 Q) ?_ fun j9 => ?_
 ·rintro e h11 ⟨p10, hag, s⟩
  refine Run.env hag ?_; clear hag
  refine au 1 rfl ?_
  obtain ⟨A14, e15, s⟩ := s
  obtain ⟨i18, hl, s⟩ := s
  have f19 := hl
  obtain ⟨i20, i21, i22, i23, hl, s⟩ := s
  have f24 := hl
  refine Run.drawM (fun h' => cellH B h' (Addr.add A14 3) = some (.int .i64 (i18)) ∧ CellsAt B h' ⟨k7, 0, none⟩ 0 [(.int .i64 (i20)), (.int .i64 (i21)), (.int .i64 (i22)), (.int .i64 (i23))] ∧ True) [] ⟨[0, 0, 2, 4, 8, 16, 0, 96, 0, 256, 0, 1024, 2721, 4096, 16383], [32767, 32767, 32765, 32763, 32759, 32751, 32767, 32703, 32767, 32511, 32767, 31743, 30046, 28671, 24575], [0, 0, 0, 0, 0, 0, 0, 0, 0, 0, 0, 0, 0, 0, 0], 0⟩ (.q 0 (.q 1 (.q 2 (.q 3 (.q 4 (.q 6 (.q 8 (.q 10 (.x 5 (.x 7 (.x 9 (.x 11 (.q 12 (.x 13 (.q 14 .nil) .no)) .no) (.x 11 (.x 9 (.q 12 (.x 13 (.q 14 .nil) .no)) .no) .no)) (.x 9 (.x 7 (.x 11 (.q 12 (.x 13 (.q 14 .nil) .no)) .no) (.x 11 (.x 7 (.q 12 (.x 13 (.q 14 .nil) .no)) .no) .no)) (.x 11 (.x 7 (.x 9 (.q 12 (.x 13 (.q 14 .nil) .no)) .no) (.x 9 (.x 7 (.q 12 (.x 13 (.q 14 .nil) .no)) .no) .no)) .no))) (.x 9 (.x 5 (.x 7 (.x 11 (.q 12 (.x 13 (.q 14 .nil) .no)) .no) (.x 11 (.x 7 (.q 12 (.x 13 (.q 14 .nil) .no)) .no) .no)) (.x 11 (.x 5 (.x 7 (.q 12 (.x 13 (.q 14 .nil) .no)) .no) .no) .no)) (.x 11 (.x 5 (.x 7 (.x 9 (.q 12 (.x 13 (.q 14 .nil) .no)) .no) (.x 9 (.x 7 (.q 12 (.x 13 (.q 14 .nil) .no)) .no) .no)) (.x 9 (.x 5 (.x 7 (.q 12 (.x 13 (.q 14 .nil) .no)) .no) .no) .no)) .no))))))))))) TF.mixed (by kernel_rfl) ⟨f19, f24, trivial⟩ ?_
  refine auT 2 rfl ?_
  refine zq rfl (fun _ hC => sem_nilCheck A14 (congrArg Value.pointer e15) ⟨rfl, rfl⟩) ?_
  refine auT 1 rfl ?_
  refine zq rfl (fun _ hC => sem_load1 (Addr.add A14 3) ((.int .i64 (i18))) rfl TF.agg_3 hC.1 ⟨rfl, rfl⟩) ?_
  refine zq rfl (fun _ hC => sem_loadN ⟨k7, 0, none⟩ [(.int .i64 (i20)), (.int .i64 (i21)), (.int .i64 (i22)), (.int .i64 (i23))] rfl TF.agg_26 TF.sz_26 hC.2.1 ⟨rfl, rfl⟩) ?_
  refine zq rfl (fun _ hC => sem_buildSL [] [(.slice none 0 0), (.slice none 0 0), (.slice none 0 0), (.slice none 0 0)] TF.zero_144 TF.places_144 rfl rfl ⟨rfl, rfl⟩) ?_
  refine zq rfl (fun _ hC => sem_buildSL [] [(.slice none 0 0)] TF.zero_147 TF.places_147 rfl rfl ⟨rfl, rfl⟩) ?_
  refine RunT.joinJ (t := (.q 12 (.x 13 (.q 14 .nil) .no))) (fun e h240 => ∃ p230 : Option Addr, ∃ p231 : Option Addr, ∃ p232 : Option Addr, ∃ p233 : Option Addr, ∃ i234 : Int, ∃ i235 : Int, ∃ i236 : Int, ∃ i237 : Int, ∃ A238 : Addr, ∃ A239 : Addr, Agree [(8, (.pointer p10)), (13, (.pointer p230)), (15, (.agg #[(.pointer p231), (.pointer p232), (.pointer p233), (.int .i64 (i234)), (.int .i64 (i235)), (.int .i64 (i236)), (.int .i64 (i237))])), (17, (.pointer (some A238))), (19, (.pointer (some A239)))] e ∧ cellH B h240 (Addr.add A14 3) = some (.int .i64 (i18)) ∧ CellsAt B h240 ⟨k7, 0, none⟩ 0 [(.int .i64 (i20)), (.int .i64 (i21)), (.int .i64 (i22)), (.int .i64 (i23))] ∧ S_attempt_New_J2 B k7 p10 A14 i18 i20 i21 i22 i23 p230 p231 p232 p233 i234 i235 i236 i237 A238 A239 h240 Q) ?_ fun j229 => ?_
  ·rintro e h240 ⟨p230, p231, p232, p233, i234, i235, i236, i237, A238, A239, hag, g241, g242, s⟩
   refine RunT.env hag ?_; clear hag
   refine zq rfl (fun _ _ => sem_buildSL [(0, (.pointer p10)), (1, (.pointer p230)), (2, (.agg #[(.pointer p231), (.pointer p232), (.pointer p233), (.int .i64 (i234)), (.int .i64 (i235)), (.int .i64 (i236)), (.int .i64 (i237))])), (3, (.pointer (some A238))), (4, (.pointer (some A239)))] [(.pointer p10), (.pointer p230), (.pointer p231), (.pointer p232), (.pointer p233), (.int .i64 (i234)), (.int .i64 (i235)), (.int .i64 (i236)), (.int .i64 (i237)), (.pointer (some A238)), (.pointer (some A239))] TF.zero_107 TF.places_107 rfl rfl ⟨rfl, rfl⟩) ?_
   refine ⟨zo rfl (sem_boxNN [(.pointer p10), (.pointer p230), (.pointer p231), (.pointer p232), (.pointer p233), (.int .i64 (i234)), (.int .i64 (i235)), (.int .i64 (i236)), (.int .i64 (i237)), (.pointer (some A238)), (.pointer (some A239))] rfl (fun k243 hb1 hb2 h244 hb3 => ?_)), trivial⟩
   have s := s k243 hb1 hb2 h244 hb3
   obtain ⟨g245, g246, s⟩ := s
   refine ⟨fun _ => ⟨g245, g246, trivial⟩, ?_⟩
   refine auT 1 rfl ?_
   exact zr (s.imp fun _ q => ⟨_, rfl, q⟩)
  refine ⟨?_, ?_, ?_, trivial⟩
  ·have s := s.1
   refine zo rfl (sem_callL [(.int .i64 (i18))] (TF.goes_70) rfl rfl (Spec.mono s fun v h247 hv => ?_))
   obtain ⟨p248, rfl, s⟩ := hv
   obtain ⟨g249, g250, s⟩ := s
   refine ⟨fun _ => ⟨g249, g250, trivial⟩, ?_⟩
   refine ⟨?_, ?_, ?_, trivial⟩
   ·have s := s.1
    refine zo rfl (sem_callL [(.agg #[(.int .i64 (i20)), (.int .i64 (i21)), (.int .i64 (i22)), (.int .i64 (i23))])] (TF.goes_71) rfl rfl (Spec.mono s fun v h251 hv => ?_))
    obtain ⟨p252, p253, p254, i255, i256, i257, i258, rfl, s⟩ := hv
    obtain ⟨g259, g260, s⟩ := s
    refine ⟨fun _ => ⟨g259, g260, trivial⟩, ?_⟩
    refine ⟨?_, ?_, trivial⟩
    ·have s := s.1
     refine zo rfl (sem_boxNN [(.slice none 0 0), (.slice none 0 0), (.slice none 0 0), (.slice none 0 0)] rfl (fun k261 hb1 hb2 h262 hb3 => ?_))
     have s := s k261 hb1 hb2 h262 hb3
     obtain ⟨g263, g264, s⟩ := s
     refine ⟨fun _ => ⟨g263, g264, trivial⟩, ?_⟩
     refine ⟨zo rfl (sem_boxNN [(.slice none 0 0)] rfl (fun k265 hb1 hb2 h266 hb3 => ?_)), trivial⟩
     have s := s k265 hb1 hb2 h266 hb3
     obtain ⟨g267, g268, s⟩ := s
     refine ⟨fun _ => ⟨g267, g268, trivial⟩, ?_⟩
     exact j229 _ _ ⟨p248, p252, p253, p254, (i255), (i256), (i257), (i258), ⟨k261, 0, none⟩, ⟨k265, 0, none⟩, ⟨rfl, rfl, rfl, rfl, rfl, trivial⟩, g267, g268, s⟩
    ·have s := s.2
     refine zo rfl (sem_boxNN [(.slice none 0 0)] rfl (fun k269 hb1 hb2 h270 hb3 => ?_))
     have s := s k269 hb1 hb2 h270 hb3
     obtain ⟨g271, g272, s⟩ := s
     refine ⟨fun _ => ⟨g271, g272, trivial⟩, ?_⟩
     refine ⟨zo rfl (sem_boxNN [(.slice none 0 0), (.slice none 0 0), (.slice none 0 0), (.slice none 0 0)] rfl (fun k273 hb1 hb2 h274 hb3 => ?_)), trivial⟩
     have s := s k273 hb1 hb2 h274 hb3
     obtain ⟨g275, g276, s⟩ := s
     refine ⟨fun _ => ⟨g275, g276, trivial⟩, ?_⟩
     exact j229 _ _ ⟨p248, p252, p253, p254, (i255), (i256), (i257), (i258), ⟨k273, 0, none⟩, ⟨k269, 0, none⟩, ⟨rfl, rfl, rfl, rfl, rfl, trivial⟩, g275, g276, s⟩
   ·have s := s.2.1
    refine zo rfl (sem_boxNN [(.slice none 0 0), (.slice none 0 0), (.slice none 0 0), (.slice none 0 0)] rfl (fun k277 hb1 hb2 h278 hb3 => ?_))
    have s := s k277 hb1 hb2 h278 hb3
    obtain ⟨g279, g280, s⟩ := s
    refine ⟨fun _ => ⟨g279, g280, trivial⟩, ?_⟩
    refine ⟨?_, ?_, trivial⟩
    ·have s := s.1
     refine zo rfl (sem_callL [(.agg #[(.int .i64 (i20)), (.int .i64 (i21)), (.int .i64 (i22)), (.int .i64 (i23))])] (TF.goes_71) rfl rfl (Spec.mono s fun v h281 hv => ?_))
     obtain ⟨p282, p283, p284, i285, i286, i287, i288, rfl, s⟩ := hv
     obtain ⟨g289, g290, s⟩ := s
     refine ⟨fun _ => ⟨g289, g290, trivial⟩, ?_⟩
     refine ⟨zo rfl (sem_boxNN [(.slice none 0 0)] rfl (fun k291 hb1 hb2 h292 hb3 => ?_)), trivial⟩
     have s := s k291 hb1 hb2 h292 hb3
     obtain ⟨g293, g294, s⟩ := s
     refine ⟨fun _ => ⟨g293, g294, trivial⟩, ?_⟩
     exact j229 _ _ ⟨p248, p282, p283, p284, (i285), (i286), (i287), (i288), ⟨k277, 0, none⟩, ⟨k291, 0, none⟩, ⟨rfl, rfl, rfl, rfl, rfl, trivial⟩, g293, g294, s⟩
    ·have s := s.2
     refine zo rfl (sem_boxNN [(.slice none 0 0)] rfl (fun k295 hb1 hb2 h296 hb3 => ?_))
     have s := s k295 hb1 hb2 h296 hb3
     obtain ⟨g297, g298, s⟩ := s
     refine ⟨fun _ => ⟨g297, g298, trivial⟩, ?_⟩
     refine ⟨zo rfl (sem_callL [(.agg #[(.int .i64 (i20)), (.int .i64 (i21)), (.int .i64 (i22)), (.int .i64 (i23))])] (TF.goes_71) rfl rfl (Spec.mono s fun v h299 hv => ?_)), trivial⟩
     obtain ⟨p300, p301, p302, i303, i304, i305, i306, rfl, s⟩ := hv
     obtain ⟨g307, g308, s⟩ := s
     refine ⟨fun _ => ⟨g307, g308, trivial⟩, ?_⟩
     exact j229 _ _ ⟨p248, p300, p301, p302, (i303), (i304), (i305), (i306), ⟨k277, 0, none⟩, ⟨k295, 0, none⟩, ⟨rfl, rfl, rfl, rfl, rfl, trivial⟩, g307, g308, s⟩
   ·have s := s.2.2
    refine zo rfl (sem_boxNN [(.slice none 0 0)] rfl (fun k309 hb1 hb2 h310 hb3 => ?_))
    have s := s k309 hb1 hb2 h310 hb3
    obtain ⟨g311, g312, s⟩ := s
    refine ⟨fun _ => ⟨g311, g312, trivial⟩, ?_⟩
    refine ⟨?_, ?_, trivial⟩
    ·have s := s.1
     refine zo rfl (sem_callL [(.agg #[(.int .i64 (i20)), (.int .i64 (i21)), (.int .i64 (i22)), (.int .i64 (i23))])] (TF.goes_71) rfl rfl (Spec.mono s fun v h313 hv => ?_))
     obtain ⟨p314, p315, p316, i317, i318, i319, i320, rfl, s⟩ := hv
     obtain ⟨g321, g322, s⟩ := s
     refine ⟨fun _ => ⟨g321, g322, trivial⟩, ?_⟩
     refine ⟨zo rfl (sem_boxNN [(.slice none 0 0), (.slice none 0 0), (.slice none 0 0), (.slice none 0 0)] rfl (fun k323 hb1 hb2 h324 hb3 => ?_)), trivial⟩
     have s := s k323 hb1 hb2 h324 hb3
     obtain ⟨g325, g326, s⟩ := s
     refine ⟨fun _ => ⟨g325, g326, trivial⟩, ?_⟩
     exact j229 _ _ ⟨p248, p314, p315, p316, (i317), (i318), (i319), (i320), ⟨k323, 0, none⟩, ⟨k309, 0, none⟩, ⟨rfl, rfl, rfl, rfl, rfl, trivial⟩, g325, g326, s⟩
    ·have s := s.2
     refine zo rfl (sem_boxNN [(.slice none 0 0), (.slice none 0 0), (.slice none 0 0), (.slice none 0 0)] rfl (fun k327 hb1 hb2 h328 hb3 => ?_))
     have s := s k327 hb1 hb2 h328 hb3
     obtain ⟨g329, g330, s⟩ := s
     refine ⟨fun _ => ⟨g329, g330, trivial⟩, ?_⟩
     refine ⟨zo rfl (sem_callL [(.agg #[(.int .i64 (i20)), (.int .i64 (i21)), (.int .i64 (i22)), (.int .i64 (i23))])] (TF.goes_71) rfl rfl (Spec.mono s fun v h331 hv => ?_)), trivial⟩
     obtain ⟨p332, p333, p334, i335, i336, i337, i338, rfl, s⟩ := hv
     obtain ⟨g339, g340, s⟩ := s
     refine ⟨fun _ => ⟨g339, g340, trivial⟩, ?_⟩
     exact j229 _ _ ⟨p248, p332, p333, p334, (i335), (i336), (i337), (i338), ⟨k327, 0, none⟩, ⟨k309, 0, none⟩, ⟨rfl, rfl, rfl, rfl, rfl, trivial⟩, g339, g340, s⟩
  ·have s := s.2.1
   refine zo rfl (sem_boxNN [(.slice none 0 0), (.slice none 0 0), (.slice none 0 0), (.slice none 0 0)] rfl (fun k341 hb1 hb2 h342 hb3 => ?_))
   have s := s k341 hb1 hb2 h342 hb3
   obtain ⟨g343, g344, s⟩ := s
   refine ⟨fun _ => ⟨g343, g344, trivial⟩, ?_⟩
   refine ⟨?_, ?_, trivial⟩
   ·have s := s.1
    refine zo rfl (sem_callL [(.int .i64 (i18))] (TF.goes_70) rfl rfl (Spec.mono s fun v h345 hv => ?_))
    obtain ⟨p346, rfl, s⟩ := hv
    obtain ⟨g347, g348, s⟩ := s
    refine ⟨fun _ => ⟨g347, g348, trivial⟩, ?_⟩
    refine ⟨?_, ?_, trivial⟩
    ·have s := s.1
     refine zo rfl (sem_callL [(.agg #[(.int .i64 (i20)), (.int .i64 (i21)), (.int .i64 (i22)), (.int .i64 (i23))])] (TF.goes_71) rfl rfl (Spec.mono s fun v h349 hv => ?_))
     obtain ⟨p350, p351, p352, i353, i354, i355, i356, rfl, s⟩ := hv
     obtain ⟨g357, g358, s⟩ := s
     refine ⟨fun _ => ⟨g357, g358, trivial⟩, ?_⟩
     refine ⟨zo rfl (sem_boxNN [(.slice none 0 0)] rfl (fun k359 hb1 hb2 h360 hb3 => ?_)), trivial⟩
     have s := s k359 hb1 hb2 h360 hb3
     obtain ⟨g361, g362, s⟩ := s
     refine ⟨fun _ => ⟨g361, g362, trivial⟩, ?_⟩
     exact j229 _ _ ⟨p346, p350, p351, p352, (i353), (i354), (i355), (i356), ⟨k341, 0, none⟩, ⟨k359, 0, none⟩, ⟨rfl, rfl, rfl, rfl, rfl, trivial⟩, g361, g362, s⟩
    ·have s := s.2
     refine zo rfl (sem_boxNN [(.slice none 0 0)] rfl (fun k363 hb1 hb2 h364 hb3 => ?_))
     have s := s k363 hb1 hb2 h364 hb3
     obtain ⟨g365, g366, s⟩ := s
     refine ⟨fun _ => ⟨g365, g366, trivial⟩, ?_⟩
     refine ⟨zo rfl (sem_callL [(.agg #[(.int .i64 (i20)), (.int .i64 (i21)), (.int .i64 (i22)), (.int .i64 (i23))])] (TF.goes_71) rfl rfl (Spec.mono s fun v h367 hv => ?_)), trivial⟩
     obtain ⟨p368, p369, p370, i371, i372, i373, i374, rfl, s⟩ := hv
     obtain ⟨g375, g376, s⟩ := s
     refine ⟨fun _ => ⟨g375, g376, trivial⟩, ?_⟩
     exact j229 _ _ ⟨p346, p368, p369, p370, (i371), (i372), (i373), (i374), ⟨k341, 0, none⟩, ⟨k363, 0, none⟩, ⟨rfl, rfl, rfl, rfl, rfl, trivial⟩, g375, g376, s⟩
   ·have s := s.2
    refine zo rfl (sem_boxNN [(.slice none 0 0)] rfl (fun k377 hb1 hb2 h378 hb3 => ?_))
    have s := s k377 hb1 hb2 h378 hb3
    obtain ⟨g379, g380, s⟩ := s
    refine ⟨fun _ => ⟨g379, g380, trivial⟩, ?_⟩
    refine ⟨zo rfl (sem_callL [(.int .i64 (i18))] (TF.goes_70) rfl rfl (Spec.mono s fun v h381 hv => ?_)), trivial⟩
    obtain ⟨p382, rfl, s⟩ := hv
    obtain ⟨g383, g384, s⟩ := s
    refine ⟨fun _ => ⟨g383, g384, trivial⟩, ?_⟩
    refine ⟨zo rfl (sem_callL [(.agg #[(.int .i64 (i20)), (.int .i64 (i21)), (.int .i64 (i22)), (.int .i64 (i23))])] (TF.goes_71) rfl rfl (Spec.mono s fun v h385 hv => ?_)), trivial⟩
    obtain ⟨p386, p387, p388, i389, i390, i391, i392, rfl, s⟩ := hv
    obtain ⟨g393, g394, s⟩ := s
    refine ⟨fun _ => ⟨g393, g394, trivial⟩, ?_⟩
    exact j229 _ _ ⟨p382, p386, p387, p388, (i389), (i390), (i391), (i392), ⟨k341, 0, none⟩, ⟨k377, 0, none⟩, ⟨rfl, rfl, rfl, rfl, rfl, trivial⟩, g393, g394, s⟩
  ·have s := s.2.2
   refine zo rfl (sem_boxNN [(.slice none 0 0)] rfl (fun k395 hb1 hb2 h396 hb3 => ?_))
   have s := s k395 hb1 hb2 h396 hb3
   obtain ⟨g397, g398, s⟩ := s
   refine ⟨fun _ => ⟨g397, g398, trivial⟩, ?_⟩
   refine ⟨?_, ?_, trivial⟩
   ·have s := s.1
    refine zo rfl (sem_callL [(.int .i64 (i18))] (TF.goes_70) rfl rfl (Spec.mono s fun v h399 hv => ?_))
    obtain ⟨p400, rfl, s⟩ := hv
    obtain ⟨g401, g402, s⟩ := s
    refine ⟨fun _ => ⟨g401, g402, trivial⟩, ?_⟩
    refine ⟨?_, ?_, trivial⟩
    ·have s := s.1
     refine zo rfl (sem_callL [(.agg #[(.int .i64 (i20)), (.int .i64 (i21)), (.int .i64 (i22)), (.int .i64 (i23))])] (TF.goes_71) rfl rfl (Spec.mono s fun v h403 hv => ?_))
     obtain ⟨p404, p405, p406, i407, i408, i409, i410, rfl, s⟩ := hv
     obtain ⟨g411, g412, s⟩ := s
     refine ⟨fun _ => ⟨g411, g412, trivial⟩, ?_⟩
     refine ⟨zo rfl (sem_boxNN [(.slice none 0 0), (.slice none 0 0), (.slice none 0 0), (.slice none 0 0)] rfl (fun k413 hb1 hb2 h414 hb3 => ?_)), trivial⟩
     have s := s k413 hb1 hb2 h414 hb3
     obtain ⟨g415, g416, s⟩ := s
     refine ⟨fun _ => ⟨g415, g416, trivial⟩, ?_⟩
     exact j229 _ _ ⟨p400, p404, p405, p406, (i407), (i408), (i409), (i410), ⟨k413, 0, none⟩, ⟨k395, 0, none⟩, ⟨rfl, rfl, rfl, rfl, rfl, trivial⟩, g415, g416, s⟩
    ·have s := s.2
     refine zo rfl (sem_boxNN [(.slice none 0 0), (.slice none 0 0), (.slice none 0 0), (.slice none 0 0)] rfl (fun k417 hb1 hb2 h418 hb3 => ?_))
     have s := s k417 hb1 hb2 h418 hb3
     obtain ⟨g419, g420, s⟩ := s
     refine ⟨fun _ => ⟨g419, g420, trivial⟩, ?_⟩
     refine ⟨zo rfl (sem_callL [(.agg #[(.int .i64 (i20)), (.int .i64 (i21)), (.int .i64 (i22)), (.int .i64 (i23))])] (TF.goes_71) rfl rfl (Spec.mono s fun v h421 hv => ?_)), trivial⟩
     obtain ⟨p422, p423, p424, i425, i426, i427, i428, rfl, s⟩ := hv
     obtain ⟨g429, g430, s⟩ := s
     refine ⟨fun _ => ⟨g429, g430, trivial⟩, ?_⟩
     exact j229 _ _ ⟨p400, p422, p423, p424, (i425), (i426), (i427), (i428), ⟨k417, 0, none⟩, ⟨k395, 0, none⟩, ⟨rfl, rfl, rfl, rfl, rfl, trivial⟩, g429, g430, s⟩
   ·have s := s.2
    refine zo rfl (sem_boxNN [(.slice none 0 0), (.slice none 0 0), (.slice none 0 0), (.slice none 0 0)] rfl (fun k431 hb1 hb2 h432 hb3 => ?_))
    have s := s k431 hb1 hb2 h432 hb3
    obtain ⟨g433, g434, s⟩ := s
    refine ⟨fun _ => ⟨g433, g434, trivial⟩, ?_⟩
    refine ⟨zo rfl (sem_callL [(.int .i64 (i18))] (TF.goes_70) rfl rfl (Spec.mono s fun v h435 hv => ?_)), trivial⟩
    obtain ⟨p436, rfl, s⟩ := hv
    obtain ⟨g437, g438, s⟩ := s
    refine ⟨fun _ => ⟨g437, g438, trivial⟩, ?_⟩
    refine ⟨zo rfl (sem_callL [(.agg #[(.int .i64 (i20)), (.int .i64 (i21)), (.int .i64 (i22)), (.int .i64 (i23))])] (TF.goes_71) rfl rfl (Spec.mono s fun v h439 hv => ?_)), trivial⟩
    obtain ⟨p440, p441, p442, i443, i444, i445, i446, rfl, s⟩ := hv
    obtain ⟨g447, g448, s⟩ := s
    refine ⟨fun _ => ⟨g447, g448, trivial⟩, ?_⟩
    exact j229 _ _ ⟨p436, p440, p441, p442, (i443), (i444), (i445), (i446), ⟨k431, 0, none⟩, ⟨k395, 0, none⟩, ⟨rfl, rfl, rfl, rfl, rfl, trivial⟩, g447, g448, s⟩
 refine au 3 rfl ?_
 by_cases hb449 : p1 = none
 ·replace s := s.1 hb449
  refine zg rfl (sem_ptrNilT p1 (.inl rfl) true rfl rfl TF.ptr_29 hb449 rfl ?_)
  refine au 3 rfl ?_
  refine zcall s rfl rfl TF.goes_24 ?_
  rintro _ h450 ⟨p451, rfl, s⟩
  refine au 2 rfl ?_
  exact Run.of_fin (s.imp fun h' s => j9 _ _ ⟨p451, ⟨rfl, rfl, trivial⟩, s⟩)
 ·replace s := s.2 hb449
  refine zg rfl (sem_ptrNilF p1 (.inl rfl) false rfl rfl TF.ptr_29 hb449 rfl ?_)
  refine au 3 rfl ?_
  exact Run.of_fin (s.imp fun h' s => j9 _ _ ⟨p1, ⟨rfl, rfl, trivial⟩, s⟩)
theorem C_draft_Draft_int_Get.of {B : RO} {p1 : Option Addr} {i2 : Int} {h : Heap} {Q : Int → Bool → Heap → Prop} (s : S_draft_Draft_int_Get B p1 i2 h Q) : C_draft_Draft_int_Get B p1 i2 h Q := by
 refine zspec Tryz.func39 [ResultVar.tmp 4, ResultVar.tmp 5] rfl rfl rfl rfl rfl ?_
 refine au 13 rfl ?_
 by_cases hb5 : p1 = none
 ·replace s := s.1 hb5
  refine zg rfl (sem_ptrNilT p1 (.inl rfl) true rfl rfl TF.ptr_91 hb5 rfl ?_)
  refine au 8 rfl ?_
  exact zr (s.imp fun _ q => ⟨_, _, rfl, q⟩)
 ·replace s := s.2 hb5
  refine zg rfl (sem_ptrNilF p1 (.inl rfl) false rfl rfl TF.ptr_91 hb5 rfl ?_)
  refine au 7 rfl ?_
  refine zcall s rfl rfl TF.goes_81 ?_
  rintro _ h6 ⟨i7, b8, rfl, s⟩
  refine au 2 rfl ?_
  cases b8
  ·replace s := s.2 rfl
   refine au 1 rfl ?_
   refine au 16 rfl ?_
   exact zr (s.imp fun _ q => ⟨_, _, rfl, q⟩)
  ·replace s := s.1 rfl
   refine au 1 rfl ?_
   refine au 14 rfl ?_
   refine znil s rfl rfl fun A9 s => ?_
   refine au 1 rfl ?_
   refine Run.ldSl s fun a11 n12 c13 h14 hl s => ?_
   refine zg rfl (sem_load1 A9 ((.slice a11 n12 c13)) rfl TF.agg_164 hl ?_)
   refine au 1 rfl ?_
   obtain ⟨A15, e16, hi0, hi1, s⟩ := s
   refine zg rfl (sem_indexAddrS A15 n12 c13 .i64 (i7) (congrArg (fun a => Value.slice a n12 c13) e16) rfl TF.slc_164 hi0 hi1 ?_)
   refine au 1 rfl ?_
   refine zl s rfl rfl TF.agg_3 fun i17 s => ?_
   refine au 3 rfl ?_
   exact zr (s.imp fun _ q => ⟨_, _, rfl, q⟩)
theorem C_attempt_Attempt_note.of {B : RO} {p1 : Option Addr} {i2 : Int} {i3 : Int} {h : Heap} {Q : Int → Heap → Prop} (s : S_attempt_Attempt_note B p1 i2 i3 h Q) : C_attempt_Attempt_note B p1 i2 i3 h Q := by
 refine zspec Tryz.func40 [ResultVar.tmp 6] rfl rfl rfl rfl rfl ?_
 refine au 6 rfl ?_
 obtain ⟨A6, e7, s⟩ := s
 obtain ⟨p10, hl, s⟩ := s
 have f11 := hl
 obtain ⟨A13, e14, s⟩ := s
 obtain ⟨p17, hl, s⟩ := s
 have f18 := hl
 refine Run.drawM (fun h' => cellH B h' (Addr.add A6 1) = some (.pointer p10) ∧ cellH B h' A13 = some (.pointer p17) ∧ True) [] ⟨[0, 1, 2, 4, 0, 16, 32, 64, 128, 0, 0, 1800, 2048], [8191, 8190, 8189, 8187, 8191, 8175, 8159, 8127, 8063, 8191, 8191, 6391, 6143], [0, 0, 0, 0, 0, 0, 0, 0, 0, 0, 0, 0, 0], 0⟩ (.q 0 (.q 1 (.q 2 (.q 3 (.q 4 (.q 5 (.q 6 (.q 7 (.q 9 (.q 10 (.x 8 (.x 11 (.q 12 .nil) .no) .no))))))))))) TF.mixed (by kernel_rfl) ⟨f11, f18, trivial⟩ ?_
 refine auT 1 rfl ?_
 refine zq rfl (fun _ hC => sem_nilCheck A6 (congrArg Value.pointer e7) ⟨rfl, rfl⟩) ?_
 refine auT 1 rfl ?_
 refine zq rfl (fun _ hC => sem_load1 (Addr.add A6 1) ((.pointer p10)) rfl TF.agg_69 hC.1 ⟨rfl, rfl⟩) ?_
 refine auT 1 rfl ?_
 refine zq rfl (fun _ hC => sem_nilCheck A13 (congrArg Value.pointer e14) ⟨rfl, rfl⟩) ?_
 refine auT 1 rfl ?_
 refine zq rfl (fun _ hC => sem_load1 A13 ((.pointer p17)) rfl TF.agg_29 hC.2.1 ⟨rfl, rfl⟩) ?_
 refine auT 2 rfl ?_
 refine ⟨zo rfl (sem_callL [(.pointer p17)] (TF.goes_20) rfl rfl (Spec.mono s fun v h21 hv => ?_)), trivial⟩
 obtain ⟨l22, rfl, s⟩ := hv
 obtain ⟨g23, g24, s⟩ := s
 refine ⟨fun _ => ⟨g23, g24, trivial⟩, ?_⟩
 refine ⟨zo rfl (sem_callL [(.pointer p10), (.agg (List.toArray l22)), (.int .i64 (i2)), (.int .i64 (i3))] (TF.goes_82) rfl rfl (Spec.mono s fun v h25 hv => ?_)), trivial⟩
 obtain ⟨b26, rfl, s⟩ := hv
 cases b26
 ·replace s := s.2 rfl
  obtain ⟨g27, g28, s⟩ := s
  refine ⟨fun _ => ⟨g27, g28, trivial⟩, ?_⟩
  refine auT 1 rfl ?_
  refine au 5 rfl ?_
  exact zr (s.imp fun _ q => ⟨_, rfl, q⟩)
 ·replace s := s.1 rfl
  obtain ⟨g29, g30, s⟩ := s
  refine ⟨fun _ => ⟨g29, g30, trivial⟩, ?_⟩
  refine auT 1 rfl ?_
  refine au 6 rfl ?_
  exact zr (s.imp fun _ q => ⟨_, rfl, q⟩)
theorem C_cell_Row_int_Get.of {B : RO} {p1 : Option Addr} {i2 : Int} {h : Heap} {Q : Int → Int → Heap → Prop} (s : S_cell_Row_int_Get B p1 i2 h Q) : C_cell_Row_int_Get B p1 i2 h Q := by
 refine zspec Tryz.func41 [ResultVar.tmp 4, ResultVar.tmp 5] rfl rfl rfl rfl rfl ?_
 refine au 10 rfl ?_
 refine zcall s rfl rfl TF.goes_83 ?_
 rintro _ h5 ⟨b6, rfl, s⟩
 cases b6
 ·replace s := s.2 rfl
  refine au 13 rfl ?_
  exact zr (s.imp fun _ q => ⟨_, _, rfl, q⟩)
 ·replace s := s.1 rfl
  refine au 5 rfl ?_
  refine Run.drawM (fun h' => h' = h5) [] ⟨[0, 1, 2, 4, 0, 24, 32, 64, 0, 256, 512, 1024, 0, 6144, 8192, 16384, 255, 131071], [262143, 262142, 262141, 262139, 262143, 262119, 262111, 262079, 262143, 261887, 261631, 261119, 262143, 255999, 253951, 245759, 262015, 229375], [0, 0, 0, 0, 0, 0, 0, 0, 0, 0, 0, 0, 0, 0, 0, 0, 0, 0], 0⟩ (.q 0 (.q 1 (.q 2 (.q 3 (.q 4 (.q 5 (.q 6 (.q 7 (.q 8 (.q 9 (.q 10 (.q 11 (.q 12 (.q 13 (.q 14 (.q 15 (.q 16 (.q 17 .nil)))))))))))))))))) TF.mixed (by kernel_rfl) rfl ?_
  refine auT 1 rfl ?_
  obtain ⟨A7, e8, s⟩ := s
  refine zqe rfl (sem_nilCheck A7 (congrArg Value.pointer e8) ⟨rfl, rfl⟩) ?_
  refine auT 1 rfl ?_
  obtain ⟨a9, n10, c11, hl, s⟩ := s
  refine zqe rfl (sem_load1 A7 ((.slice a9 n10 c11)) rfl TF.agg_170 hl ⟨rfl, rfl⟩) ?_
  refine auT 1 rfl ?_
  obtain ⟨A12, e13, hi0, hi1, s⟩ := s
  refine zqe rfl (sem_indexAddrS A12 n10 c11 .i64 (i2) (congrArg (fun a => Value.slice a n10 c11) e13) rfl TF.slc_170 hi0 hi1 ⟨rfl, rfl⟩) ?_
  refine auT 1 rfl ?_
  obtain ⟨i14, hl, s⟩ := s
  refine zqe rfl (sem_load1 (Addr.add A12 (Int.toNat (i2) * 2)) ((.int .i64 (i14))) rfl TF.agg_3 hl ⟨rfl, rfl⟩) ?_
  refine auT 1 rfl ?_
  obtain ⟨A15, e16, s⟩ := s
  refine zqe rfl (sem_nilCheck A15 (congrArg Value.pointer e16) ⟨rfl, rfl⟩) ?_
  refine auT 1 rfl ?_
  obtain ⟨a17, n18, c19, hl, s⟩ := s
  refine zqe rfl (sem_load1 A15 ((.slice a17 n18 c19)) rfl TF.agg_170 hl ⟨rfl, rfl⟩) ?_
  refine auT 1 rfl ?_
  obtain ⟨A20, e21, hi0, hi1, s⟩ := s
  refine zqe rfl (sem_indexAddrS A20 n18 c19 .i64 (i2) (congrArg (fun a => Value.slice a n18 c19) e21) rfl TF.slc_170 hi0 hi1 ⟨rfl, rfl⟩) ?_
  refine auT 1 rfl ?_
  obtain ⟨i22, hl, s⟩ := s
  refine zqe rfl (sem_load1 (Addr.add (Addr.add A20 (Int.toNat (i2) * 2)) 1) ((.int .i64 (i22))) rfl TF.agg_3 hl ⟨rfl, rfl⟩) ?_
  refine auT 2 rfl ?_
  exact zr (s.imp fun _ q => ⟨_, _, rfl, q⟩)
theorem C_reads_Set_Valid.of {B : RO} {p1 : Option Addr} {l2 : List Value} {h : Heap} {Q : Bool → Heap → Prop} (s : S_reads_Set_Valid B p1 l2 h Q) : C_reads_Set_Valid B p1 l2 h Q := by
 refine zspec Tryz.func42 [ResultVar.tmp 4] rfl rfl rfl rfl rfl ?_
 refine au 2 rfl ?_
 refine zg rfl (sem_boxNN l2 rfl (fun k4 hb1 hb2 h5 hb3 => ?_))
 have s := s k4 hb1 hb2 h5 hb3
 refine au 6 rfl ?_
 by_cases hb6 : p1 = none
 ·replace s := s.1 hb6
  refine zg rfl (sem_ptrNilT p1 (.inl rfl) true rfl rfl TF.ptr_69 hb6 rfl ?_)
  refine au 6 rfl ?_
  exact zr (s.imp fun _ q => ⟨_, rfl, q⟩)
 ·replace s := s.2 hb6
  refine zg rfl (sem_ptrNilF p1 (.inl rfl) false rfl rfl TF.ptr_69 hb6 rfl ?_)
  refine au 7 rfl ?_
  refine znil s rfl rfl fun A7 s => ?_
  refine au 1 rfl ?_
  refine Run.ldSl s fun a9 n10 c11 h12 hl s => ?_
  refine zg rfl (sem_load1 A7 ((.slice a9 n10 c11)) rfl TF.agg_135 hl ?_)
  refine zg rfl (sem_lenSl a9 n10 c11 rfl TF.sl_135 ?_)
  refine au 3 rfl ?_
  obtain ⟨J18, m16, h0, s⟩ := s
  refine Run.of_fin (h0.imp fun h' h0 => ?_)
  refine Run.loop (σ := Int × Nat) (fun x e h => J18 x.1 x.2 h ∧ Agree [(3, (.pointer (some ⟨k4, 0, none⟩))), (12, (.slice a9 n10 c11)), (13, (.int .i64 ((n10 : Nat)))), (14, (.int .i64 (x.1)))] e) (fun x => x.2) ((0), m16) ⟨h0, ⟨rfl, rfl, rfl, rfl, trivial⟩⟩ ?_; clear h0
  rintro ⟨i13, m15⟩ e h14 ⟨hJ, hag⟩ ih17
  have s := s i13 m15 h14 hJ; clear hJ
  refine Run.env hag ?_; clear hag
  refine au 2 rfl ?_
  refine zt s rfl rfl rfl binI_lss_t binI_lss_f (fun s => ?_) fun s => ?_
  ·refine au 8 rfl ?_
   obtain ⟨A19, e20, hi0, hi1, s⟩ := s
   refine zg rfl (sem_indexAddrS A19 n10 c11 .i64 (i13) (congrArg (fun a => Value.slice a n10 c11) e20) rfl TF.slc_135 hi0 hi1 ?_)
   obtain ⟨i21, i22, i23, hl, s⟩ := s
   refine zn hl rfl rfl TF.agg_174 TF.sz_174 rfl ?_
   refine zal s rfl TF.zero_174 rfl fun k24 h25 s => ?_
   refine zsn s rfl rfl rfl TF.sz_174 rfl fun h26 s => ?_
   refine au 2 rfl ?_
   obtain ⟨l27, nl27, hl, s⟩ := s
   have f28 := hl
   obtain ⟨i30, hl, s⟩ := s
   have f31 := hl
   obtain ⟨i33, hl, s⟩ := s
   have f34 := hl
   obtain ⟨i36, hl, s⟩ := s
   have f37 := hl
   refine Run.drawM (fun h' => CellsAt B h' ⟨k4, 0, none⟩ 0 l27 ∧ cellH B h' ⟨k24, 0, none⟩ = some (.int .i64 (i30)) ∧ cellH B h' ⟨k24, 1, none⟩ = some (.int .i64 (i33)) ∧ cellH B h' ⟨k24, 2, none⟩ = some (.int .i64 (i36)) ∧ True) [] ⟨[0, 0, 2, 0, 8, 21, 0, 64, 160], [511, 511, 509, 511, 503, 490, 511, 447, 351], [0, 0, 0, 0, 0, 0, 0, 0, 0], 0⟩ (.q 0 (.q 1 (.q 2 (.q 3 (.q 4 (.q 6 (.q 7 (.x 5 (.q 8 .nil) .no)))))))) TF.mixed (by kernel_rfl) ⟨f28, f31, f34, f37, trivial⟩ ?_
   refine zq rfl (fun _ hC => sem_loadN ⟨k4, 0, none⟩ l27 rfl TF.agg_65 (TF.sz_65.trans (congrArg some nl27.symm)) hC.1 ⟨rfl, rfl⟩) ?_
   refine auT 1 rfl ?_
   refine zq rfl (fun _ hC => sem_load1 ⟨k24, 0, none⟩ ((.int .i64 (i30))) rfl TF.agg_110 hC.2.1 ⟨rfl, rfl⟩) ?_
   refine auT 1 rfl ?_
   refine zq rfl (fun _ hC => sem_load1 ⟨k24, 1, none⟩ ((.int .i64 (i33))) rfl TF.agg_3 hC.2.2.1 ⟨rfl, rfl⟩) ?_
   refine auT 1 rfl ?_
   refine zq rfl (fun _ hC => sem_load1 ⟨k24, 2, none⟩ ((.int .i64 (i36))) rfl TF.agg_3 hC.2.2.2.1 ⟨rfl, rfl⟩) ?_
   refine ⟨zo rfl (sem_callL [(.agg (List.toArray l27)), (.int .i64 (i30)), (.int .i64 (i33))] (TF.goes_84) rfl rfl (Spec.mono s fun v h38 hv => ?_)), trivial⟩
   obtain ⟨i39, rfl, s⟩ := hv
   obtain ⟨g40, g41, g42, g43, s⟩ := s
   refine ⟨fun _ => ⟨g40, g41, g42, g43, trivial⟩, ?_⟩
   by_cases hb44 : (i39 : Int) = i36
   ·replace s := s.1 hb44
    refine zq rfl (fun _ _ => sem_binI .i64 (i39) (i36) (.bool false) rfl rfl (binI_neq_t hb44) ⟨rfl, rfl⟩) ?_
    refine au 7 rfl ?_
    exact Run.of_fin (s.imp fun h' ⟨m', hm, s⟩ => ih17 ((IntKind.wrap .i64 ((i13) + (1))), m') _ _ ⟨s, ⟨rfl, rfl, rfl, rfl, trivial⟩⟩ hm)
   ·replace s := s.2 hb44
    refine zq rfl (fun _ _ => sem_binI .i64 (i39) (i36) (.bool true) rfl rfl (binI_neq_f hb44) ⟨rfl, rfl⟩) ?_
    refine au 5 rfl ?_
    exact zr (s.imp fun _ q => ⟨_, rfl, q⟩)
  ·refine au 8 rfl ?_
   exact zr (s.imp fun _ q => ⟨_, rfl, q⟩)
theorem C_draft_Draft_int_All.of {B : RO} {p1 : Option Addr} {h : Heap} {Q : Value → Heap → Prop} (s : S_draft_Draft_int_All B p1 h Q) : C_draft_Draft_int_All B p1 h Q := by
 refine zspec Tryz.func43 [ResultVar.tmp 2] rfl rfl rfl rfl rfl ?_
 refine au 2 rfl ?_
 refine zb1 s rfl rfl rfl rfl fun k3 h4 s => ?_
 refine au 7 rfl ?_
 exact zr (s.imp fun _ q => ⟨_, rfl, q⟩)
theorem C_cell_Row_int_Set.of {B : RO} {p1 : Option Addr} {i2 : Int} {i3 : Int} {i4 : Int} {h : Heap} {Q : Bool → Heap → Prop} (s : S_cell_Row_int_Set B p1 i2 i3 i4 h Q) : C_cell_Row_int_Set B p1 i2 i3 i4 h Q := by
 refine zspec Tryz.func44 [ResultVar.tmp 8] rfl rfl rfl rfl rfl ?_
 refine au 9 rfl ?_
 refine zcall s rfl rfl TF.goes_83 ?_
 rintro _ h6 ⟨b7, rfl, s⟩
 cases b7
 ·replace s := s.2 rfl
  refine au 7 rfl ?_
  exact zr (s.imp fun _ q => ⟨_, rfl, q⟩)
 ·replace s := s.1 rfl
  refine au 7 rfl ?_
  refine znil s rfl rfl fun A8 s => ?_
  refine au 1 rfl ?_
  refine Run.ldSl s fun a10 n11 c12 h13 hl s => ?_
  refine zg rfl (sem_load1 A8 ((.slice a10 n11 c12)) rfl TF.agg_170 hl ?_)
  refine au 3 rfl ?_
  refine zg rfl (sem_buildSL [(0, (.int .i64 (i3))), (1, (.int .i64 (i4)))] [(.int .i64 (i3)), (.int .i64 (i4))] TF.zero_169 TF.places_169 rfl rfl ?_)
  obtain ⟨A14, e15, hi0, hi1, s⟩ := s
  refine zg rfl (sem_indexAddrS A14 n11 c12 .i64 (i2) (congrArg (fun a => Value.slice a n11 c12) e15) rfl TF.slc_170 hi0 hi1 ?_)
  refine zsn s rfl rfl rfl TF.sz_169 rfl fun h16 s => ?_
  refine au 5 rfl ?_
  exact zr (s.imp fun _ q => ⟨_, rfl, q⟩)
theorem C_sheet_Sheet_Over.of {B : RO} {p1 : Option Addr} {p2 : Option Addr} {i3 : Int} {h : Heap} {Q : Int → Heap → Prop} (s : S_sheet_Sheet_Over B p1 p2 i3 h Q) : C_sheet_Sheet_Over B p1 p2 i3 h Q := by
 refine zspec Tryz.func45 [ResultVar.tmp 6] rfl rfl rfl rfl rfl ?_
 refine au 2 rfl ?_
 refine zb1 s rfl rfl rfl rfl fun k5 h6 s => ?_
 refine zb1 s rfl rfl rfl rfl fun k7 h8 s => ?_
 refine au 4 rfl ?_
 refine zal s rfl TF.zero_3 rfl fun k9 h10 s => ?_
 refine zs1 s rfl rfl rfl rfl TF.sz_3 fun h11 s => ?_
 refine au 5 rfl ?_
 refine zcall s rfl rfl TF.goes_78 ?_
 rintro _ h12 ⟨p13, rfl, s⟩
 refine zcall s rfl rfl TF.goes_86 ?_
 rintro v15 h14 ⟨_, rfl, s⟩
 refine au 2 rfl ?_
 obtain ⟨xs23, G19, J22, hit, hins, hG, h0, s, hR⟩ := s
 refine Run.of_fin (h0.imp fun h' h0 => ?_)
 refine Run.range (v15) (xs23.map (fun x : Int × Bool × ByteArray => [(.int .i64 (x.1)), (.agg #[(.bool x.2.1), (.string x.2.2)])])) G19 J22 rfl hit hins hG h0 rfl (fun a ha => by obtain ⟨x, _, rfl⟩ := List.mem_map.1 ha; rfl) ?_ ?_
 ·rintro q21 args h20 ha hJ
  obtain ⟨⟨i16, b17, s18⟩, hx, rfl⟩ := Option.map_eq_some_iff.1 ((List.getElem?_map ..).symm.trans ha)
  have s := s q21 h20 i16 b17 s18 hx hJ; clear hJ hx ha
  refine zput rfl ?_
  refine au 5 rfl ?_
  refine zal s rfl TF.zero_119 rfl fun k24 h25 s => ?_
  refine zsn s rfl rfl rfl TF.sz_119 rfl fun h26 s => ?_
  refine au 1 rfl ?_
  refine Run.begin ⟨rfl, ?_⟩
  refine au 3 rfl ?_
  refine zl s rfl rfl TF.agg_40 fun p27 s => ?_
  refine au 1 rfl ?_
  obtain ⟨b28, s29, hl, s⟩ := s
  refine zn hl rfl rfl TF.agg_119 TF.sz_119 rfl ?_
  refine zl s rfl rfl TF.agg_3 fun i30 s => ?_
  refine zcall s rfl rfl TF.goes_87 ?_
  rintro _ h31 ⟨b32, rfl, s⟩
  cases b32
  ·replace s := s.2 rfl
   refine au 4 rfl ?_
   refine Run.of_fin (s.imp fun h' s => ?_)
   exact Run.fall (.inl ⟨rfl, s⟩)
  ·replace s := s.1 rfl
   refine au 3 rfl ?_
   refine zl s rfl rfl TF.agg_3 fun i33 s => ?_
   refine au 1 rfl ?_
   refine zs1 s rfl rfl rfl rfl TF.sz_3 fun h34 s => ?_
   refine au 2 rfl ?_
   refine Run.of_fin (s.imp fun h' s => ?_)
   exact Run.fall (.inl ⟨rfl, s⟩)
 ·intro h20 hJ
  have s := hR h20 (by simpa using hJ); clear hJ hR
  refine au 3 rfl ?_
  refine zl s rfl rfl TF.agg_3 fun i35 s => ?_
  refine au 2 rfl ?_
  exact zr (s.imp fun _ q => ⟨_, rfl, q⟩)
theorem C_cursor_Cursor_Read.of {B : RO} {p1 : Option Addr} {i2 : Int} {h : Heap} {Q : Int → Heap → Prop} (s : S_cursor_Cursor_Read B p1 i2 h Q) : C_cursor_Cursor_Read B p1 i2 h Q := by
 refine zspec Tryz.func46 [ResultVar.tmp 4] rfl rfl rfl rfl rfl ?_
 refine au 4 rfl ?_
 refine Run.seqJ (fun e h5 => Agree [(0, (.pointer p1)), (1, (.int .i64 (i2)))] e ∧ S_cursor_Cursor_Read_J1 B p1 i2 h5 Q) ?_ fun j4 => ?_
 ·rintro e h5 ⟨hag, s⟩
  refine Run.env hag ?_; clear hag
  refine au 4 rfl ?_
  refine znil s rfl rfl fun A6 s => ?_
  refine au 1 rfl ?_
  obtain ⟨hi0, hi1, s⟩ := s
  refine zg rfl (sem_indexAddrA A6 .i64 (i2) rfl rfl TF.arr_53 hi0 hi1 ?_)
  refine zl s rfl rfl TF.agg_3 fun i8 s => ?_
  refine au 2 rfl ?_
  exact zr (s.imp fun _ q => ⟨_, rfl, q⟩)
 refine au 3 rfl ?_
 by_cases hb9 : p1 = none
 ·replace s := s.1 hb9
  refine zg rfl (sem_ptrNilT p1 (.inl rfl) true rfl rfl TF.ptr_93 hb9 rfl ?_)
  refine au 11 rfl ?_
  exact zr (s.imp fun _ q => ⟨_, rfl, q⟩)
 ·replace s := s.2 hb9
  refine zg rfl (sem_ptrNilF p1 (.inl rfl) false rfl rfl TF.ptr_93 hb9 rfl ?_)
  refine au 2 rfl ?_
  refine zcall s rfl rfl TF.goes_88 ?_
  rintro _ h10 ⟨b11, rfl, s⟩
  cases b11
  ·replace s := s.2 rfl
   refine au 8 rfl ?_
   exact zr (s.imp fun _ q => ⟨_, rfl, q⟩)
  ·replace s := s.1 rfl
   refine au 5 rfl ?_
   exact Run.of_fin (s.imp fun h' s => j4 _ _ ⟨⟨rfl, rfl, trivial⟩, s⟩)
theorem C_feed_Feed_Place.of {B : RO} {p1 : Option Addr} {i2 : Int} {h : Heap} {Q : Int → Int → Heap → Prop} (s : S_feed_Feed_Place B p1 i2 h Q) : C_feed_Feed_Place B p1 i2 h Q := by
 refine zspec Tryz.func47 [ResultVar.tmp 4, ResultVar.tmp 5] rfl rfl rfl rfl rfl ?_
 refine au 9 rfl ?_
 by_cases hb5 : p1 = none
 ·replace s := s.1 hb5
  refine zg rfl (sem_ptrNilT p1 (.inl rfl) true rfl rfl TF.ptr_41 hb5 rfl ?_)
  refine au 7 rfl ?_
  exact zr (s.imp fun _ q => ⟨_, _, rfl, q⟩)
 ·replace s := s.2 hb5
  refine zg rfl (sem_ptrNilF p1 (.inl rfl) false rfl rfl TF.ptr_41 hb5 rfl ?_)
  refine au 6 rfl ?_
  refine znil s rfl rfl fun A6 s => ?_
  refine au 1 rfl ?_
  refine zl s rfl rfl TF.agg_39 fun p8 s => ?_
  refine au 1 rfl ?_
  refine zcall s rfl rfl TF.goes_41 ?_
  rintro _ h9 ⟨i10, i11, rfl, s⟩
  refine au 5 rfl ?_
  exact zr (s.imp fun _ q => ⟨_, _, rfl, q⟩)
end Go.Proofs.YtgldgabefiialaaGreat.H
