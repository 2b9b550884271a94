/- What the law's proof stands on, part 4. No condition. -/
import Derived.Test.YtlehephbflgblaaGreatG3
namespace Go.Proofs.YtlehephbflgblaaGreat.H
open Go
set_option linter.unusedVariables false
set_option maxRecDepth 100000
set_option maxHeartbeats 4000000
theorem C_countermandlaw21_WorldRoom.of {B : RO} {a1 : Option Addr} {n2 : Nat} {c3 : Nat} {i4 : Int} {h : Heap} {Q : Bool → Heap → Prop} (s : S_countermandlaw21_WorldRoom B a1 n2 c3 i4 h Q) : C_countermandlaw21_WorldRoom B a1 n2 c3 i4 h Q := by
 refine zspec Tryz.func4 [ResultVar.tmp 4] rfl rfl rfl rfl rfl ?_
 refine au 7 rfl ?_
 refine zcall s rfl rfl TF.goes_5 ?_
 rintro _ h6 ⟨b7, rfl, s⟩
 cases b7
 ·replace s := s.2 rfl
  refine au 7 rfl ?_
  exact zr (s.imp fun _ q => ⟨_, rfl, q⟩)
 ·replace s := s.1 rfl
  refine au 4 rfl ?_
  refine Run.seqJ (fun e h9 => Agree [(0, (.slice a1 n2 c3)), (1, (.int .i64 (i4)))] e ∧ S_countermandlaw21_WorldRoom_J1 B a1 n2 c3 i4 h9 Q) ?_ fun j8 => ?_
  ·rintro e h9 ⟨hag, s⟩
   refine Run.env hag ?_; clear hag
   refine au 2 rfl ?_
   refine zcall s rfl rfl TF.goes_6 ?_
   rintro _ h10 ⟨p11, rfl, s⟩
   refine au 5 rfl ?_
   refine zcall s rfl rfl TF.goes_7 ?_
   rintro _ h12 ⟨p13, i14, rfl, s⟩
   refine au 8 rfl ?_
   refine zal s rfl TF.zero_33 rfl fun k15 h16 s => ?_
   refine au 5 rfl ?_
   refine Run.seqJ (fun e h19 => ∃ i18 : Int, Agree [(5, (.pointer p11)), (8, (.pointer (some ⟨k15, 0, none⟩))), (9, (.int .i64 (i18)))] e ∧ S_countermandlaw21_WorldRoom_J2 B p11 k15 i18 h19 Q) ?_ fun j17 => ?_
   ·rintro e h19 ⟨i18, hag, s⟩
    refine Run.env hag ?_; clear hag
    refine au 3 rfl ?_
    refine zcall s rfl rfl TF.goes_17 ?_
    rintro _ h20 ⟨rfl, s⟩
    refine au 4 rfl ?_
    refine zcall s rfl rfl TF.goes_7 ?_
    rintro _ h21 ⟨p22, i23, rfl, s⟩
    refine au 9 rfl ?_
    refine zt s rfl rfl rfl binI_eql_t binI_eql_f (fun s => ?_) fun s => ?_
    ·refine au 2 rfl ?_
     obtain ⟨l24, nl24, hl, s⟩ := s
     refine zg rfl (sem_loadN ⟨k15, 0, none⟩ l24 rfl TF.agg_33 (TF.sz_33.trans (congrArg some nl24.symm)) hl ?_)
     refine zcall s rfl rfl TF.goes_19 ?_
     rintro _ h25 ⟨b26, rfl, s⟩
     cases b26
     ·replace s := s.2 rfl
      refine au 9 rfl ?_
      exact zr (s.imp fun _ q => ⟨_, rfl, q⟩)
     ·replace s := s.1 rfl
      refine au 3 rfl ?_
      refine zcall s rfl rfl TF.goes_18 ?_
      rintro _ h27 ⟨i28, rfl, s⟩
      refine au 5 rfl ?_
      exact zr (s.imp fun _ q => ⟨_, rfl, q⟩)
    ·refine au 13 rfl ?_
     exact zr (s.imp fun _ q => ⟨_, rfl, q⟩)
   refine au 6 rfl ?_
   obtain ⟨J35, m33, h0, s⟩ := s
   refine Run.of_fin (h0.imp fun h' h0 => ?_)
   refine Run.loop (σ := Int × Int × Nat) (fun x e h => J35 x.1 x.2.1 x.2.2 h ∧ Agree [(0, (.slice a1 n2 c3)), (5, (.pointer p11)), (6, (.pointer p13)), (8, (.pointer (some ⟨k15, 0, none⟩))), (9, (.int .i64 (x.1))), (39, (.int .i64 (i4))), (40, (.int .i64 (x.2.1)))] e) (fun x => x.2.2) ((0), (0), m33) ⟨h0, ⟨rfl, rfl, rfl, rfl, rfl, rfl, rfl, trivial⟩⟩ ?_; clear h0
   rintro ⟨i29, i30, m32⟩ e h31 ⟨hJ, hag⟩ ih34
   have s := s i29 i30 m32 h31 hJ; clear hJ
   refine Run.env hag ?_; clear hag
   refine au 2 rfl ?_
   refine zt s rfl rfl rfl binI_lss_t binI_lss_f (fun s => ?_) fun s => ?_
   ·refine au 9 rfl ?_
    refine zg rfl (sem_lenSl a1 n2 c3 rfl TF.sl_22 ?_)
    refine au 3 rfl ?_
    obtain ⟨J42, m40, h0, s⟩ := s
    refine Run.of_fin (h0.imp fun h' h0 => ?_)
    refine Run.loop (σ := Int × Int × Nat) (fun x e h => J42 x.1 x.2.1 x.2.2 h ∧ Agree [(0, (.slice a1 n2 c3)), (5, (.pointer p11)), (6, (.pointer p13)), (8, (.pointer (some ⟨k15, 0, none⟩))), (9, (.int .i64 (x.1))), (39, (.int .i64 (i4))), (40, (.int .i64 (i30))), (42, (.slice a1 n2 c3)), (43, (.int .i64 ((n2 : Nat)))), (44, (.int .i64 (x.2.1)))] e) (fun x => x.2.2) ((i29), (0), m40) ⟨h0, ⟨rfl, rfl, rfl, rfl, rfl, rfl, rfl, rfl, rfl, rfl, trivial⟩⟩ ?_; clear h0
    rintro ⟨i36, i37, m39⟩ e h38 ⟨hJ, hag⟩ ih41
    have s := s i36 i37 m39 h38 hJ; clear hJ
    refine Run.env hag ?_; clear hag
    refine au 2 rfl ?_
    refine zt s rfl rfl rfl binI_lss_t binI_lss_f (fun s => ?_) fun s => ?_
    ·refine au 8 rfl ?_
     obtain ⟨A43, e44, hi0, hi1, s⟩ := s
     refine zg rfl (sem_indexAddrS A43 n2 c3 .i64 (i37) (congrArg (fun a => Value.slice a n2 c3) e44) rfl TF.slc_22 hi0 hi1 ?_)
     refine Run.ldSl s fun a45 n46 c47 h48 hl s => ?_
     refine zg rfl (sem_load1 (Addr.add A43 (Int.toNat (i37) * 1)) ((.slice a45 n46 c47)) rfl TF.agg_23 hl ?_)
     refine au 5 rfl ?_
     refine zcall s rfl rfl TF.goes_8 ?_
     rintro _ h49 ⟨p50, a51, n52, c53, b54, rfl, s⟩
     refine au 3 rfl ?_
     cases b54
     ·replace s := s.2 rfl
      refine au 1 rfl ?_
      refine au 15 rfl ?_
      exact zr (s.imp fun _ q => ⟨_, rfl, q⟩)
     ·replace s := s.1 rfl
      refine au 1 rfl ?_
      refine au 17 rfl ?_
      refine zcall s rfl rfl TF.goes_9 ?_
      rintro _ h55 ⟨i56, rfl, s⟩
      refine zu s rfl rfl rfl binI_neq_t binI_neq_f (fun s => ?_) fun s => ?_
      ·refine au 6 rfl ?_
       refine zcall s rfl rfl TF.goes_10 ?_
       rintro _ h57 ⟨rfl, s⟩
       refine au 4 rfl ?_
       refine zcall s rfl rfl TF.goes_12 ?_
       rintro _ h58 ⟨s59, rfl, s⟩
       refine zcall s rfl rfl TF.goes_11 ?_
       rintro _ h60 ⟨i61, a62, n63, c64, b65, rfl, s⟩
       refine au 11 rfl ?_
       refine zcall s rfl rfl TF.goes_14 ?_
       rintro _ h66 ⟨p67, rfl, s⟩
       refine znil s rfl rfl fun A68 s => ?_
       refine au 1 rfl ?_
       refine zl s rfl rfl TF.agg_44 fun p70 s => ?_
       refine au 1 rfl ?_
       refine zcall s rfl rfl TF.goes_13 ?_
       rintro _ h71 ⟨rfl, s⟩
       refine au 4 rfl ?_
       refine zcall s rfl rfl TF.goes_15 ?_
       rintro _ h72 ⟨rfl, s⟩
       refine au 3 rfl ?_
       obtain ⟨l73, nl73, hl, s⟩ := s
       refine zg rfl (sem_loadN ⟨k15, 0, none⟩ l73 rfl TF.agg_33 (TF.sz_33.trans (congrArg some nl73.symm)) hl ?_)
       refine au 1 rfl ?_
       refine zcall s rfl rfl TF.goes_16 ?_
       rintro _ h74 ⟨l75, rfl, s⟩
       obtain ⟨hln, h76, hst, s⟩ := s
       refine zg0 rfl (sem_storeN ⟨k15, 0, none⟩ l75 h76 rfl rfl (TF.sz_33.trans (congrArg some hln.symm)) hst ?_)
       refine au 10 rfl ?_
       refine zcall s rfl rfl TF.goes_20 ?_
       rintro _ h77 ⟨s78, rfl, s⟩
       refine zg rfl (sem_lenStr s78 rfl TF.isStr_9 ?_)
       refine au 1 rfl ?_
       refine zcall s rfl rfl TF.goes_20 ?_
       rintro _ h79 ⟨s80, rfl, s⟩
       refine zg rfl (sem_lenStr s80 rfl TF.isStr_9 ?_)
       refine au 1 rfl ?_
       refine zt s rfl rfl rfl binI_gtr_t binI_gtr_f (fun s => ?_) fun s => ?_
       ·refine au 6 rfl ?_
        exact zr (s.imp fun _ q => ⟨_, rfl, q⟩)
       ·refine au 8 rfl ?_
        exact Run.of_fin (s.imp fun h' ⟨m', hm, s⟩ => ih41 ((IntKind.wrap .i64 ((i36) + (1))), (IntKind.wrap .i64 ((i37) + (1))), m') _ _ ⟨s, ⟨rfl, rfl, rfl, rfl, rfl, rfl, rfl, rfl, rfl, rfl, trivial⟩⟩ hm)
      ·refine au 6 rfl ?_
       exact zr (s.imp fun _ q => ⟨_, rfl, q⟩)
    ·refine au 9 rfl ?_
     exact Run.of_fin (s.imp fun h' ⟨m', hm, s⟩ => ih34 ((i36), (IntKind.wrap .i64 ((i30) + (1))), m') _ _ ⟨s, ⟨rfl, rfl, rfl, rfl, rfl, rfl, rfl, trivial⟩⟩ hm)
   ·refine au 4 rfl ?_
    exact Run.of_fin (s.imp fun h' s => j17 _ _ ⟨(i29), ⟨rfl, rfl, rfl, trivial⟩, s⟩)
  refine au 3 rfl ?_
  refine zg rfl (sem_lenSl a1 n2 c3 rfl TF.sl_22 ?_)
  refine zt s rfl rfl rfl binI_gtr_t binI_gtr_f (fun s => ?_) fun s => ?_
  ·refine au 14 rfl ?_
   exact zr (s.imp fun _ q => ⟨_, rfl, q⟩)
  ·refine au 2 rfl ?_
   refine zt s rfl rfl rfl binI_lss_t binI_lss_f (fun s => ?_) fun s => ?_
   ·refine au 11 rfl ?_
    exact zr (s.imp fun _ q => ⟨_, rfl, q⟩)
   ·refine au 3 rfl ?_
    refine zt s rfl rfl rfl binI_gtr_t binI_gtr_f (fun s => ?_) fun s => ?_
    ·refine au 7 rfl ?_
     exact zr (s.imp fun _ q => ⟨_, rfl, q⟩)
    ·refine au 4 rfl ?_
     exact Run.of_fin (s.imp fun h' s => j8 _ _ ⟨⟨rfl, rfl, trivial⟩, s⟩)
theorem C_countermandlaw21_alive.of {B : RO} {h : Heap} {Q : Bool → Heap → Prop} (s : S_countermandlaw21_alive B h Q) : C_countermandlaw21_alive B h Q := by
 refine zspec Tryz.func5 [ResultVar.tmp 0] rfl rfl rfl rfl rfl ?_
 refine au 6 rfl ?_
 refine zcall s rfl rfl TF.goes_6 ?_
 rintro _ h2 ⟨p3, rfl, s⟩
 refine zcall s rfl rfl TF.goes_7 ?_
 rintro _ h4 ⟨p5, i6, rfl, s⟩
 refine au 10 rfl ?_
 refine zu s rfl rfl rfl binI_neq_t binI_neq_f (fun s => ?_) fun s => ?_
 ·refine au 6 rfl ?_
  refine zg rfl (sem_buildSL [(0, (.int .i64 (1))), (1, (.int .i64 (5)))] [(.int .i64 (1)), (.int .i64 (5))] TF.zero_59 TF.places_59 rfl rfl ?_)
  refine zg rfl (sem_buildSliceL [(0, (.agg #[(.int .i64 (1)), (.int .i64 (5))]))] [(.int .i64 (1)), (.int .i64 (5))] TF.slc_117 TF.zero_59 rfl (by decide) (by decide) rfl rfl (fun k7 hb1 hb2 h8 hb3 => ?_))
  have s := s k7 hb1 hb2 h8 hb3
  refine zcall s rfl rfl TF.goes_21 ?_
  rintro _ h9 ⟨rfl, s⟩
  refine au 4 rfl ?_
  refine zcall s rfl rfl TF.goes_15 ?_
  rintro _ h10 ⟨rfl, s⟩
  refine au 4 rfl ?_
  refine zcall s rfl rfl TF.goes_22 ?_
  rintro _ h11 ⟨i12, i13, i14, i15, rfl, s⟩
  obtain ⟨hi0, hi1, i16, hix, s⟩ := s
  refine zg rfl (sem_indexArr #[(.int .i64 (i12)), (.int .i64 (i13)), (.int .i64 (i14)), (.int .i64 (i15))] (.int .i64 (i16)) .i64 (1) rfl rfl TF.arr_60 hi0 hi1 hix ?_)
  refine zt s rfl rfl rfl binI_eql_t binI_eql_f (fun s => ?_) fun s => ?_
  ·refine au 2 rfl ?_
   refine zcall s rfl rfl TF.goes_18 ?_
   rintro _ h17 ⟨i18, rfl, s⟩
   refine zt s rfl rfl rfl binI_eql_t binI_eql_f (fun s => ?_) fun s => ?_
   ·refine au 3 rfl ?_
    refine zcall s rfl rfl TF.goes_14 ?_
    rintro _ h19 ⟨p20, rfl, s⟩
    refine znil s rfl rfl fun A21 s => ?_
    refine au 1 rfl ?_
    refine zl s rfl rfl TF.agg_3 fun i23 s => ?_
    refine au 4 rfl ?_
    exact zr (s.imp fun _ q => ⟨_, rfl, q⟩)
   ·refine au 11 rfl ?_
    exact zr (s.imp fun _ q => ⟨_, rfl, q⟩)
  ·refine au 15 rfl ?_
   exact zr (s.imp fun _ q => ⟨_, rfl, q⟩)
 ·refine au 6 rfl ?_
  exact zr (s.imp fun _ q => ⟨_, rfl, q⟩)
theorem C_disk_New.of {B : RO} {h : Heap} {Q : Option Addr → Heap → Prop} (s : S_disk_New B h Q) : C_disk_New B h Q := by
 refine zspec Tryz.func6 [ResultVar.tmp 0] rfl rfl rfl rfl rfl ?_
 refine au 6 rfl ?_
 refine zg rfl (sem_buildSL [] [(.string ByteArray.empty), (.string ByteArray.empty), (.string ByteArray.empty), (.string ByteArray.empty), (.slice none 0 0)] TF.zero_67 TF.places_67 rfl rfl ?_)
 refine zbn s rfl rfl rfl fun k2 h3 s => ?_
 refine au 2 rfl ?_
 exact zr (s.imp fun _ q => ⟨_, rfl, q⟩)
theorem C_world_Open.of {B : RO} {p1 : Option Addr} {h : Heap} {Q : Option Addr → Int → Heap → Prop} (s : S_world_Open B p1 h Q) : C_world_Open B p1 h Q := by
 refine zspec Tryz.func7 [ResultVar.tmp 2, ResultVar.tmp 3] rfl rfl rfl rfl rfl ?_
 refine au 8 rfl ?_
 refine zcall s rfl rfl TF.goes_23 ?_
 rintro _ h4 ⟨p5, s6, a7, n8, c9, i10, rfl, s⟩
 refine au 4 rfl ?_
 refine zal s rfl TF.zero_71 rfl fun k11 h12 s => ?_
 refine au 1 rfl ?_
 refine zsn s rfl rfl rfl TF.sz_71 rfl fun h13 s => ?_
 refine au 6 rfl ?_
 refine zu s rfl rfl rfl binI_neq_t binI_neq_f (fun s => ?_) fun s => ?_
 ·refine au 6 rfl ?_
  refine zl s rfl rfl TF.agg_9 fun s14 s => ?_
  refine zcall s rfl rfl TF.goes_24 ?_
  rintro _ h15 ⟨i16, p17, b18, rfl, s⟩
  refine au 3 rfl ?_
  cases b18
  ·replace s := s.2 rfl
   refine au 1 rfl ?_
   refine au 16 rfl ?_
   exact zr (s.imp fun _ q => ⟨_, _, rfl, q⟩)
  ·replace s := s.1 rfl
   refine au 1 rfl ?_
   refine au 16 rfl ?_
   refine Run.ldSl s fun a19 n20 c21 h22 hl s => ?_
   refine zg rfl (sem_load1 ⟨k11, 1, none⟩ ((.slice a19 n20 c21)) rfl TF.agg_69 hl ?_)
   refine zcall s rfl rfl TF.goes_25 ?_
   rintro _ h23 ⟨i24, i25, rfl, s⟩
   refine au 11 rfl ?_
   refine Run.ldSl s fun a26 n27 c28 h29 hl s => ?_
   refine zg rfl (sem_load1 ⟨k11, 1, none⟩ ((.slice a26 n27 c28)) rfl TF.agg_69 hl ?_)
   refine zg rfl (sem_lenSl a26 n27 c28 rfl TF.sl_69 ?_)
   refine zt s rfl rfl rfl binI_lss_t binI_lss_f (fun s => ?_) fun s => ?_
   ·refine au 7 rfl ?_
    exact zr (s.imp fun _ q => ⟨_, _, rfl, q⟩)
   ·refine au 7 rfl ?_
    refine zg rfl (sem_max .i64 (i16) (i24) rfl rfl ?_)
    refine au 8 rfl ?_
    refine zcall s rfl rfl TF.goes_27 ?_
    rintro _ h30 ⟨s31, rfl, s⟩
    refine zcall s rfl rfl TF.goes_26 ?_
    rintro _ h32 ⟨i33, rfl, s⟩
    refine au 5 rfl ?_
    refine zu s rfl rfl rfl binI_neq_t binI_neq_f (fun s => ?_) fun s => ?_
    ·refine au 5 rfl ?_
     refine zcall s rfl rfl TF.goes_28 ?_
     rintro _ h34 ⟨p35, rfl, s⟩
     refine zcall s rfl rfl TF.goes_29 ?_
     rintro _ h36 ⟨p37, rfl, s⟩
     refine zcall s rfl rfl TF.goes_30 ?_
     rintro _ h38 ⟨p39, rfl, s⟩
     refine au 3 rfl ?_
     refine zg rfl (sem_buildSL [(0, (.pointer p35)), (1, (.pointer p37)), (2, (.pointer p39)), (3, (.pointer p1)), (4, (.pointer p5)), (7, (.int .i64 (if (i24 : Int) > (i16) then (i24 : Int) else (i16))))] [(.pointer p35), (.pointer p37), (.pointer p39), (.pointer p1), (.pointer p5), (.int .i64 (0)), (.int .i64 (0)), (.int .i64 (0)), (.int .i64 (0)), (.slice none 0 0), (.int .i64 (if (i24 : Int) > (i16) then (i24 : Int) else (i16))), (.int .i64 (0))] TF.zero_86 TF.places_86 rfl rfl ?_)
     refine zbn s rfl rfl rfl fun k40 h41 s => ?_
     refine au 7 rfl ?_
     refine zl s rfl rfl TF.agg_48 fun p42 s => ?_
     refine au 1 rfl ?_
     refine znil s rfl rfl fun A43 s => ?_
     refine au 1 rfl ?_
     refine zs1 s rfl rfl rfl rfl TF.sz_44 fun h45 s => ?_
     refine au 7 rfl ?_
     exact zr (s.imp fun _ q => ⟨_, _, rfl, q⟩)
    ·refine au 8 rfl ?_
     exact zr (s.imp fun _ q => ⟨_, _, rfl, q⟩)
 ·refine au 8 rfl ?_
  exact zr (s.imp fun _ q => ⟨_, _, rfl, q⟩)
theorem C_countermandlaw21_drawn.of {B : RO} {a1 : Option Addr} {n2 : Nat} {c3 : Nat} {h : Heap} {Q : Option Addr → Option Addr → Nat → Nat → Bool → Heap → Prop} (s : S_countermandlaw21_drawn B a1 n2 c3 h Q) : C_countermandlaw21_drawn B a1 n2 c3 h Q := by
 refine zspec Tryz.func8 [ResultVar.tmp 2, ResultVar.tmp 3, ResultVar.tmp 4] rfl rfl rfl rfl rfl ?_
 refine au 8 rfl ?_
 refine zg rfl (sem_buildSL [] [(.slice none 0 0)] TF.zero_89 TF.places_89 rfl rfl ?_)
 refine zbn s rfl rfl rfl fun k9 h10 s => ?_
 refine au 6 rfl ?_
 refine zg rfl (sem_lenSl a1 n2 c3 rfl TF.sl_23 ?_)
 refine zt s rfl rfl rfl binI_gtr_t binI_gtr_f (fun s => ?_) fun s => ?_
 ·refine au 9 rfl ?_
  exact zr (s.imp fun _ q => ⟨_, _, _, _, _, rfl, q⟩)
 ·refine au 3 rfl ?_
  refine Run.seqJ (fun e h12 => Agree [(5, (.pointer (some ⟨k9, 0, none⟩)))] e ∧ S_countermandlaw21_drawn_J1 B k9 h12 Q) ?_ fun j11 => ?_
  ·rintro e h12 ⟨hag, s⟩
   refine Run.env hag ?_; clear hag
   refine au 2 rfl ?_
   refine zal s rfl TF.zero_35 rfl fun k13 h14 s => ?_
   refine au 5 rfl ?_
   refine zcall s rfl rfl TF.goes_33 ?_
   rintro v16 h15 ⟨_, rfl, s⟩
   refine au 2 rfl ?_
   obtain ⟨xs24, G20, J23, hit, hins, hG, h0, s, hR⟩ := s
   refine Run.of_fin (h0.imp fun h' h0 => ?_)
   refine Run.range (v16) (xs24.map (fun x : Int × Bool × ByteArray => [(.int .i64 (x.1)), (.agg #[(.bool x.2.1), (.string x.2.2)])])) G20 J23 rfl hit hins hG h0 rfl (fun a ha => by obtain ⟨x, _, rfl⟩ := List.mem_map.1 ha; rfl) ?_ ?_
   ·rintro q22 args h21 ha hJ
    obtain ⟨⟨i17, b18, s19⟩, hx, rfl⟩ := Option.map_eq_some_iff.1 ((List.getElem?_map ..).symm.trans ha)
    have s := s q22 h21 i17 b18 s19 hx hJ; clear hJ hx ha
    refine zput rfl ?_
    refine au 5 rfl ?_
    refine zal s rfl TF.zero_90 rfl fun k25 h26 s => ?_
    refine zsn s rfl rfl rfl TF.sz_90 rfl fun h27 s => ?_
    refine au 1 rfl ?_
    refine Run.begin ⟨rfl, ?_⟩
    refine au 2 rfl ?_
    refine Run.ldSl s fun a28 n29 c30 h31 hl s => ?_
    refine zg rfl (sem_load1 ⟨k13, 0, none⟩ ((.slice a28 n29 c30)) rfl TF.agg_35 hl ?_)
    refine au 1 rfl ?_
    obtain ⟨b32, s33, hl, s⟩ := s
    refine zn hl rfl rfl TF.agg_90 TF.sz_90 rfl ?_
    refine zg rfl (sem_buildSL [(0, (.int .i64 (i17))), (1, (.agg #[(.bool b32), (.string s33)]))] [(.int .i64 (i17)), (.bool b32), (.string s33)] TF.zero_99 TF.places_99 rfl rfl ?_)
    refine zg rfl (sem_buildSliceL [(0, (.agg #[(.int .i64 (i17)), (.bool b32), (.string s33)]))] [(.int .i64 (i17)), (.bool b32), (.string s33)] TF.slc_35 TF.zero_99 rfl (by decide) (by decide) rfl rfl (fun k34 hb1 hb2 h35 hb3 => ?_))
    have s := s k34 hb1 hb2 h35 hb3
    refine zg rfl (sem_appendL [(.slice a28 n29 c30), (.slice (some ⟨k34, 0, none⟩) 1 1)] rfl (semH_mono (fun v h36 hv => ?_) s))
    obtain ⟨a37, n38, c39, rfl, s⟩ := hv
    refine zs1 s rfl rfl rfl rfl TF.sz_35 fun h40 s => ?_
    refine au 2 rfl ?_
    refine Run.of_fin (s.imp fun h' s => ?_)
    exact Run.fall (.inl ⟨rfl, s⟩)
   ·intro h21 hJ
    have s := hR h21 (by simpa using hJ); clear hJ hR
    refine au 2 rfl ?_
    refine Run.drawM (fun h' => h' = h21) [] ⟨[0, 0, 1, 7, 15], [31, 31, 30, 29, 31], [0, 0, 0, 0, 0], 0⟩ (.q 0 (.q 1 (.q 2 (.q 3 (.q 4 .nil))))) TF.mixed (by kernel_rfl) rfl ?_
    refine auT 1 rfl ?_
    obtain ⟨a41, n42, c43, hl, s⟩ := s
    refine zqe rfl (sem_load1 ⟨k13, 0, none⟩ ((.slice a41 n42 c43)) rfl TF.agg_35 hl ⟨rfl, rfl⟩) ?_
    refine auT 3 rfl ?_
    exact zr (s.imp fun _ q => ⟨_, _, _, _, _, rfl, q⟩)
  refine au 3 rfl ?_
  refine zg rfl (sem_lenSl a1 n2 c3 rfl TF.sl_23 ?_)
  refine au 3 rfl ?_
  obtain ⟨J49, m47, h0, s⟩ := s
  refine Run.of_fin (h0.imp fun h' h0 => ?_)
  refine Run.loop (σ := Int × Nat) (fun x e h => J49 x.1 x.2 h ∧ Agree [(5, (.pointer (some ⟨k9, 0, none⟩))), (17, (.slice a1 n2 c3)), (18, (.int .i64 ((n2 : Nat)))), (19, (.int .i64 (x.1)))] e) (fun x => x.2) ((0), m47) ⟨h0, ⟨rfl, rfl, rfl, rfl, trivial⟩⟩ ?_; clear h0
  rintro ⟨i44, m46⟩ e h45 ⟨hJ, hag⟩ ih48
  have s := s i44 m46 h45 hJ; clear hJ
  refine Run.env hag ?_; clear hag
  refine au 2 rfl ?_
  refine zt s rfl rfl rfl binI_lss_t binI_lss_f (fun s => ?_) fun s => ?_
  ·refine au 8 rfl ?_
   obtain ⟨A50, e51, hi0, hi1, s⟩ := s
   refine zg rfl (sem_indexAddrS A50 n2 c3 .i64 (i44) (congrArg (fun a => Value.slice a n2 c3) e51) rfl TF.slc_23 hi0 hi1 ?_)
   obtain ⟨i52, b53, s54, hl, s⟩ := s
   refine zn hl rfl rfl TF.agg_92 TF.sz_92 rfl ?_
   refine zal s rfl TF.zero_92 rfl fun k55 h56 s => ?_
   refine zsn s rfl rfl rfl TF.sz_92 rfl fun h57 s => ?_
   refine au 1 rfl ?_
   refine Run.seqJ (fun e h59 => Agree [(5, (.pointer (some ⟨k9, 0, none⟩))), (7, (.pointer (some ⟨k55, 0, none⟩))), (17, (.slice a1 n2 c3)), (18, (.int .i64 ((n2 : Nat)))), (19, (.int .i64 (i44)))] e ∧ S_countermandlaw21_drawn_J2 B a1 n2 c3 k9 i44 m46 J49 k55 h59 Q) ?_ fun j58 => ?_
   ·rintro e h59 ⟨hag, s⟩
    refine Run.env hag ?_; clear hag
    refine au 3 rfl ?_
    refine zl s rfl rfl TF.agg_3 fun i60 s => ?_
    refine au 1 rfl ?_
    obtain ⟨b61, s62, hl, s⟩ := s
    refine zn hl rfl rfl TF.agg_90 TF.sz_90 rfl ?_
    refine zcall s rfl rfl TF.goes_32 ?_
    rintro _ h63 ⟨b64, rfl, s⟩
    refine au 6 rfl ?_
    exact Run.of_fin (s.imp fun h' ⟨m', hm, s⟩ => ih48 ((IntKind.wrap .i64 ((i44) + (1))), m') _ _ ⟨s, ⟨rfl, rfl, rfl, rfl, trivial⟩⟩ hm)
   refine au 3 rfl ?_
   refine zl s rfl rfl TF.agg_3 fun i65 s => ?_
   refine zt s rfl rfl rfl binI_lss_t binI_lss_f (fun s => ?_) fun s => ?_
   ·refine au 20 rfl ?_
    exact zr (s.imp fun _ q => ⟨_, _, _, _, _, rfl, q⟩)
   ·refine au 2 rfl ?_
    refine zl s rfl rfl TF.agg_3 fun i66 s => ?_
    refine zt s rfl rfl rfl binI_gtr_t binI_gtr_f (fun s => ?_) fun s => ?_
    ·refine au 16 rfl ?_
     exact zr (s.imp fun _ q => ⟨_, _, _, _, _, rfl, q⟩)
    ·refine au 3 rfl ?_
     obtain ⟨b67, s68, hl, s⟩ := s
     refine zn hl rfl rfl TF.agg_90 TF.sz_90 rfl ?_
     refine zcall s rfl rfl TF.goes_31 ?_
     rintro _ h69 ⟨b70, rfl, s⟩
     cases b70
     ·replace s := s.2 rfl
      refine au 11 rfl ?_
      exact zr (s.imp fun _ q => ⟨_, _, _, _, _, rfl, q⟩)
     ·replace s := s.1 rfl
      refine au 5 rfl ?_
      exact Run.of_fin (s.imp fun h' s => j58 _ _ ⟨⟨rfl, rfl, rfl, rfl, rfl, trivial⟩, s⟩)
  ·refine au 4 rfl ?_
   exact Run.of_fin (s.imp fun h' s => j11 _ _ ⟨⟨rfl, trivial⟩, s⟩)
theorem C_world_World_Write.of {B : RO} {p1 : Option Addr} {p2 : Option Addr} {h : Heap} {Q : Int → Heap → Prop} (s : S_world_World_Write B p1 p2 h Q) : C_world_World_Write B p1 p2 h Q := by
 refine zspec Tryz.func9 [ResultVar.tmp 4] rfl rfl rfl rfl rfl ?_
 refine au 8 rfl ?_
 by_cases hb4 : p1 = none
 ·replace s := s.1 hb4
  refine zg rfl (sem_ptrNilT p1 (.inl rfl) true rfl rfl TF.ptr_27 hb4 rfl ?_)
  refine au 6 rfl ?_
  exact zr (s.imp fun _ q => ⟨_, rfl, q⟩)
 ·replace s := s.2 hb4
  refine zg rfl (sem_ptrNilF p1 (.inl rfl) false rfl rfl TF.ptr_27 hb4 rfl ?_)
  refine au 7 rfl ?_
  refine znil s rfl rfl fun A5 s => ?_
  refine au 1 rfl ?_
  refine zl s rfl rfl TF.agg_3 fun i7 s => ?_
  refine zt s rfl rfl rfl binI_gtr_t binI_gtr_f (fun s => ?_) fun s => ?_
  ·refine au 5 rfl ?_
   refine znil s rfl rfl fun A8 s => ?_
   refine au 1 rfl ?_
   refine zl s rfl rfl TF.agg_3 fun i10 s => ?_
   refine au 1 rfl ?_
   refine znil s rfl rfl fun A11 s => ?_
   refine au 1 rfl ?_
   refine zs1 s rfl rfl rfl rfl TF.sz_3 fun h13 s => ?_
   refine au 5 rfl ?_
   exact zr (s.imp fun _ q => ⟨_, rfl, q⟩)
  ·refine au 7 rfl ?_
   refine znil s rfl rfl fun A14 s => ?_
   refine au 1 rfl ?_
   refine zl s rfl rfl TF.agg_3 fun i16 s => ?_
   refine zt s rfl rfl rfl binI_geq_t binI_geq_f (fun s => ?_) fun s => ?_
   ·refine au 6 rfl ?_
    exact zr (s.imp fun _ q => ⟨_, rfl, q⟩)
   ·refine au 3 rfl ?_
    refine Run.seqJ (fun e h18 => Agree [(0, (.pointer p1)), (1, (.pointer p2))] e ∧ S_world_World_Write_J1 B p1 p2 h18 Q) ?_ fun j17 => ?_
    ·rintro e h18 ⟨hag, s⟩
     refine Run.env hag ?_; clear hag
     refine au 1 rfl ?_
     obtain ⟨A20, e21, s⟩ := s
     obtain ⟨p24, hl, s⟩ := s
     have f25 := hl
     obtain ⟨A27, e28, s⟩ := s
     obtain ⟨i31, hl, s⟩ := s
     have f32 := hl
     refine Run.drawM (fun h' => cellH B h' (Addr.add A20 4) = some (.pointer p24) ∧ cellH B h' (Addr.add A27 10) = some (.int .i64 (i31)) ∧ True) [] ⟨[0, 1, 2, 4, 0, 16, 32, 64, 128, 0, 768, 1032, 4095], [8191, 8190, 8189, 8187, 8191, 8175, 8159, 8127, 8063, 8191, 7423, 7159, 6143], [0, 0, 0, 0, 0, 0, 0, 0, 0, 0, 0, 0, 0], 0⟩ (.q 0 (.q 1 (.q 2 (.q 3 (.q 4 (.q 5 (.q 6 (.q 7 (.q 8 (.q 9 (.x 10 (.x 11 (.q 12 .nil) .no) .no))))))))))) TF.mixed (by kernel_rfl) ⟨f25, f32, trivial⟩ ?_
     refine auT 1 rfl ?_
     refine zq rfl (fun _ hC => sem_nilCheck A20 (congrArg Value.pointer e21) ⟨rfl, rfl⟩) ?_
     refine auT 1 rfl ?_
     refine zq rfl (fun _ hC => sem_load1 (Addr.add A20 4) ((.pointer p24)) rfl TF.agg_68 hC.1 ⟨rfl, rfl⟩) ?_
     refine auT 1 rfl ?_
     refine zq rfl (fun _ hC => sem_nilCheck A27 (congrArg Value.pointer e28) ⟨rfl, rfl⟩) ?_
     refine auT 1 rfl ?_
     refine zq rfl (fun _ hC => sem_load1 (Addr.add A27 10) ((.int .i64 (i31))) rfl TF.agg_3 hC.2.1 ⟨rfl, rfl⟩) ?_
     refine auT 2 rfl ?_
     refine ⟨zo rfl (sem_callL [(.int .i64 (IntKind.wrap .i64 ((i31) + (1)))), (.pointer p2)] (TF.goes_12) rfl rfl (Spec.mono s fun v h35 hv => ?_)), trivial⟩
     obtain ⟨s36, rfl, s⟩ := hv
     obtain ⟨g37, g38, s⟩ := s
     refine ⟨fun _ => ⟨g37, g38, trivial⟩, ?_⟩
     refine ⟨zo rfl (sem_callL [(.pointer p24), (.string s36)] (TF.goes_35) rfl rfl (Spec.mono s fun v h39 hv => ?_)), trivial⟩
     obtain ⟨i40, rfl, s⟩ := hv
     obtain ⟨g41, g42, s⟩ := s
     refine ⟨fun _ => ⟨g41, g42, trivial⟩, ?_⟩
     refine auT 1 rfl ?_
     exact zr (s.imp fun _ q => ⟨_, rfl, q⟩)
    refine au 3 rfl ?_
    refine znil s rfl rfl fun A43 s => ?_
    refine au 1 rfl ?_
    refine zl s rfl rfl TF.agg_68 fun p45 s => ?_
    refine zcall s rfl rfl TF.goes_34 ?_
    rintro _ h46 ⟨i47, rfl, s⟩
    refine zt s rfl rfl rfl binI_gtr_t binI_gtr_f (fun s => ?_) fun s => ?_
    ·refine au 3 rfl ?_
     obtain ⟨A49, e50, s⟩ := s
     obtain ⟨p53, hl, s⟩ := s
     have f54 := hl
     obtain ⟨A56, e57, s⟩ := s
     obtain ⟨i60, hl, s⟩ := s
     have f61 := hl
     obtain ⟨A63, e64, s⟩ := s
     obtain ⟨p67, hl, s⟩ := s
     have f68 := hl
     obtain ⟨A69, e70, s⟩ := s
     obtain ⟨p73, hl, s⟩ := s
     have f74 := hl
     refine Run.drawM (fun h' => cellH B h' (Addr.add A49 4) = some (.pointer p53) ∧ cellH B h' (Addr.add A56 10) = some (.int .i64 (i60)) ∧ cellH B h' A63 = some (.pointer p67) ∧ cellH B h' (Addr.add A69 1) = some (.pointer p73) ∧ True) [] ⟨[0, 1, 2, 4, 0, 16, 32, 64, 0, 256, 512, 1024, 2048, 4096, 8192, 16512, 32776, 131071], [262143, 262142, 262141, 262139, 262143, 262127, 262111, 262079, 262143, 261887, 261631, 261119, 260095, 258047, 253951, 245631, 229367, 196607], [0, 0, 0, 0, 0, 0, 0, 0, 0, 0, 0, 0, 0, 0, 0, 0, 0, 0], 0⟩ (.q 0 (.q 1 (.q 2 (.q 3 (.q 4 (.q 5 (.q 6 (.q 7 (.q 8 (.q 9 (.q 10 (.q 11 (.q 12 (.q 13 (.q 14 (.x 15 (.x 16 (.q 17 .nil) .no) .no)))))))))))))))) TF.mixed (by kernel_rfl) ⟨f54, f61, f68, f74, trivial⟩ ?_
     refine auT 1 rfl ?_
     refine zq rfl (fun _ hC => sem_nilCheck A49 (congrArg Value.pointer e50) ⟨rfl, rfl⟩) ?_
     refine auT 1 rfl ?_
     refine zq rfl (fun _ hC => sem_load1 (Addr.add A49 4) ((.pointer p53)) rfl TF.agg_68 hC.1 ⟨rfl, rfl⟩) ?_
     refine auT 1 rfl ?_
     refine zq rfl (fun _ hC => sem_nilCheck A56 (congrArg Value.pointer e57) ⟨rfl, rfl⟩) ?_
     refine auT 1 rfl ?_
     refine zq rfl (fun _ hC => sem_load1 (Addr.add A56 10) ((.int .i64 (i60))) rfl TF.agg_3 hC.2.1 ⟨rfl, rfl⟩) ?_
     refine auT 1 rfl ?_
     refine zq rfl (fun _ hC => sem_nilCheck A63 (congrArg Value.pointer e64) ⟨rfl, rfl⟩) ?_
     refine auT 1 rfl ?_
     refine zq rfl (fun _ hC => sem_load1 A63 ((.pointer p67)) rfl TF.agg_48 hC.2.2.1 ⟨rfl, rfl⟩) ?_
     refine zq rfl (fun _ hC => sem_nilCheck A69 (congrArg Value.pointer e70) ⟨rfl, rfl⟩) ?_
     refine auT 1 rfl ?_
     refine zq rfl (fun _ hC => sem_load1 (Addr.add A69 1) ((.pointer p73)) rfl TF.agg_44 hC.2.2.2.1 ⟨rfl, rfl⟩) ?_
     refine ⟨zo rfl (sem_callL [(.int .i64 (i60)), (.pointer p73)] (TF.goes_27) rfl rfl (Spec.mono s fun v h75 hv => ?_)), trivial⟩
     obtain ⟨s76, rfl, s⟩ := hv
     obtain ⟨g77, g78, g79, g80, s⟩ := s
     refine ⟨fun _ => ⟨g77, g78, g79, g80, trivial⟩, ?_⟩
     refine ⟨zo rfl (sem_callL [(.pointer p53), (.string s76)] (TF.goes_26) rfl rfl (Spec.mono s fun v h81 hv => ?_)), trivial⟩
     obtain ⟨i82, rfl, s⟩ := hv
     obtain ⟨g83, g84, g85, g86, s⟩ := s
     refine ⟨fun _ => ⟨g83, g84, g85, g86, trivial⟩, ?_⟩
     refine auT 1 rfl ?_
     refine au 3 rfl ?_
     refine zu s rfl rfl rfl binI_neq_t binI_neq_f (fun s => ?_) fun s => ?_
     ·refine au 3 rfl ?_
      exact Run.of_fin (s.imp fun h' s => j17 _ _ ⟨⟨rfl, rfl, trivial⟩, s⟩)
     ·refine au 7 rfl ?_
      exact zr (s.imp fun _ q => ⟨_, rfl, q⟩)
    ·refine au 3 rfl ?_
     exact Run.of_fin (s.imp fun h' s => j17 _ _ ⟨⟨rfl, rfl, trivial⟩, s⟩)
theorem C_world_World_Force.of {B : RO} {p1 : Option Addr} {h : Heap} {Q : Heap → Prop} (s : S_world_World_Force B p1 h Q) : C_world_World_Force B p1 h Q := by
 refine zspec Tryz.func10 [] rfl rfl rfl rfl rfl ?_
 refine au 3 rfl ?_
 by_cases hb2 : p1 = none
 ·replace s := s.1 hb2
  refine zg rfl (sem_ptrNilT p1 (.inr rfl) false rfl rfl TF.ptr_27 hb2 rfl ?_)
  refine au 3 rfl ?_
  exact zf (s.imp fun _ q => ⟨rfl, q⟩)
 ·replace s := s.2 hb2
  refine zg rfl (sem_ptrNilF p1 (.inr rfl) true rfl rfl TF.ptr_27 hb2 rfl ?_)
  refine au 4 rfl ?_
  refine znil s rfl rfl fun A3 s => ?_
  refine au 1 rfl ?_
  refine zl s rfl rfl TF.agg_68 fun p5 s => ?_
  refine zcall s rfl rfl TF.goes_36 ?_
  rintro _ h6 ⟨rfl, s⟩
  refine au 1 rfl ?_
  exact zf (s.imp fun _ q => ⟨rfl, q⟩)
theorem C_redo_Read.of {B : RO} {s1 : ByteArray} {h : Heap} {Q : Int → Option Addr → Nat → Nat → Bool → Heap → Prop} (s : S_redo_Read B s1 h Q) : C_redo_Read B s1 h Q := by
 refine zspec Tryz.func11 [ResultVar.tmp 2, ResultVar.tmp 3, ResultVar.tmp 4] rfl rfl rfl rfl rfl ?_
 refine au 9 rfl ?_
 refine zcall s rfl rfl TF.goes_37 ?_
 rintro _ h7 ⟨p8, rfl, s⟩
 refine au 5 rfl ?_
 refine zcall s rfl rfl TF.goes_38 ?_
 rintro _ h9 ⟨i10, rfl, s⟩
 refine au 6 rfl ?_
 refine Run.seqJ (fun e h15 => ∃ a12 : Option Addr, ∃ n13 : Nat, ∃ c14 : Nat, Agree [(5, (.pointer p8)), (6, (.int .i64 (i10))), (7, (.slice a12 n13 c14))] e ∧ S_redo_Read_J1 B p8 i10 a12 n13 c14 h15 Q) ?_ fun j11 => ?_
 ·rintro e h15 ⟨a12, n13, c14, hag, s⟩
  refine Run.env hag ?_; clear hag
  refine au 4 rfl ?_
  refine zcall s rfl rfl TF.goes_41 ?_
  rintro _ h16 ⟨b17, rfl, s⟩
  cases b17
  ·replace s := s.2 rfl
   refine au 11 rfl ?_
   exact zr (s.imp fun _ q => ⟨_, _, _, _, _, rfl, q⟩)
  ·replace s := s.1 rfl
   refine au 8 rfl ?_
   exact zr (s.imp fun _ q => ⟨_, _, _, _, _, rfl, q⟩)
 refine au 5 rfl ?_
 obtain ⟨J26, m24, h0, s⟩ := s
 refine Run.of_fin (h0.imp fun h' h0 => ?_)
 refine Run.loop (σ := (Option Addr) × Nat × Nat × Int × Nat) (fun x e h => J26 x.1 x.2.1 x.2.2.1 x.2.2.2.1 x.2.2.2.2 h ∧ Agree [(5, (.pointer p8)), (6, (.int .i64 (i10))), (7, (.slice x.1 x.2.1 x.2.2.1)), (8, (.int .i64 (x.2.2.2.1)))] e) (fun x => x.2.2.2.2) (none, 0, 0, ((-1)), m24) ⟨h0, ⟨rfl, rfl, rfl, rfl, trivial⟩⟩ ?_; clear h0
 rintro ⟨a18, n19, c20, i21, m23⟩ e h22 ⟨hJ, hag⟩ ih25
 have s := s a18 n19 c20 i21 m23 h22 hJ; clear hJ
 refine Run.env hag ?_; clear hag
 refine au 4 rfl ?_
 refine zcall s rfl rfl TF.goes_39 ?_
 rintro _ h27 ⟨i28, rfl, s⟩
 refine zt s rfl rfl rfl binI_gtr_t binI_gtr_f (fun s => ?_) fun s => ?_
 ·refine au 7 rfl ?_
  refine zcall s rfl rfl TF.goes_38 ?_
  rintro _ h29 ⟨i30, rfl, s⟩
  refine zg rfl (sem_buildSL [(0, (.int .i64 (i30)))] [(.int .i64 (i30)), (.bool false), (.string ByteArray.empty)] TF.zero_92 TF.places_92 rfl rfl ?_)
  refine zal s rfl TF.zero_92 rfl fun k31 h32 s => ?_
  refine zsn s rfl rfl rfl TF.sz_92 rfl fun h33 s => ?_
  refine au 1 rfl ?_
  refine Run.seqJ (fun e h35 => Agree [(5, (.pointer p8)), (6, (.int .i64 (i10))), (7, (.slice a18 n19 c20)), (8, (.int .i64 (i21))), (9, (.pointer (some ⟨k31, 0, none⟩)))] e ∧ S_redo_Read_J2 B p8 i10 a18 n19 c20 i21 m23 J26 k31 h35 Q) ?_ fun j34 => ?_
  ·rintro e h35 ⟨hag, s⟩
   refine Run.env hag ?_; clear hag
   refine Run.seqJ (fun e h37 => Agree [(5, (.pointer p8)), (6, (.int .i64 (i10))), (7, (.slice a18 n19 c20)), (9, (.pointer (some ⟨k31, 0, none⟩)))] e ∧ S_redo_Read_J3 B p8 i10 a18 n19 c20 m23 J26 k31 h37 Q) ?_ fun j36 => ?_
   ·rintro e h37 ⟨hag, s⟩
    refine Run.env hag ?_; clear hag
    refine au 3 rfl ?_
    refine zl s rfl rfl TF.agg_3 fun i38 s => ?_
    refine au 4 rfl ?_
    obtain ⟨i39, b40, s41, hl, s⟩ := s
    refine zn hl rfl rfl TF.agg_92 TF.sz_92 rfl ?_
    refine zg rfl (sem_buildSliceL [(0, (.agg #[(.int .i64 (i39)), (.bool b40), (.string s41)]))] [(.int .i64 (i39)), (.bool b40), (.string s41)] TF.slc_23 TF.zero_92 rfl (by decide) (by decide) rfl rfl (fun k42 hb1 hb2 h43 hb3 => ?_))
    have s := s k42 hb1 hb2 h43 hb3
    refine zg rfl (sem_appendL [(.slice a18 n19 c20), (.slice (some ⟨k42, 0, none⟩) 1 1)] rfl (semH_mono (fun v h44 hv => ?_) s))
    obtain ⟨a45, n46, c47, rfl, s⟩ := hv
    refine au 3 rfl ?_
    exact Run.of_fin (s.imp fun h' ⟨m', hm, s⟩ => ih25 (a45, n46, c47, (i38), m') _ _ ⟨s, ⟨rfl, rfl, rfl, rfl, trivial⟩⟩ hm)
   refine au 3 rfl ?_
   refine zcall s rfl rfl TF.goes_41 ?_
   rintro _ h48 ⟨b49, rfl, s⟩
   cases b49
   ·replace s := s.2 rfl
    refine au 2 rfl ?_
    refine zl s rfl rfl TF.agg_3 fun i50 s => ?_
    refine au 1 rfl ?_
    refine zt s rfl rfl rfl binI_leq_t binI_leq_f (fun s => ?_) fun s => ?_
    ·refine au 9 rfl ?_
     exact zr (s.imp fun _ q => ⟨_, _, _, _, _, rfl, q⟩)
    ·refine au 4 rfl ?_
     exact Run.of_fin (s.imp fun h' s => j36 _ _ ⟨⟨rfl, rfl, rfl, rfl, trivial⟩, s⟩)
   ·replace s := s.1 rfl
    refine au 14 rfl ?_
    exact zr (s.imp fun _ q => ⟨_, _, _, _, _, rfl, q⟩)
  refine au 3 rfl ?_
  refine zcall s rfl rfl TF.goes_38 ?_
  rintro _ h51 ⟨i52, rfl, s⟩
  refine zt s rfl rfl rfl binI_eql_t binI_eql_f (fun s => ?_) fun s => ?_
  ·refine au 4 rfl ?_
   refine zcall s rfl rfl TF.goes_40 ?_
   rintro _ h53 ⟨s54, rfl, s⟩
   refine zg rfl (sem_buildSL [(0, (.bool true)), (1, (.string s54))] [(.bool true), (.string s54)] TF.zero_90 TF.places_90 rfl rfl ?_)
   refine au 1 rfl ?_
   refine zsn s rfl rfl rfl TF.sz_90 rfl fun h55 s => ?_
   refine au 1 rfl ?_
   exact Run.of_fin (s.imp fun h' s => j34 _ _ ⟨⟨rfl, rfl, rfl, rfl, rfl, trivial⟩, s⟩)
  ·refine au 3 rfl ?_
   exact Run.of_fin (s.imp fun h' s => j34 _ _ ⟨⟨rfl, rfl, rfl, rfl, rfl, trivial⟩, s⟩)
 ·refine au 3 rfl ?_
  exact Run.of_fin (s.imp fun h' s => j11 _ _ ⟨a18, n19, c20, ⟨rfl, rfl, rfl, trivial⟩, s⟩)
theorem C_redo_Bytes.of {B : RO} {i1 : Int} {p2 : Option Addr} {h : Heap} {Q : ByteArray → Heap → Prop} (s : S_redo_Bytes B i1 p2 h Q) : C_redo_Bytes B i1 p2 h Q := by
 refine zspec Tryz.func12 [ResultVar.tmp 4] rfl rfl rfl rfl rfl ?_
 refine au 6 rfl ?_
 refine zg rfl (sem_buildSL [] [(.slice none 0 0)] TF.zero_106 TF.places_106 rfl rfl ?_)
 refine zbn s rfl rfl rfl fun k4 h5 s => ?_
 refine zal s rfl TF.zero_103 rfl fun k6 h7 s => ?_
 refine zs1 s rfl rfl rfl rfl TF.sz_103 fun h8 s => ?_
 refine au 3 rfl ?_
 refine zl s rfl rfl TF.agg_103 fun p9 s => ?_
 refine au 1 rfl ?_
 refine zg rfl (sem_buildSliceL [(0, (.int .i64 (i1)))] [(.int .i64 (i1))] TF.slc_147 TF.zero_3 rfl (by decide) (by decide) rfl rfl (fun k10 hb1 hb2 h11 hb3 => ?_))
 have s := s k10 hb1 hb2 h11 hb3
 refine zcall s rfl rfl TF.goes_42 ?_
 rintro _ h12 ⟨rfl, s⟩
 refine au 5 rfl ?_
 refine zcall s rfl rfl TF.goes_33 ?_
 rintro v14 h13 ⟨_, rfl, s⟩
 refine au 2 rfl ?_
 obtain ⟨xs22, G18, J21, hit, hins, hG, h0, s, hR⟩ := s
 refine Run.of_fin (h0.imp fun h' h0 => ?_)
 refine Run.range (v14) (xs22.map (fun x : Int × Bool × ByteArray => [(.int .i64 (x.1)), (.agg #[(.bool x.2.1), (.string x.2.2)])])) G18 J21 rfl hit hins hG h0 rfl (fun a ha => by obtain ⟨x, _, rfl⟩ := List.mem_map.1 ha; rfl) ?_ ?_
 ·rintro q20 args h19 ha hJ
  obtain ⟨⟨i15, b16, s17⟩, hx, rfl⟩ := Option.map_eq_some_iff.1 ((List.getElem?_map ..).symm.trans ha)
  have s := s q20 h19 i15 b16 s17 hx hJ; clear hJ hx ha
  refine zput rfl ?_
  refine au 5 rfl ?_
  refine zal s rfl TF.zero_90 rfl fun k23 h24 s => ?_
  refine zsn s rfl rfl rfl TF.sz_90 rfl fun h25 s => ?_
  refine au 1 rfl ?_
  refine Run.begin ⟨rfl, ?_⟩
  refine au 4 rfl ?_
  refine zl s rfl rfl TF.agg_4 fun b26 s => ?_
  cases b26
  ·replace s := s.2 rfl
   refine au 3 rfl ?_
   refine zl s rfl rfl TF.agg_103 fun p27 s => ?_
   refine au 1 rfl ?_
   refine zg rfl (sem_buildSliceL [(0, (.int .i64 (i15))), (1, (.int .i64 (0)))] [(.int .i64 (i15)), (.int .i64 (0))] TF.slc_147 TF.zero_3 rfl (by decide) (by decide) rfl rfl (fun k28 hb1 hb2 h29 hb3 => ?_))
   have s := s k28 hb1 hb2 h29 hb3
   refine zcall s rfl rfl TF.goes_42 ?_
   rintro _ h30 ⟨rfl, s⟩
   refine au 2 rfl ?_
   refine Run.of_fin (s.imp fun h' s => ?_)
   exact Run.fall (.inl ⟨rfl, s⟩)
  ·replace s := s.1 rfl
   refine au 4 rfl ?_
   refine zl s rfl rfl TF.agg_103 fun p31 s => ?_
   refine au 1 rfl ?_
   refine zg rfl (sem_buildSliceL [(0, (.int .i64 (i15))), (1, (.int .i64 (1)))] [(.int .i64 (i15)), (.int .i64 (1))] TF.slc_147 TF.zero_3 rfl (by decide) (by decide) rfl rfl (fun k32 hb1 hb2 h33 hb3 => ?_))
   have s := s k32 hb1 hb2 h33 hb3
   refine zcall s rfl rfl TF.goes_42 ?_
   rintro _ h34 ⟨rfl, s⟩
   refine au 2 rfl ?_
   refine zl s rfl rfl TF.agg_103 fun p35 s => ?_
   refine au 1 rfl ?_
   refine zl s rfl rfl TF.agg_9 fun s36 s => ?_
   refine zg rfl (sem_buildSliceL [(0, (.string s36))] [(.string s36)] TF.slc_69 TF.zero_9 rfl (by decide) (by decide) rfl rfl (fun k37 hb1 hb2 h38 hb3 => ?_))
   have s := s k37 hb1 hb2 h38 hb3
   refine zcall s rfl rfl TF.goes_43 ?_
   rintro _ h39 ⟨rfl, s⟩
   refine au 2 rfl ?_
   refine Run.of_fin (s.imp fun h' s => ?_)
   exact Run.fall (.inl ⟨rfl, s⟩)
 ·intro h19 hJ
  have s := hR h19 (by simpa using hJ); clear hJ hR
  refine au 3 rfl ?_
  refine zl s rfl rfl TF.agg_103 fun p40 s => ?_
  refine zcall s rfl rfl TF.goes_44 ?_
  rintro _ h41 ⟨s42, rfl, s⟩
  refine au 2 rfl ?_
  exact zr (s.imp fun _ q => ⟨_, rfl, q⟩)
theorem C_redo_Apply.of {B : RO} {p1 : Option Addr} {a2 : Option Addr} {n3 : Nat} {c4 : Nat} {i5 : Int} {h : Heap} {Q : Heap → Prop} (s : S_redo_Apply B p1 a2 n3 c4 i5 h Q) : C_redo_Apply B p1 a2 n3 c4 i5 h Q := by
 refine zspec Tryz.func13 [] rfl rfl rfl rfl rfl ?_
 refine au 3 rfl ?_
 refine zg rfl (sem_lenSl a2 n3 c4 rfl TF.sl_23 ?_)
 refine au 3 rfl ?_
 obtain ⟨J11, m9, h0, s⟩ := s
 refine Run.of_fin (h0.imp fun h' h0 => ?_)
 refine Run.loop (σ := Int × Nat) (fun x e h => J11 x.1 x.2 h ∧ Agree [(0, (.pointer p1)), (2, (.int .i64 (i5))), (8, (.slice a2 n3 c4)), (9, (.int .i64 ((n3 : Nat)))), (10, (.int .i64 (x.1)))] e) (fun x => x.2) ((0), m9) ⟨h0, ⟨rfl, rfl, rfl, rfl, rfl, trivial⟩⟩ ?_; clear h0
 rintro ⟨i6, m8⟩ e h7 ⟨hJ, hag⟩ ih10
 have s := s i6 m8 h7 hJ; clear hJ
 refine Run.env hag ?_; clear hag
 refine au 2 rfl ?_
 refine zt s rfl rfl rfl binI_lss_t binI_lss_f (fun s => ?_) fun s => ?_
 ·refine au 8 rfl ?_
  obtain ⟨A12, e13, hi0, hi1, s⟩ := s
  refine zg rfl (sem_indexAddrS A12 n3 c4 .i64 (i6) (congrArg (fun a => Value.slice a n3 c4) e13) rfl TF.slc_23 hi0 hi1 ?_)
  obtain ⟨i14, b15, s16, hl, s⟩ := s
  refine zn hl rfl rfl TF.agg_92 TF.sz_92 rfl ?_
  refine zal s rfl TF.zero_92 rfl fun k17 h18 s => ?_
  refine zsn s rfl rfl rfl TF.sz_92 rfl fun h19 s => ?_
  refine au 4 rfl ?_
  refine zl s rfl rfl TF.agg_3 fun i20 s => ?_
  refine au 1 rfl ?_
  obtain ⟨b21, s22, hl, s⟩ := s
  refine zn hl rfl rfl TF.agg_90 TF.sz_90 rfl ?_
  refine au 1 rfl ?_
  refine zcall s rfl rfl TF.goes_45 ?_
  rintro _ h23 ⟨b24, rfl, s⟩
  refine au 6 rfl ?_
  exact Run.of_fin (s.imp fun h' ⟨m', hm, s⟩ => ih10 ((IntKind.wrap .i64 ((i6) + (1))), m') _ _ ⟨s, ⟨rfl, rfl, rfl, rfl, rfl, trivial⟩⟩ hm)
 ·refine au 4 rfl ?_
  exact zf (s.imp fun _ q => ⟨rfl, q⟩)
theorem C_world_World_View.of {B : RO} {p1 : Option Addr} {h : Heap} {Q : Option Addr → Heap → Prop} (s : S_world_World_View B p1 h Q) : C_world_World_View B p1 h Q := by
 refine zspec Tryz.func14 [ResultVar.tmp 2] rfl rfl rfl rfl rfl ?_
 refine au 8 rfl ?_
 by_cases hb3 : p1 = none
 ·replace s := s.1 hb3
  refine zg rfl (sem_ptrNilT p1 (.inl rfl) true rfl rfl TF.ptr_27 hb3 rfl ?_)
  refine au 6 rfl ?_
  exact zr (s.imp fun _ q => ⟨_, rfl, q⟩)
 ·replace s := s.2 hb3
  refine zg rfl (sem_ptrNilF p1 (.inl rfl) false rfl rfl TF.ptr_27 hb3 rfl ?_)
  refine au 6 rfl ?_
  refine znil s rfl rfl fun A4 s => ?_
  refine au 1 rfl ?_
  refine zl s rfl rfl TF.agg_48 fun p6 s => ?_
  refine au 2 rfl ?_
  exact zr (s.imp fun _ q => ⟨_, rfl, q⟩)
theorem C_world_World_Done.of {B : RO} {p1 : Option Addr} {h : Heap} {Q : Heap → Prop} (s : S_world_World_Done B p1 h Q) : C_world_World_Done B p1 h Q := by
 refine zspec Tryz.func15 [] rfl rfl rfl rfl rfl ?_
 refine au 3 rfl ?_
 by_cases hb2 : p1 = none
 ·replace s := s.1 hb2
  refine zg rfl (sem_ptrNilT p1 (.inr rfl) false rfl rfl TF.ptr_27 hb2 rfl ?_)
  refine au 3 rfl ?_
  exact zf (s.imp fun _ q => ⟨rfl, q⟩)
 ·replace s := s.2 hb2
  refine zg rfl (sem_ptrNilF p1 (.inr rfl) true rfl rfl TF.ptr_27 hb2 rfl ?_)
  refine au 4 rfl ?_
  refine znil s rfl rfl fun A3 s => ?_
  refine au 1 rfl ?_
  refine zl s rfl rfl TF.agg_3 fun i5 s => ?_
  refine au 1 rfl ?_
  refine znil s rfl rfl fun A6 s => ?_
  refine au 1 rfl ?_
  refine zs1 s rfl rfl rfl rfl TF.sz_3 fun h8 s => ?_
  refine au 1 rfl ?_
  exact zf (s.imp fun _ q => ⟨rfl, q⟩)
theorem C_countermandref18_Apply.of {B : RO} {l1 : List Value} {a2 : Option Addr} {n3 : Nat} {c4 : Nat} {h : Heap} {Q : List Value → Heap → Prop} (s : S_countermandref18_Apply B l1 a2 n3 c4 h Q) : C_countermandref18_Apply B l1 a2 n3 c4 h Q := by
 refine zspec Tryz.func16 [ResultVar.cell 4 33] rfl rfl rfl rfl rfl ?_
 refine au 2 rfl ?_
 refine zg rfl (sem_boxNN l1 rfl (fun k6 hb1 hb2 h7 hb3 => ?_))
 have s := s k6 hb1 hb2 h7 hb3
 refine zal s rfl TF.zero_33 rfl fun k8 h9 s => ?_
 refine au 5 rfl ?_
 refine zg rfl (sem_lenSl a2 n3 c4 rfl TF.sl_35 ?_)
 refine au 3 rfl ?_
 obtain ⟨J15, m13, h0, s⟩ := s
 refine Run.of_fin (h0.imp fun h' h0 => ?_)
 refine Run.loop (σ := Int × Nat) (fun x e h => J15 x.1 x.2 h ∧ Agree [(2, (.pointer (some ⟨k6, 0, none⟩))), (4, (.pointer (some ⟨k8, 0, none⟩))), (7, (.slice a2 n3 c4)), (8, (.int .i64 ((n3 : Nat)))), (9, (.int .i64 (x.1)))] e) (fun x => x.2) ((0), m13) ⟨h0, ⟨rfl, rfl, rfl, rfl, rfl, trivial⟩⟩ ?_; clear h0
 rintro ⟨i10, m12⟩ e h11 ⟨hJ, hag⟩ ih14
 have s := s i10 m12 h11 hJ; clear hJ
 refine Run.env hag ?_; clear hag
 refine au 2 rfl ?_
 refine zt s rfl rfl rfl binI_lss_t binI_lss_f (fun s => ?_) fun s => ?_
 ·refine au 8 rfl ?_
  obtain ⟨A16, e17, hi0, hi1, s⟩ := s
  refine zg rfl (sem_indexAddrS A16 n3 c4 .i64 (i10) (congrArg (fun a => Value.slice a n3 c4) e17) rfl TF.slc_35 hi0 hi1 ?_)
  obtain ⟨i18, b19, s20, hl, s⟩ := s
  refine zn hl rfl rfl TF.agg_99 TF.sz_99 rfl ?_
  refine zal s rfl TF.zero_99 rfl fun k21 h22 s => ?_
  refine zsn s rfl rfl rfl TF.sz_99 rfl fun h23 s => ?_
  refine au 3 rfl ?_
  refine zl s rfl rfl TF.agg_3 fun i24 s => ?_
  refine au 1 rfl ?_
  obtain ⟨b25, s26, hl, s⟩ := s
  refine zn hl rfl rfl TF.agg_32 TF.sz_32 rfl ?_
  obtain ⟨hi0, hi1, s⟩ := s
  refine zg rfl (sem_indexAddrA ⟨k6, 0, none⟩ .i64 (i24) rfl rfl TF.arr_33 hi0 hi1 ?_)
  refine zsn s rfl rfl rfl TF.sz_32 rfl fun h27 s => ?_
  refine au 6 rfl ?_
  exact Run.of_fin (s.imp fun h' ⟨m', hm, s⟩ => ih14 ((IntKind.wrap .i64 ((i10) + (1))), m') _ _ ⟨s, ⟨rfl, rfl, rfl, rfl, rfl, trivial⟩⟩ hm)
 ·refine au 6 rfl ?_
  obtain ⟨l28, nl28, hl, s⟩ := s
  refine zg rfl (sem_loadN ⟨k6, 0, none⟩ l28 rfl TF.agg_33 (TF.sz_33.trans (congrArg some nl28.symm)) hl ?_)
  obtain ⟨hln, h29, hst, s⟩ := s
  refine zg0 rfl (sem_storeN ⟨k8, 0, none⟩ l28 h29 rfl rfl (TF.sz_33.trans (congrArg some hln.symm)) hst ?_)
  refine au 1 rfl ?_
  obtain ⟨l30, hln0, hl0, s⟩ := s
  exact zr (⟨⟨k8, 0, none⟩, (.agg (List.toArray l30)), rfl, loadHN TF.agg_33 (TF.sz_33.trans (congrArg some hln0.symm)) hl0, s.imp fun _ q => ⟨_, rfl, q⟩⟩)
theorem C_disk_Disk_Crash.of {B : RO} {p1 : Option Addr} {i2 : Int} {i3 : Int} {h : Heap} {Q : Heap → Prop} (s : S_disk_Disk_Crash B p1 i2 i3 h Q) : C_disk_Disk_Crash B p1 i2 i3 h Q := by
 refine zspec Tryz.func17 [] rfl rfl rfl rfl rfl ?_
 refine au 4 rfl ?_
 by_cases hb4 : p1 = none
 ·replace s := s.1 hb4
  refine zg rfl (sem_ptrNilT p1 (.inl rfl) true rfl rfl TF.ptr_25 hb4 rfl ?_)
  refine au 2 rfl ?_
  exact zr (s.imp fun _ q => ⟨rfl, q⟩)
 ·replace s := s.2 hb4
  refine zg rfl (sem_ptrNilF p1 (.inl rfl) false rfl rfl TF.ptr_25 hb4 rfl ?_)
  refine au 3 rfl ?_
  refine Run.seqJ (fun e h6 => Agree [(0, (.pointer p1))] e ∧ S_disk_Disk_Crash_J1 B p1 h6 Q) ?_ fun j5 => ?_
  ·rintro e h6 ⟨hag, s⟩
   refine Run.env hag ?_; clear hag
   refine au 3 rfl ?_
   refine znil s rfl rfl fun A7 s => ?_
   refine au 1 rfl ?_
   refine zs1 s rfl rfl rfl rfl TF.sz_65 fun h9 s => ?_
   refine au 6 rfl ?_
   obtain ⟨J15, m13, h0, s⟩ := s
   refine Run.of_fin (h0.imp fun h' h0 => ?_)
   refine Run.loop (σ := Int × Nat) (fun x e h => J15 x.1 x.2 h ∧ Agree [(0, (.pointer p1)), (47, (.int .i64 (x.1)))] e) (fun x => x.2) ((0), m13) ⟨h0, ⟨rfl, rfl, trivial⟩⟩ ?_; clear h0
   rintro ⟨i10, m12⟩ e h11 ⟨hJ, hag⟩ ih14
   have s := s i10 m12 h11 hJ; clear hJ
   refine Run.env hag ?_; clear hag
   refine au 2 rfl ?_
   refine zt s rfl rfl rfl binI_lss_t binI_lss_f (fun s => ?_) fun s => ?_
   ·refine au 11 rfl ?_
    refine Run.drawM (fun h' => h' = h11) [13] ⟨[0, 0, 0, 0, 4, 16, 40, 64, 128, 1, 512, 1535, 2559, 4607], [16383, 16383, 16383, 16383, 16379, 16367, 16343, 16319, 16255, 16382, 15871, 15357, 14335, 12031], [0, 0, 0, 0, 4, 20, 60, 124, 252, 1, 513, 2047, 4095, 8191], 8192⟩ (.q 0 (.q 1 (.q 2 (.q 3 (.q 4 (.q 5 (.q 6 (.q 7 (.q 8 (.q 9 (.q 10 (.q 11 (.q 12 (.x 13 .nil .no)))))))))))))) TF.mixed (by kernel_rfl) rfl ?_
    refine auT 4 rfl ?_
    obtain ⟨A16, e17, s⟩ := s
    refine zqe rfl (sem_nilCheck A16 (congrArg Value.pointer e17) ⟨rfl, rfl⟩) ?_
    refine auT 1 rfl ?_
    obtain ⟨hi0, hi1, s⟩ := s
    refine zqe rfl (sem_indexAddrA A16 .i64 (i10) rfl rfl TF.arr_64 hi0 hi1 ⟨rfl, rfl⟩) ?_
    refine auT 1 rfl ?_
    obtain ⟨s18, hl, s⟩ := s
    refine zqe rfl (sem_load1 (Addr.add (Addr.add A16 (Int.toNat (i10) * 2)) 1) ((.string s18)) rfl TF.agg_9 hl ⟨rfl, rfl⟩) ?_
    obtain ⟨A19, e20, s⟩ := s
    refine zqe rfl (sem_nilCheck A19 (congrArg Value.pointer e20) ⟨rfl, rfl⟩) ?_
    refine auT 1 rfl ?_
    obtain ⟨hi0, hi1, s⟩ := s
    refine zqe rfl (sem_indexAddrA A19 .i64 (i10) rfl rfl TF.arr_64 hi0 hi1 ⟨rfl, rfl⟩) ?_
    refine auT 1 rfl ?_
    obtain ⟨h21, hst, s⟩ := s
    refine ⟨zo0 rfl (sem_store1 (Addr.add A19 (Int.toNat (i10) * 2)) ((.string s18)) h21 rfl rfl rfl TF.sz_9 hst ?_), trivial⟩
    refine ⟨fun hz => Bool.noConfusion hz, ?_⟩
    refine au 5 rfl ?_
    exact Run.of_fin (s.imp fun h' ⟨m', hm, s⟩ => ih14 ((IntKind.wrap .i64 ((i10) + (1))), m') _ _ ⟨s, ⟨rfl, rfl, trivial⟩⟩ hm)
   ·refine au 4 rfl ?_
    exact zf (s.imp fun _ q => ⟨rfl, q⟩)
  refine au 3 rfl ?_
  refine znil s rfl rfl fun A22 s => ?_
  refine au 1 rfl ?_
  refine Run.ldSl s fun a24 n25 c26 h27 hl s => ?_
  refine zg rfl (sem_load1 (Addr.add A22 4) ((.slice a24 n25 c26)) rfl TF.agg_65 hl ?_)
  refine zg rfl (sem_lenSl a24 n25 c26 rfl TF.sl_65 ?_)
  refine au 3 rfl ?_
  obtain ⟨J33, m31, h0, s⟩ := s
  refine Run.of_fin (h0.imp fun h' h0 => ?_)
  refine Run.loop (σ := Int × Nat) (fun x e h => J33 x.1 x.2 h ∧ Agree [(0, (.pointer p1)), (1, (.int .i64 (i2))), (2, (.int .i64 (i3))), (14, (.slice a24 n25 c26)), (15, (.int .i64 ((n25 : Nat)))), (16, (.int .i64 (x.1)))] e) (fun x => x.2) ((0), m31) ⟨h0, ⟨rfl, rfl, rfl, rfl, rfl, rfl, trivial⟩⟩ ?_; clear h0
  rintro ⟨i28, m30⟩ e h29 ⟨hJ, hag⟩ ih32
  have s := s i28 m30 h29 hJ; clear hJ
  refine Run.env hag ?_; clear hag
  refine au 2 rfl ?_
  refine zt s rfl rfl rfl binI_lss_t binI_lss_f (fun s => ?_) fun s => ?_
  ·refine au 9 rfl ?_
   obtain ⟨A34, e35, hi0, hi1, s⟩ := s
   refine zg rfl (sem_indexAddrS A34 n25 c26 .i64 (i28) (congrArg (fun a => Value.slice a n25 c26) e35) rfl TF.slc_65 hi0 hi1 ?_)
   obtain ⟨i36, b37, s38, hl, s⟩ := s
   refine zn hl rfl rfl TF.agg_112 TF.sz_112 rfl ?_
   refine zal s rfl TF.zero_112 rfl fun k39 h40 s => ?_
   refine au 1 rfl ?_
   refine zsn s rfl rfl rfl TF.sz_112 rfl fun h41 s => ?_
   refine au 6 rfl ?_
   refine zt s rfl rfl rfl binI_geq_t binI_geq_f (fun s => ?_) fun s => ?_
   ·refine au 6 rfl ?_
    refine zl s rfl rfl TF.agg_4 fun b42 s => ?_
    cases b42
    ·replace s := s.2 rfl
     refine au 6 rfl ?_
     refine zl s rfl rfl TF.agg_9 fun s43 s => ?_
     refine au 1 rfl ?_
     refine zg rfl (sem_max .i64 (i3) (0) rfl rfl ?_)
     refine au 1 rfl ?_
     refine zl s rfl rfl TF.agg_9 fun s44 s => ?_
     refine zg rfl (sem_lenStr s44 rfl TF.isStr_9 ?_)
     refine zg rfl (sem_min .i64 (if (0 : Int) > (i3) then (0 : Int) else (i3)) ((ByteArray.size s44 : Nat)) rfl rfl ?_)
     obtain ⟨hi0, hi1, hi2, s⟩ := s
     refine zg rfl (sem_sliceStrI s43 (0) (if ((ByteArray.size s44 : Nat) : Int) < (if (0 : Int) > (i3) then (0 : Int) else (i3)) then ((ByteArray.size s44 : Nat) : Int) else (if (0 : Int) > (i3) then (0 : Int) else (i3))) rfl TF.isStr_9 rfl ⟨_, rfl⟩ hi0 hi1 hi2 ?_)
     refine au 1 rfl ?_
     refine zs1 s rfl rfl rfl rfl TF.sz_9 fun h45 s => ?_
     refine au 3 rfl ?_
     obtain ⟨i46, b47, s48, hl, s⟩ := s
     refine zn hl rfl rfl TF.agg_112 TF.sz_112 rfl ?_
     refine zcall s rfl rfl TF.goes_46 ?_
     rintro _ h49 ⟨rfl, s⟩
     refine au 2 rfl ?_
     exact Run.of_fin (s.imp fun h' s => j5 _ _ ⟨⟨rfl, trivial⟩, s⟩)
    ·replace s := s.1 rfl
     refine au 5 rfl ?_
     exact Run.of_fin (s.imp fun h' s => j5 _ _ ⟨⟨rfl, trivial⟩, s⟩)
   ·refine au 5 rfl ?_
    obtain ⟨i50, b51, s52, hl, s⟩ := s
    refine zn hl rfl rfl TF.agg_112 TF.sz_112 rfl ?_
    refine zcall s rfl rfl TF.goes_46 ?_
    rintro _ h53 ⟨rfl, s⟩
    refine au 6 rfl ?_
    exact Run.of_fin (s.imp fun h' ⟨m', hm, s⟩ => ih32 ((IntKind.wrap .i64 ((i28) + (1))), m') _ _ ⟨s, ⟨rfl, rfl, rfl, rfl, rfl, rfl, trivial⟩⟩ hm)
  ·refine au 4 rfl ?_
   exact Run.of_fin (s.imp fun h' s => j5 _ _ ⟨⟨rfl, trivial⟩, s⟩)
theorem C_world_World_Blocks.of {B : RO} {p1 : Option Addr} {h : Heap} {Q : Int → Heap → Prop} (s : S_world_World_Blocks B p1 h Q) : C_world_World_Blocks B p1 h Q := by
 refine zspec Tryz.func18 [ResultVar.tmp 2] rfl rfl rfl rfl rfl ?_
 refine au 8 rfl ?_
 by_cases hb3 : p1 = none
 ·replace s := s.1 hb3
  refine zg rfl (sem_ptrNilT p1 (.inl rfl) true rfl rfl TF.ptr_27 hb3 rfl ?_)
  refine au 6 rfl ?_
  exact zr (s.imp fun _ q => ⟨_, rfl, q⟩)
 ·replace s := s.2 hb3
  refine zg rfl (sem_ptrNilF p1 (.inl rfl) false rfl rfl TF.ptr_27 hb3 rfl ?_)
  refine au 6 rfl ?_
  refine znil s rfl rfl fun A4 s => ?_
  refine au 1 rfl ?_
  refine zl s rfl rfl TF.agg_3 fun i6 s => ?_
  refine au 2 rfl ?_
  exact zr (s.imp fun _ q => ⟨_, rfl, q⟩)
theorem C_countermandlaw21_are.of {B : RO} {p1 : Option Addr} {l2 : List Value} {h : Heap} {Q : Bool → Heap → Prop} (s : S_countermandlaw21_are B p1 l2 h Q) : C_countermandlaw21_are B p1 l2 h Q := by
 refine zspec Tryz.func19 [ResultVar.tmp 4] rfl rfl rfl rfl rfl ?_
 refine au 2 rfl ?_
 refine zg rfl (sem_boxNN l2 rfl (fun k4 hb1 hb2 h5 hb3 => ?_))
 have s := s k4 hb1 hb2 h5 hb3
 refine au 5 rfl ?_
 obtain ⟨l6, nl6, hl, s⟩ := s
 refine zg rfl (sem_loadN ⟨k4, 0, none⟩ l6 rfl TF.agg_33 (TF.sz_33.trans (congrArg some nl6.symm)) hl ?_)
 refine au 3 rfl ?_
 obtain ⟨J12, m10, h0, s⟩ := s
 refine Run.of_fin (h0.imp fun h' h0 => ?_)
 refine Run.loop (σ := Int × Nat) (fun x e h => J12 x.1 x.2 h ∧ Agree [(0, (.pointer p1)), (9, (.agg (List.toArray l6))), (10, (.int .i64 (x.1)))] e) (fun x => x.2) ((0), m10) ⟨h0, ⟨rfl, rfl, rfl, trivial⟩⟩ ?_; clear h0
 rintro ⟨i7, m9⟩ e h8 ⟨hJ, hag⟩ ih11
 have s := s i7 m9 h8 hJ; clear hJ
 refine Run.env hag ?_; clear hag
 refine au 2 rfl ?_
 refine zt s rfl rfl rfl binI_lss_t binI_lss_f (fun s => ?_) fun s => ?_
 ·refine au 9 rfl ?_
  obtain ⟨hi0, hi1, b13, s14, hix, s⟩ := s
  refine zg rfl (sem_indexArr (List.toArray l6) (.agg #[(.bool b13), (.string s14)]) .i64 (i7) rfl rfl TF.arr_33 hi0 hi1 (congrArg (fun a => some (Value.agg a)) hix) ?_)
  refine zal s rfl TF.zero_32 rfl fun k15 h16 s => ?_
  refine au 1 rfl ?_
  refine zsn s rfl rfl rfl TF.sz_32 rfl fun h17 s => ?_
  refine au 4 rfl ?_
  refine zcall s rfl rfl TF.goes_14 ?_
  rintro _ h18 ⟨p19, rfl, s⟩
  refine znil s rfl rfl fun A20 s => ?_
  refine au 1 rfl ?_
  refine zl s rfl rfl TF.agg_44 fun p22 s => ?_
  refine au 1 rfl ?_
  refine zcall s rfl rfl TF.goes_47 ?_
  rintro _ h23 ⟨b24, s25, i26, rfl, s⟩
  refine au 3 rfl ?_
  refine zal s rfl TF.zero_90 rfl fun k27 h28 s => ?_
  refine zsn s rfl rfl rfl TF.sz_90 rfl fun h29 s => ?_
  refine au 4 rfl ?_
  obtain ⟨b30, s31, hl, s⟩ := s
  refine zn hl rfl rfl TF.agg_90 TF.sz_90 rfl ?_
  obtain ⟨b32, s33, hl, s⟩ := s
  refine zn hl rfl rfl TF.agg_32 TF.sz_32 rfl ?_
  by_cases hb34 : eqL [(.bool b30), (.string s31)] [(.bool b32), (.string s33)] = true
  ·replace s := s.1 hb34
   refine zg rfl (sem_aggEq [(.bool b30), (.string s31)] [(.bool b32), (.string s33)] _ (false) (.inr rfl) rfl rfl TF.agg_32 TF.flat_32 TF.eqg_32 ⟨⟨_, rfl⟩, ⟨_, rfl⟩, trivial⟩ ⟨⟨_, rfl⟩, ⟨_, rfl⟩, trivial⟩ (eqLT_neq hb34) ?_)
   refine au 8 rfl ?_
   exact Run.of_fin (s.imp fun h' ⟨m', hm, s⟩ => ih11 ((IntKind.wrap .i64 ((i7) + (1))), m') _ _ ⟨s, ⟨rfl, rfl, rfl, trivial⟩⟩ hm)
  ·replace s := s.2 hb34
   refine zg rfl (sem_aggEq [(.bool b30), (.string s31)] [(.bool b32), (.string s33)] _ (true) (.inr rfl) rfl rfl TF.agg_32 TF.flat_32 TF.eqg_32 ⟨⟨_, rfl⟩, ⟨_, rfl⟩, trivial⟩ ⟨⟨_, rfl⟩, ⟨_, rfl⟩, trivial⟩ (eqLF_neq hb34) ?_)
   refine au 6 rfl ?_
   exact zr (s.imp fun _ q => ⟨_, rfl, q⟩)
 ·refine au 8 rfl ?_
  exact zr (s.imp fun _ q => ⟨_, rfl, q⟩)
theorem C_disk_Disk_Read.of {B : RO} {p1 : Option Addr} {i2 : Int} {h : Heap} {Q : ByteArray → Heap → Prop} (s : S_disk_Disk_Read B p1 i2 h Q) : C_disk_Disk_Read B p1 i2 h Q := by
 refine zspec Tryz.func20 [ResultVar.tmp 4] rfl rfl rfl rfl rfl ?_
 refine au 4 rfl ?_
 refine Run.seqJ (fun e h5 => Agree [(0, (.pointer p1)), (1, (.int .i64 (i2)))] e ∧ S_disk_Disk_Read_J1 B p1 i2 h5 Q) ?_ fun j4 => ?_
 ·rintro e h5 ⟨hag, s⟩
  refine Run.env hag ?_; clear hag
  refine au 4 rfl ?_
  refine znil s rfl rfl fun A6 s => ?_
  refine au 1 rfl ?_
  obtain ⟨hi0, hi1, s⟩ := s
  refine zg rfl (sem_indexAddrA A6 .i64 (i2) rfl rfl TF.arr_64 hi0 hi1 ?_)
  refine au 1 rfl ?_
  refine zl s rfl rfl TF.agg_9 fun s8 s => ?_
  refine au 2 rfl ?_
  exact zr (s.imp fun _ q => ⟨_, rfl, q⟩)
 refine au 3 rfl ?_
 by_cases hb9 : p1 = none
 ·replace s := s.1 hb9
  refine zg rfl (sem_ptrNilT p1 (.inl rfl) true rfl rfl TF.ptr_25 hb9 rfl ?_)
  refine au 11 rfl ?_
  exact zr (s.imp fun _ q => ⟨_, rfl, q⟩)
 ·replace s := s.2 hb9
  refine zg rfl (sem_ptrNilF p1 (.inl rfl) false rfl rfl TF.ptr_25 hb9 rfl ?_)
  refine au 2 rfl ?_
  refine zcall s rfl rfl TF.goes_48 ?_
  rintro _ h10 ⟨b11, rfl, s⟩
  cases b11
  ·replace s := s.2 rfl
   refine au 8 rfl ?_
   exact zr (s.imp fun _ q => ⟨_, rfl, q⟩)
  ·replace s := s.1 rfl
   refine au 5 rfl ?_
   exact Run.of_fin (s.imp fun h' s => j4 _ _ ⟨⟨rfl, rfl, trivial⟩, s⟩)
theorem C_world_World_Add.of {B : RO} {p1 : Option Addr} {a2 : Option Addr} {n3 : Nat} {c4 : Nat} {h : Heap} {Q : Heap → Prop} (s : S_world_World_Add B p1 a2 n3 c4 h Q) : C_world_World_Add B p1 a2 n3 c4 h Q := by
 refine zspec Tryz.func21 [] rfl rfl rfl rfl rfl ?_
 refine au 4 rfl ?_
 by_cases hb5 : p1 = none
 ·replace s := s.1 hb5
  refine zg rfl (sem_ptrNilT p1 (.inl rfl) true rfl rfl TF.ptr_27 hb5 rfl ?_)
  refine au 2 rfl ?_
  exact zr (s.imp fun _ q => ⟨rfl, q⟩)
 ·replace s := s.2 hb5
  refine zg rfl (sem_ptrNilF p1 (.inl rfl) false rfl rfl TF.ptr_27 hb5 rfl ?_)
  refine au 6 rfl ?_
  refine zg rfl (sem_lenSl a2 n3 c4 rfl TF.sl_117 ?_)
  refine au 3 rfl ?_
  obtain ⟨J11, m9, h0, s⟩ := s
  refine Run.of_fin (h0.imp fun h' h0 => ?_)
  refine Run.loop (σ := Int × Nat) (fun x e h => J11 x.1 x.2 h ∧ Agree [(0, (.pointer p1)), (8, (.slice a2 n3 c4)), (9, (.int .i64 ((n3 : Nat)))), (10, (.int .i64 (x.1)))] e) (fun x => x.2) ((0), m9) ⟨h0, ⟨rfl, rfl, rfl, rfl, trivial⟩⟩ ?_; clear h0
  rintro ⟨i6, m8⟩ e h7 ⟨hJ, hag⟩ ih10
  have s := s i6 m8 h7 hJ; clear hJ
  refine Run.env hag ?_; clear hag
  refine au 2 rfl ?_
  refine zt s rfl rfl rfl binI_lss_t binI_lss_f (fun s => ?_) fun s => ?_
  ·refine au 8 rfl ?_
   obtain ⟨A12, e13, hi0, hi1, s⟩ := s
   refine zg rfl (sem_indexAddrS A12 n3 c4 .i64 (i6) (congrArg (fun a => Value.slice a n3 c4) e13) rfl TF.slc_117 hi0 hi1 ?_)
   obtain ⟨i14, i15, hl, s⟩ := s
   refine zn hl rfl rfl TF.agg_59 TF.sz_59 rfl ?_
   refine zal s rfl TF.zero_59 rfl fun k16 h17 s => ?_
   refine zsn s rfl rfl rfl TF.sz_59 rfl fun h18 s => ?_
   refine au 1 rfl ?_
   refine Run.seqJ (fun e h21 => ∃ b20 : Bool, Agree [(0, (.pointer p1)), (5, (.pointer (some ⟨k16, 0, none⟩))), (8, (.slice a2 n3 c4)), (9, (.int .i64 ((n3 : Nat)))), (10, (.int .i64 (i6))), (21, (.bool b20))] e ∧ S_world_World_Add_J1 B p1 a2 n3 c4 i6 m8 J11 k16 b20 h21 Q) ?_ fun j19 => ?_
   ·rintro e h21 ⟨b20, hag, s⟩
    refine Run.env hag ?_; clear hag
    cases b20
    ·replace s := s.2 rfl
     refine au 7 rfl ?_
     exact Run.of_fin (s.imp fun h' ⟨m', hm, s⟩ => ih10 ((IntKind.wrap .i64 ((i6) + (1))), m') _ _ ⟨s, ⟨rfl, rfl, rfl, rfl, trivial⟩⟩ hm)
    ·replace s := s.1 rfl
     refine au 1 rfl ?_
     refine Run.drawM (fun h' => h' = h21) [13] ⟨[0, 0, 2, 1, 8, 20, 32, 0, 128, 320, 1, 1024, 3071, 5119], [16383, 16383, 16381, 16382, 16375, 16363, 16351, 16383, 16255, 16063, 16382, 15359, 14331, 11775], [0, 0, 2, 1, 9, 31, 63, 0, 128, 511, 1, 1025, 4095, 8191], 8192⟩ (.q 0 (.q 1 (.q 2 (.q 3 (.q 4 (.q 5 (.q 6 (.q 7 (.q 8 (.q 9 (.q 10 (.q 11 (.q 12 (.x 13 .nil .no)))))))))))))) TF.mixed (by kernel_rfl) rfl ?_
     refine auT 2 rfl ?_
     obtain ⟨i22, hl, s⟩ := s
     refine zqe rfl (sem_load1 ⟨k16, 0, none⟩ ((.int .i64 (i22))) rfl TF.agg_3 hl ⟨rfl, rfl⟩) ?_
     obtain ⟨A23, e24, s⟩ := s
     refine zqe rfl (sem_nilCheck A23 (congrArg Value.pointer e24) ⟨rfl, rfl⟩) ?_
     refine auT 1 rfl ?_
     obtain ⟨hi0, hi1, s⟩ := s
     refine zqe rfl (sem_indexAddrA (Addr.add A23 5) .i64 (i22) rfl rfl TF.arr_60 hi0 hi1 ⟨rfl, rfl⟩) ?_
     obtain ⟨i25, hl, s⟩ := s
     refine zqe rfl (sem_load1 (Addr.add (Addr.add A23 5) (Int.toNat (i22) * 1)) ((.int .i64 (i25))) rfl TF.agg_3 hl ⟨rfl, rfl⟩) ?_
     refine auT 1 rfl ?_
     obtain ⟨i26, hl, s⟩ := s
     refine zqe rfl (sem_load1 ⟨k16, 1, none⟩ ((.int .i64 (i26))) rfl TF.agg_3 hl ⟨rfl, rfl⟩) ?_
     refine auT 1 rfl ?_
     obtain ⟨A27, e28, s⟩ := s
     refine zqe rfl (sem_nilCheck A27 (congrArg Value.pointer e28) ⟨rfl, rfl⟩) ?_
     refine auT 1 rfl ?_
     obtain ⟨hi0, hi1, s⟩ := s
     refine zqe rfl (sem_indexAddrA (Addr.add A27 5) .i64 (i22) rfl rfl TF.arr_60 hi0 hi1 ⟨rfl, rfl⟩) ?_
     obtain ⟨h29, hst, s⟩ := s
     refine ⟨zo0 rfl (sem_store1 (Addr.add (Addr.add A27 5) (Int.toNat (i22) * 1)) ((.int .i64 (IntKind.wrap .i64 ((i25) + (i26))))) h29 rfl rfl rfl TF.sz_3 hst ?_), trivial⟩
     refine ⟨fun hz => Bool.noConfusion hz, ?_⟩
     refine au 5 rfl ?_
     exact Run.of_fin (s.imp fun h' ⟨m', hm, s⟩ => ih10 ((IntKind.wrap .i64 ((i6) + (1))), m') _ _ ⟨s, ⟨rfl, rfl, rfl, rfl, trivial⟩⟩ hm)
   refine au 2 rfl ?_
   refine zl s rfl rfl TF.agg_3 fun i30 s => ?_
   refine zt s rfl rfl rfl binI_geq_t binI_geq_f (fun s => ?_) fun s => ?_
   ·refine au 2 rfl ?_
    refine zl s rfl rfl TF.agg_3 fun i31 s => ?_
    refine zt s rfl rfl rfl binI_lss_t binI_lss_f (fun s => ?_) fun s => ?_
    ·refine au 2 rfl ?_
     exact Run.of_fin (s.imp fun h' s => j19 _ _ ⟨(true), ⟨rfl, rfl, rfl, rfl, rfl, rfl, trivial⟩, s⟩)
    ·refine au 2 rfl ?_
     exact Run.of_fin (s.imp fun h' s => j19 _ _ ⟨(false), ⟨rfl, rfl, rfl, rfl, rfl, rfl, trivial⟩, s⟩)
   ·refine au 6 rfl ?_
    exact Run.of_fin (s.imp fun h' s => j19 _ _ ⟨(false), ⟨rfl, rfl, rfl, rfl, rfl, rfl, trivial⟩, s⟩)
  ·refine au 4 rfl ?_
   exact zf (s.imp fun _ q => ⟨rfl, q⟩)
theorem C_world_World_Tallies.of {B : RO} {p1 : Option Addr} {h : Heap} {Q : Int → Int → Int → Int → Heap → Prop} (s : S_world_World_Tallies B p1 h Q) : C_world_World_Tallies B p1 h Q := by
 refine zspec Tryz.func22 [ResultVar.cell 2 60] rfl rfl rfl rfl rfl ?_
 refine au 2 rfl ?_
 refine zal s rfl TF.zero_60 rfl fun k6 h7 s => ?_
 refine au 5 rfl ?_
 by_cases hb8 : p1 = none
 ·replace s := s.1 hb8
  refine zg rfl (sem_ptrNilT p1 (.inl rfl) true rfl rfl TF.ptr_27 hb8 rfl ?_)
  refine au 4 rfl ?_
  refine zg rfl (sem_buildAL [] [(.int .i64 (0)), (.int .i64 (0)), (.int .i64 (0)), (.int .i64 (0))] TF.zero_60 TF.arr_60 rfl rfl ?_)
  refine zsn s rfl rfl rfl TF.sz_60 rfl fun h9 s => ?_
  refine au 1 rfl ?_
  obtain ⟨i10, i11, i12, i13, hl0, s⟩ := s
  exact zr (⟨⟨k6, 0, none⟩, (.agg #[(.int .i64 (i10)), (.int .i64 (i11)), (.int .i64 (i12)), (.int .i64 (i13))]), rfl, loadHN TF.agg_60 TF.sz_60 hl0, s.imp fun _ q => ⟨_, _, _, _, rfl, q⟩⟩)
 ·replace s := s.2 hb8
  refine zg rfl (sem_ptrNilF p1 (.inl rfl) false rfl rfl TF.ptr_27 hb8 rfl ?_)
  refine au 6 rfl ?_
  refine znil s rfl rfl fun A14 s => ?_
  refine au 1 rfl ?_
  obtain ⟨i16, i17, i18, i19, hl, s⟩ := s
  refine zn hl rfl rfl TF.agg_60 TF.sz_60 rfl ?_
  refine zsn s rfl rfl rfl TF.sz_60 rfl fun h20 s => ?_
  refine au 1 rfl ?_
  obtain ⟨i21, i22, i23, i24, hl0, s⟩ := s
  exact zr (⟨⟨k6, 0, none⟩, (.agg #[(.int .i64 (i21)), (.int .i64 (i22)), (.int .i64 (i23)), (.int .i64 (i24))]), rfl, loadHN TF.agg_60 TF.sz_60 hl0, s.imp fun _ q => ⟨_, _, _, _, rfl, q⟩⟩)
theorem C_vault_Open.of {B : RO} {p1 : Option Addr} {h : Heap} {Q : Option Addr → ByteArray → Option Addr → Nat → Nat → Int → Heap → Prop} (s : S_vault_Open B p1 h Q) : C_vault_Open B p1 h Q := by
 refine zspec Tryz.func23 [ResultVar.tmp 2, ResultVar.cell 3 71, ResultVar.tmp 4] rfl rfl rfl rfl rfl ?_
 refine au 3 rfl ?_
 refine zal s rfl TF.zero_71 rfl fun k8 h9 s => ?_
 refine au 6 rfl ?_
 by_cases hb10 : p1 = none
 ·replace s := s.1 hb10
  refine zg rfl (sem_ptrNilT p1 (.inl rfl) true rfl rfl TF.ptr_25 hb10 rfl ?_)
  refine au 4 rfl ?_
  refine zg rfl (sem_buildSL [] [(.string ByteArray.empty), (.slice none 0 0)] TF.zero_71 TF.places_71 rfl rfl ?_)
  refine au 1 rfl ?_
  refine zsn s rfl rfl rfl TF.sz_71 rfl fun h11 s => ?_
  refine au 2 rfl ?_
  obtain ⟨s12, a13, n14, c15, hl1, s⟩ := s
  exact zr (⟨⟨k8, 0, none⟩, (.agg #[(.string s12), (.slice a13 n14 c15)]), rfl, loadHN TF.agg_71 TF.sz_71 hl1, s.imp fun _ q => ⟨_, _, _, _, _, _, rfl, q⟩⟩)
 ·replace s := s.2 hb10
  refine zg rfl (sem_ptrNilF p1 (.inl rfl) false rfl rfl TF.ptr_25 hb10 rfl ?_)
  refine au 6 rfl ?_
  refine zg rfl (sem_buildSL [(0, (.pointer p1))] [(.pointer p1), (.pointer none), (.int .i64 (0)), (.bool false)] TF.zero_120 TF.places_120 rfl rfl ?_)
  refine zbn s rfl rfl rfl fun k16 h17 s => ?_
  refine au 4 rfl ?_
  refine zal s rfl TF.zero_71 rfl fun k18 h19 s => ?_
  refine au 7 rfl ?_
  obtain ⟨J25, m23, h0, s⟩ := s
  refine Run.of_fin (h0.imp fun h' h0 => ?_)
  refine Run.loop (σ := Int × Nat) (fun x e h => J25 x.1 x.2 h ∧ Agree [(0, (.pointer p1)), (3, (.pointer (some ⟨k8, 0, none⟩))), (5, (.pointer (some ⟨k16, 0, none⟩))), (6, (.pointer (some ⟨k18, 0, none⟩))), (18, (.int .i64 (x.1)))] e) (fun x => x.2) ((0), m23) ⟨h0, ⟨rfl, rfl, rfl, rfl, rfl, trivial⟩⟩ ?_; clear h0
  rintro ⟨i20, m22⟩ e h21 ⟨hJ, hag⟩ ih24
  have s := s i20 m22 h21 hJ; clear hJ
  refine Run.env hag ?_; clear hag
  refine au 2 rfl ?_
  refine zt s rfl rfl rfl binI_lss_t binI_lss_f (fun s => ?_) fun s => ?_
  ·refine au 15 rfl ?_
   refine zcall s rfl rfl TF.goes_49 ?_
   rintro _ h26 ⟨p27, i28, rfl, s⟩
   refine au 9 rfl ?_
   refine zcall s rfl rfl TF.goes_50 ?_
   rintro _ h29 ⟨i30, s31, a32, n33, c34, rfl, s⟩
   refine au 3 rfl ?_
   refine zal s rfl TF.zero_71 rfl fun k35 h36 s => ?_
   refine au 1 rfl ?_
   refine zsn s rfl rfl rfl TF.sz_71 rfl fun h37 s => ?_
   refine au 1 rfl ?_
   refine Run.seqJ (fun e h40 => ∃ b39 : Bool, Agree [(0, (.pointer p1)), (3, (.pointer (some ⟨k8, 0, none⟩))), (5, (.pointer (some ⟨k16, 0, none⟩))), (6, (.pointer (some ⟨k18, 0, none⟩))), (8, (.pointer p27)), (10, (.int .i64 (i30))), (11, (.pointer (some ⟨k35, 0, none⟩))), (18, (.int .i64 (i20))), (44, (.bool b39))] e ∧ S_vault_Open_J1 B p1 k8 k16 k18 i20 m22 J25 p27 i30 k35 b39 h40 Q) ?_ fun j38 => ?_
   ·rintro e h40 ⟨b39, hag, s⟩
    refine Run.env hag ?_; clear hag
    cases b39
    ·replace s := s.2 rfl
     refine au 7 rfl ?_
     exact Run.of_fin (s.imp fun h' ⟨m', hm, s⟩ => ih24 ((IntKind.wrap .i64 ((i20) + (1))), m') _ _ ⟨s, ⟨rfl, rfl, rfl, rfl, rfl, trivial⟩⟩ hm)
    ·replace s := s.1 rfl
     refine au 1 rfl ?_
     obtain ⟨s45, a46, n47, c48, hl, s⟩ := s
     have f49 := hl
     refine Run.drawM (fun h' => CellsAt B h' ⟨k35, 0, none⟩ 0 [(.string s45), (.slice a46 n47 c48)] ∧ True) [11] ⟨[0, 0, 0, 0, 0, 5, 37, 69, 239, 495, 751, 2047], [4095, 4095, 4095, 4095, 4095, 4094, 4063, 4027, 4093, 3839, 3575, 4079], [0, 0, 0, 0, 0, 5, 37, 101, 239, 495, 1007, 2047], 2048⟩ (.q 0 (.q 1 (.q 2 (.q 3 (.q 4 (.q 5 (.q 6 (.x 7 (.q 8 (.q 9 (.x 10 (.x 11 .nil .no) .no))) .no)))))))) TF.mixed (by kernel_rfl) ⟨f49, trivial⟩ ?_
     refine auT 4 rfl ?_
     refine zq rfl (fun _ hC => sem_loadN ⟨k35, 0, none⟩ [(.string s45), (.slice a46 n47 c48)] rfl TF.agg_71 TF.sz_71 hC.1 ⟨rfl, rfl⟩) ?_
     refine auT 2 rfl ?_
     obtain ⟨h52, hst, s⟩ := s
     refine ⟨zo0 rfl (sem_store1 ⟨k16, 1, none⟩ ((.pointer p27)) h52 rfl rfl rfl TF.sz_118 hst ?_), trivial⟩
     obtain ⟨g53, s⟩ := s
     refine ⟨fun _ => ⟨g53, trivial⟩, ?_⟩
     refine auT 2 rfl ?_
     obtain ⟨h54, hst, s⟩ := s
     refine ⟨zo0 rfl (sem_store1 ⟨k16, 2, none⟩ ((.int .i64 (i30))) h54 rfl rfl rfl TF.sz_3 hst ?_), trivial⟩
     obtain ⟨g55, s⟩ := s
     refine ⟨fun _ => ⟨g55, trivial⟩, ?_⟩
     obtain ⟨h56, hst, s⟩ := s
     refine ⟨zo0 rfl (sem_storeN ⟨k18, 0, none⟩ [(.string s45), (.slice a46 n47 c48)] h56 rfl rfl TF.sz_71 hst ?_), trivial⟩
     refine ⟨fun hz => Bool.noConfusion hz, ?_⟩
     refine au 5 rfl ?_
     exact Run.of_fin (s.imp fun h' ⟨m', hm, s⟩ => ih24 ((IntKind.wrap .i64 ((i20) + (1))), m') _ _ ⟨s, ⟨rfl, rfl, rfl, rfl, rfl, trivial⟩⟩ hm)
   refine au 4 rfl ?_
   refine zl s rfl rfl TF.agg_118 fun p57 s => ?_
   by_cases hb58 : p57 = none
   ·replace s := s.1 hb58
    refine zg rfl (sem_ptrNilT p57 (.inl rfl) true rfl rfl TF.ptr_118 hb58 rfl ?_)
    refine au 9 rfl ?_
    exact Run.of_fin (s.imp fun h' s => j38 _ _ ⟨(true), ⟨rfl, rfl, rfl, rfl, rfl, rfl, rfl, rfl, rfl, trivial⟩, s⟩)
   ·replace s := s.2 hb58
    refine zg rfl (sem_ptrNilF p57 (.inl rfl) false rfl rfl TF.ptr_118 hb58 rfl ?_)
    refine au 5 rfl ?_
    refine zl s rfl rfl TF.agg_3 fun i59 s => ?_
    refine zt s rfl rfl rfl binI_gtr_t binI_gtr_f (fun s => ?_) fun s => ?_
    ·refine au 2 rfl ?_
     exact Run.of_fin (s.imp fun h' s => j38 _ _ ⟨(true), ⟨rfl, rfl, rfl, rfl, rfl, rfl, rfl, rfl, rfl, trivial⟩, s⟩)
    ·refine au 2 rfl ?_
     exact Run.of_fin (s.imp fun h' s => j38 _ _ ⟨(false), ⟨rfl, rfl, rfl, rfl, rfl, rfl, rfl, rfl, rfl, trivial⟩, s⟩)
  ·refine au 5 rfl ?_
   obtain ⟨s61, a62, n63, c64, hl, s⟩ := s
   have f65 := hl
   refine Run.drawM (fun h' => CellsAt B h' ⟨k18, 0, none⟩ 0 [(.string s61), (.slice a62 n63 c64)] ∧ True) [] ⟨[0, 0, 1, 7, 15], [31, 31, 30, 29, 31], [0, 0, 0, 0, 0], 0⟩ (.q 0 (.q 1 (.q 2 (.x 3 (.q 4 .nil) .no)))) TF.mixed (by kernel_rfl) ⟨f65, trivial⟩ ?_
   refine auT 1 rfl ?_
   refine zq rfl (fun _ hC => sem_loadN ⟨k18, 0, none⟩ [(.string s61), (.slice a62 n63 c64)] rfl TF.agg_71 TF.sz_71 hC.1 ⟨rfl, rfl⟩) ?_
   refine auT 1 rfl ?_
   obtain ⟨h67, hst, s⟩ := s
   refine ⟨zo0 rfl (sem_storeN ⟨k8, 0, none⟩ [(.string s61), (.slice a62 n63 c64)] h67 rfl rfl TF.sz_71 hst ?_), trivial⟩
   obtain ⟨g68, s⟩ := s
   refine ⟨fun _ => ⟨g68, trivial⟩, ?_⟩
   refine auT 1 rfl ?_
   obtain ⟨s69, a70, n71, c72, hl1, s⟩ := s
   exact zr (⟨⟨k8, 0, none⟩, (.agg #[(.string s69), (.slice a70 n71 c72)]), rfl, loadHN TF.agg_71 TF.sz_71 hl1, s.imp fun _ q => ⟨_, _, _, _, _, _, rfl, q⟩⟩)
theorem C_world_read.of {B : RO} {s1 : ByteArray} {h : Heap} {Q : Int → Option Addr → Bool → Heap → Prop} (s : S_world_read B s1 h Q) : C_world_read B s1 h Q := by
 refine zspec Tryz.func24 [ResultVar.tmp 2, ResultVar.tmp 3, ResultVar.tmp 4] rfl rfl rfl rfl rfl ?_
 refine au 10 rfl ?_
 by_cases hb5 : s1 = (ByteArray.mk #[])
 ·replace s := s.1 hb5
  refine zg rfl (sem_strEqT s1 (ByteArray.mk #[]) rfl rfl hb5 ?_)
  refine au 4 rfl ?_
  refine zcall s rfl rfl TF.goes_51 ?_
  rintro _ h6 ⟨p7, rfl, s⟩
  refine au 4 rfl ?_
  exact zr (s.imp fun _ q => ⟨_, _, _, rfl, q⟩)
 ·replace s := s.2 hb5
  refine zg rfl (sem_strEqF s1 (ByteArray.mk #[]) rfl rfl hb5 ?_)
  refine au 6 rfl ?_
  refine zcall s rfl rfl TF.goes_37 ?_
  rintro _ h8 ⟨p9, rfl, s⟩
  refine au 5 rfl ?_
  refine zcall s rfl rfl TF.goes_38 ?_
  rintro _ h10 ⟨i11, rfl, s⟩
  refine au 6 rfl ?_
  refine zcall s rfl rfl TF.goes_41 ?_
  rintro _ h12 ⟨b13, rfl, s⟩
  cases b13
  ·replace s := s.2 rfl
   refine au 7 rfl ?_
   refine zcall s rfl rfl TF.goes_39 ?_
   rintro _ h14 ⟨i15, rfl, s⟩
   refine zcall s rfl rfl TF.goes_53 ?_
   rintro _ h16 ⟨s17, rfl, s⟩
   refine zcall s rfl rfl TF.goes_52 ?_
   rintro _ h18 ⟨p19, b20, rfl, s⟩
   refine au 15 rfl ?_
   exact zr (s.imp fun _ q => ⟨_, _, _, rfl, q⟩)
  ·replace s := s.1 rfl
   refine au 8 rfl ?_
   exact zr (s.imp fun _ q => ⟨_, _, _, rfl, q⟩)
theorem C_redo_Replay.of {B : RO} {p1 : Option Addr} {a2 : Option Addr} {n3 : Nat} {c4 : Nat} {h : Heap} {Q : Int → Int → Heap → Prop} (s : S_redo_Replay B p1 a2 n3 c4 h Q) : C_redo_Replay B p1 a2 n3 c4 h Q := by
 refine zspec Tryz.func25 [ResultVar.tmp 4, ResultVar.tmp 5] rfl rfl rfl rfl rfl ?_
 refine au 13 rfl ?_
 refine zg rfl (sem_lenSl a2 n3 c4 rfl TF.sl_69 ?_)
 refine au 3 rfl ?_
 obtain ⟨J13, m11, h0, s⟩ := s
 refine Run.of_fin (h0.imp fun h' h0 => ?_)
 refine Run.loop (σ := Int × Int × Nat) (fun x e h => J13 x.1 x.2.1 x.2.2 h ∧ Agree [(0, (.pointer p1)), (1, (.slice a2 n3 c4)), (6, (.int .i64 (x.1))), (12, (.slice a2 n3 c4)), (13, (.int .i64 ((n3 : Nat)))), (14, (.int .i64 (x.2.1)))] e) (fun x => x.2.2) ((0), (0), m11) ⟨h0, ⟨rfl, rfl, rfl, rfl, rfl, rfl, trivial⟩⟩ ?_; clear h0
 rintro ⟨i7, i8, m10⟩ e h9 ⟨hJ, hag⟩ ih12
 have s := s i7 i8 m10 h9 hJ; clear hJ
 refine Run.env hag ?_; clear hag
 refine au 2 rfl ?_
 refine zt s rfl rfl rfl binI_lss_t binI_lss_f (fun s => ?_) fun s => ?_
 ·refine au 9 rfl ?_
  obtain ⟨A14, e15, hi0, hi1, s⟩ := s
  refine zg rfl (sem_indexAddrS A14 n3 c4 .i64 (i8) (congrArg (fun a => Value.slice a n3 c4) e15) rfl TF.slc_69 hi0 hi1 ?_)
  refine zl s rfl rfl TF.agg_9 fun s16 s => ?_
  refine au 6 rfl ?_
  refine zcall s rfl rfl TF.goes_11 ?_
  rintro _ h17 ⟨i18, a19, n20, c21, b22, rfl, s⟩
  refine au 3 rfl ?_
  cases b22
  ·replace s := s.2 rfl
   refine au 1 rfl ?_
   refine au 18 rfl ?_
   exact zr (s.imp fun _ q => ⟨_, _, rfl, q⟩)
  ·replace s := s.1 rfl
   refine au 1 rfl ?_
   refine au 16 rfl ?_
   refine zcall s rfl rfl TF.goes_13 ?_
   rintro _ h23 ⟨rfl, s⟩
   refine au 4 rfl ?_
   refine zg rfl (sem_max .i64 (i7) (i18) rfl rfl ?_)
   refine au 7 rfl ?_
   exact Run.of_fin (s.imp fun h' ⟨m', hm, s⟩ => ih12 ((if (i18 : Int) > (i7) then (i18 : Int) else (i7)), (IntKind.wrap .i64 ((i8) + (1))), m') _ _ ⟨s, ⟨rfl, rfl, rfl, rfl, rfl, rfl, trivial⟩⟩ hm)
 ·refine au 8 rfl ?_
  refine zg rfl (sem_lenSl a2 n3 c4 rfl TF.sl_69 ?_)
  refine au 3 rfl ?_
  exact zr (s.imp fun _ q => ⟨_, _, rfl, q⟩)
theorem C_vault_Vault_Settle.of {B : RO} {p1 : Option Addr} {s2 : ByteArray} {h : Heap} {Q : Int → Heap → Prop} (s : S_vault_Vault_Settle B p1 s2 h Q) : C_vault_Vault_Settle B p1 s2 h Q := by
 refine zspec Tryz.func26 [ResultVar.tmp 4] rfl rfl rfl rfl rfl ?_
 refine au 4 rfl ?_
 refine Run.seqJ (fun e h5 => Agree [(0, (.pointer p1)), (1, (.string s2))] e ∧ S_vault_Vault_Settle_J1 B p1 s2 h5 Q) ?_ fun j4 => ?_
 ·rintro e h5 ⟨hag, s⟩
  refine Run.env hag ?_; clear hag
  refine au 2 rfl ?_
  refine zg rfl (sem_buildSL [] [(.slice none 0 0)] TF.zero_106 TF.places_106 rfl rfl ?_)
  refine zbn s rfl rfl rfl fun k6 h7 s => ?_
  refine au 6 rfl ?_
  refine znil s rfl rfl fun A8 s => ?_
  refine au 1 rfl ?_
  refine zl s rfl rfl TF.agg_3 fun i10 s => ?_
  refine au 1 rfl ?_
  refine zg rfl (sem_buildSliceL [(0, (.int .i64 (0))), (1, (.int .i64 (IntKind.wrap .i64 ((i10) + (1)))))] [(.int .i64 (0)), (.int .i64 (IntKind.wrap .i64 ((i10) + (1))))] TF.slc_147 TF.zero_3 rfl (by decide) (by decide) rfl rfl (fun k11 hb1 hb2 h12 hb3 => ?_))
  have s := s k11 hb1 hb2 h12 hb3
  refine zcall s rfl rfl TF.goes_42 ?_
  rintro _ h13 ⟨rfl, s⟩
  refine au 5 rfl ?_
  refine zcall s rfl rfl TF.goes_54 ?_
  rintro _ h14 ⟨rfl, s⟩
  refine au 5 rfl ?_
  refine zcall s rfl rfl TF.goes_44 ?_
  rintro _ h15 ⟨s16, rfl, s⟩
  refine zg rfl (sem_lenStr s16 rfl TF.isStr_9 ?_)
  refine zt s rfl rfl rfl binI_gtr_t binI_gtr_f (fun s => ?_) fun s => ?_
  ·refine au 6 rfl ?_
   exact zr (s.imp fun _ q => ⟨_, rfl, q⟩)
  ·refine au 6 rfl ?_
   refine znil s rfl rfl fun A17 s => ?_
   refine au 1 rfl ?_
   refine zl s rfl rfl TF.agg_118 fun p19 s => ?_
   refine au 3 rfl ?_
   obtain ⟨A21, e22, s⟩ := s
   obtain ⟨p25, hl, s⟩ := s
   have f26 := hl
   refine Run.drawM (fun h' => cellH B h' A21 = some (.pointer p25) ∧ True) [] ⟨[0, 1, 2, 4, 0, 16, 32, 104, 128, 256, 256, 1023, 4095], [8191, 8190, 8189, 8187, 8191, 8175, 8159, 8119, 8063, 7935, 7935, 7679, 7167], [0, 0, 0, 0, 0, 0, 0, 0, 0, 0, 0, 0, 0], 0⟩ (.q 0 (.q 1 (.q 2 (.q 3 (.q 4 (.x 5 (.q 6 (.x 7 (.q 8 (.q 9 (.q 10 (.q 11 (.q 12 .nil))))) .no)) .no)))))) TF.mixed (by kernel_rfl) ⟨f26, trivial⟩ ?_
   refine auT 1 rfl ?_
   refine zq rfl (fun _ hC => sem_nilCheck A21 (congrArg Value.pointer e22) ⟨rfl, rfl⟩) ?_
   refine auT 1 rfl ?_
   refine zq rfl (fun _ hC => sem_load1 A21 ((.pointer p25)) rfl TF.agg_25 hC.1 ⟨rfl, rfl⟩) ?_
   refine auT 1 rfl ?_
   refine ⟨zo rfl (sem_callL [(.pointer p19)] (TF.goes_55) rfl rfl (Spec.mono s fun v h28 hv => ?_)), trivial⟩
   obtain ⟨i29, rfl, s⟩ := hv
   obtain ⟨g30, s⟩ := s
   refine ⟨fun _ => ⟨g30, trivial⟩, ?_⟩
   refine auT 1 rfl ?_
   refine ⟨zo rfl (sem_callL [(.pointer p25), (.int .i64 (IntKind.wrap .i64 ((1) - (i29))))] (TF.goes_49) rfl rfl (Spec.mono s fun v h31 hv => ?_)), trivial⟩
   obtain ⟨p32, i33, rfl, s⟩ := hv
   obtain ⟨g34, s⟩ := s
   refine ⟨fun _ => ⟨g34, trivial⟩, ?_⟩
   refine auT 5 rfl ?_
   refine au 3 rfl ?_
   refine zcall s rfl rfl TF.goes_56 ?_
   rintro _ h35 ⟨rfl, s⟩
   refine au 4 rfl ?_
   refine zcall s rfl rfl TF.goes_57 ?_
   rintro _ h36 ⟨rfl, s⟩
   refine au 5 rfl ?_
   refine zcall s rfl rfl TF.goes_44 ?_
   rintro _ h37 ⟨s38, rfl, s⟩
   refine zcall s rfl rfl TF.goes_58 ?_
   rintro _ h39 ⟨i40, rfl, s⟩
   refine au 4 rfl ?_
   refine zcall s rfl rfl TF.goes_57 ?_
   rintro _ h41 ⟨rfl, s⟩
   refine au 4 rfl ?_
   refine zcall s rfl rfl TF.goes_56 ?_
   rintro _ h42 ⟨rfl, s⟩
   refine au 4 rfl ?_
   refine zcall s rfl rfl TF.goes_57 ?_
   rintro _ h43 ⟨rfl, s⟩
   refine au 8 rfl ?_
   refine znil s rfl rfl fun A44 s => ?_
   refine au 1 rfl ?_
   refine zl s rfl rfl TF.agg_3 fun i46 s => ?_
   refine au 1 rfl ?_
   refine znil s rfl rfl fun A47 s => ?_
   refine au 1 rfl ?_
   refine zs1 s rfl rfl rfl rfl TF.sz_118 fun h49 s => ?_
   refine znil s rfl rfl fun A50 s => ?_
   refine au 1 rfl ?_
   refine zs1 s rfl rfl rfl rfl TF.sz_3 fun h52 s => ?_
   refine znil s rfl rfl fun A53 s => ?_
   refine au 1 rfl ?_
   refine zs1 s rfl rfl rfl rfl TF.sz_4 fun h55 s => ?_
   refine au 5 rfl ?_
   exact zr (s.imp fun _ q => ⟨_, rfl, q⟩)
 refine au 4 rfl ?_
 by_cases hb56 : p1 = none
 ·replace s := s.1 hb56
  refine zg rfl (sem_ptrNilT p1 (.inl rfl) true rfl rfl TF.ptr_68 hb56 rfl ?_)
  refine au 7 rfl ?_
  exact zr (s.imp fun _ q => ⟨_, rfl, q⟩)
 ·replace s := s.2 hb56
  refine zg rfl (sem_ptrNilF p1 (.inl rfl) false rfl rfl TF.ptr_68 hb56 rfl ?_)
  refine au 6 rfl ?_
  refine znil s rfl rfl fun A57 s => ?_
  refine au 1 rfl ?_
  refine zl s rfl rfl TF.agg_3 fun i59 s => ?_
  refine zt s rfl rfl rfl binI_geq_t binI_geq_f (fun s => ?_) fun s => ?_
  ·refine au 7 rfl ?_
   exact zr (s.imp fun _ q => ⟨_, rfl, q⟩)
  ·refine au 5 rfl ?_
   exact Run.of_fin (s.imp fun h' s => j4 _ _ ⟨⟨rfl, rfl, trivial⟩, s⟩)
theorem C_world_image.of {B : RO} {i1 : Int} {p2 : Option Addr} {h : Heap} {Q : ByteArray → Heap → Prop} (s : S_world_image B i1 p2 h Q) : C_world_image B i1 p2 h Q := by
 refine zspec Tryz.func27 [ResultVar.tmp 4] rfl rfl rfl rfl rfl ?_
 refine au 6 rfl ?_
 refine zg rfl (sem_buildSL [] [(.slice none 0 0)] TF.zero_106 TF.places_106 rfl rfl ?_)
 refine zbn s rfl rfl rfl fun k4 h5 s => ?_
 refine au 6 rfl ?_
 refine zg rfl (sem_buildSliceL [(0, (.int .i64 (i1)))] [(.int .i64 (i1))] TF.slc_147 TF.zero_3 rfl (by decide) (by decide) rfl rfl (fun k6 hb1 hb2 h7 hb3 => ?_))
 have s := s k6 hb1 hb2 h7 hb3
 refine zcall s rfl rfl TF.goes_42 ?_
 rintro _ h8 ⟨rfl, s⟩
 refine au 5 rfl ?_
 refine zcall s rfl rfl TF.goes_59 ?_
 rintro _ h9 ⟨s10, rfl, s⟩
 refine zcall s rfl rfl TF.goes_54 ?_
 rintro _ h11 ⟨rfl, s⟩
 refine au 4 rfl ?_
 refine zcall s rfl rfl TF.goes_44 ?_
 rintro _ h12 ⟨s13, rfl, s⟩
 refine au 2 rfl ?_
 exact zr (s.imp fun _ q => ⟨_, rfl, q⟩)
theorem C_attempt_NewView.of {B : RO} {h : Heap} {Q : Option Addr → Heap → Prop} (s : S_attempt_NewView B h Q) : C_attempt_NewView B h Q := by
 refine zspec Tryz.func28 [ResultVar.tmp 0] rfl rfl rfl rfl rfl ?_
 refine au 6 rfl ?_
 refine zcall s rfl rfl TF.goes_60 ?_
 rintro _ h2 ⟨p3, rfl, s⟩
 refine zcall s rfl rfl TF.goes_51 ?_
 rintro _ h4 ⟨p5, rfl, s⟩
 refine zcall s rfl rfl TF.goes_61 ?_
 rintro _ h6 ⟨p7, rfl, s⟩
 refine zg rfl (sem_buildSL [(0, (.pointer p3)), (1, (.pointer p5)), (2, (.pointer p7))] [(.pointer p3), (.pointer p5), (.pointer p7), (.int .i64 (0))] TF.zero_47 TF.places_47 rfl rfl ?_)
 refine zbn s rfl rfl rfl fun k8 h9 s => ?_
 refine au 2 rfl ?_
 exact zr (s.imp fun _ q => ⟨_, rfl, q⟩)
theorem C_wire_New.of {B : RO} {h : Heap} {Q : Option Addr → Heap → Prop} (s : S_wire_New B h Q) : C_wire_New B h Q := by
 refine zspec Tryz.func29 [ResultVar.tmp 0] rfl rfl rfl rfl rfl ?_
 refine au 6 rfl ?_
 refine zg rfl (sem_buildSL [] [(.string ByteArray.empty), (.string ByteArray.empty), (.string ByteArray.empty), (.string ByteArray.empty), (.string ByteArray.empty), (.string ByteArray.empty), (.string ByteArray.empty), (.string ByteArray.empty), (.string ByteArray.empty)] TF.zero_135 TF.places_135 rfl rfl ?_)
 refine zbn s rfl rfl rfl fun k2 h3 s => ?_
 refine au 2 rfl ?_
 exact zr (s.imp fun _ q => ⟨_, rfl, q⟩)
theorem C_token_New.of {B : RO} {h : Heap} {Q : Option Addr → Heap → Prop} (s : S_token_New B h Q) : C_token_New B h Q := by
 refine zspec Tryz.func30 [ResultVar.tmp 0] rfl rfl rfl rfl rfl ?_
 refine au 6 rfl ?_
 refine zg rfl (sem_buildSL [(0, (.int .i64 ((-1)))), (2, (.int .i64 ((-1))))] [(.int .i64 ((-1))), (.bool false), (.int .i64 ((-1)))] TF.zero_137 TF.places_137 rfl rfl ?_)
 refine zbn s rfl rfl rfl fun k2 h3 s => ?_
 refine au 2 rfl ?_
 exact zr (s.imp fun _ q => ⟨_, rfl, q⟩)
theorem C_file_Good.of {B : RO} {b1 : Bool} {s2 : ByteArray} {h : Heap} {Q : Bool → Heap → Prop} (s : S_file_Good B b1 s2 h Q) : C_file_Good B b1 s2 h Q := by
 refine zspec Tryz.func31 [ResultVar.tmp 2] rfl rfl rfl rfl rfl ?_
 refine au 2 rfl ?_
 refine zbn s rfl rfl rfl fun k4 h5 s => ?_
 refine au 5 rfl ?_
 refine zl s rfl rfl TF.agg_9 fun s6 s => ?_
 refine zg rfl (sem_lenStr s6 rfl TF.isStr_9 ?_)
 refine zt s rfl rfl rfl binI_leq_t binI_leq_f (fun s => ?_) fun s => ?_
 ·refine au 2 rfl ?_
  refine zl s rfl rfl TF.agg_4 fun b7 s => ?_
  cases b7
  ·replace s := s.2 rfl
   refine au 2 rfl ?_
   refine zl s rfl rfl TF.agg_9 fun s8 s => ?_
   refine zg rfl (sem_strEq s8 (ByteArray.mk #[]) rfl rfl ?_)
   refine au 4 rfl ?_
   exact zr (s.imp fun _ q => ⟨_, rfl, q⟩)
  ·replace s := s.1 rfl
   refine au 8 rfl ?_
   exact zr (s.imp fun _ q => ⟨_, rfl, q⟩)
 ·refine au 11 rfl ?_
  exact zr (s.imp fun _ q => ⟨_, rfl, q⟩)
theorem C_draft_Draft_file_File_Put.of {B : RO} {p1 : Option Addr} {i2 : Int} {b3 : Bool} {s4 : ByteArray} {h : Heap} {Q : Bool → Heap → Prop} (s : S_draft_Draft_file_File_Put B p1 i2 b3 s4 h Q) : C_draft_Draft_file_File_Put B p1 i2 b3 s4 h Q := by
 refine zspec Tryz.func32 [ResultVar.tmp 6] rfl rfl rfl rfl rfl ?_
 refine au 2 rfl ?_
 refine zbn s rfl rfl rfl fun k6 h7 s => ?_
 refine au 6 rfl ?_
 by_cases hb8 : p1 = none
 ·replace s := s.1 hb8
  refine zg rfl (sem_ptrNilT p1 (.inl rfl) true rfl rfl TF.ptr_34 hb8 rfl ?_)
  refine au 6 rfl ?_
  exact zr (s.imp fun _ q => ⟨_, rfl, q⟩)
 ·replace s := s.2 hb8
  refine zg rfl (sem_ptrNilF p1 (.inl rfl) false rfl rfl TF.ptr_34 hb8 rfl ?_)
  refine au 7 rfl ?_
  refine zcall s rfl rfl TF.goes_62 ?_
  rintro _ h9 ⟨i10, b11, rfl, s⟩
  refine au 2 rfl ?_
  cases b11
  ·replace s := s.2 rfl
   refine au 1 rfl ?_
   refine au 9 rfl ?_
   obtain ⟨A14, e15, s⟩ := s
   obtain ⟨a18, n19, c20, hl, s⟩ := s
   have f21 := hl
   obtain ⟨b24, s25, hl, s⟩ := s
   have f26 := hl
   refine Run.drawM (fun h' => cellH B h' A14 = some (.slice a18 n19 c20) ∧ CellsAt B h' ⟨k6, 0, none⟩ 0 [(.bool b24), (.string s25)] ∧ True) [13] ⟨[0, 0, 2, 4, 8, 0, 0, 0, 192, 256, 560, 2047, 4095, 6143], [16383, 16383, 16381, 16379, 16375, 16383, 16383, 16383, 16191, 16127, 15823, 16382, 14335, 11263], [0, 0, 2, 6, 14, 0, 0, 0, 192, 448, 1022, 2047, 4095, 8191], 8192⟩ (.q 0 (.q 1 (.q 2 (.q 3 (.q 4 (.q 5 (.q 6 (.q 7 (.q 8 (.x 9 (.x 10 (.q 11 (.q 12 (.x 13 .nil .no))) .no) .no)))))))))) TF.mixed (by kernel_rfl) ⟨f21, f26, trivial⟩ ?_
   refine auT 2 rfl ?_
   refine zq rfl (fun _ hC => sem_nilCheck A14 (congrArg Value.pointer e15) ⟨rfl, rfl⟩) ?_
   refine auT 1 rfl ?_
   refine zq rfl (fun _ hC => sem_load1 A14 ((.slice a18 n19 c20)) rfl TF.agg_87 hC.1 ⟨rfl, rfl⟩) ?_
   refine auT 2 rfl ?_
   refine zq rfl (fun _ hC => sem_loadN ⟨k6, 0, none⟩ [(.bool b24), (.string s25)] rfl TF.agg_90 TF.sz_90 hC.2.1 ⟨rfl, rfl⟩) ?_
   refine zq rfl (fun _ hC => sem_buildSL [(0, (.int .i64 (i2))), (1, (.agg #[(.bool b24), (.string s25)]))] [(.int .i64 (i2)), (.bool b24), (.string s25)] TF.zero_141 TF.places_141 rfl rfl ⟨rfl, rfl⟩) ?_
   refine ⟨zo rfl (sem_buildSliceL [(0, (.agg #[(.int .i64 (i2)), (.bool b24), (.string s25)]))] [(.int .i64 (i2)), (.bool b24), (.string s25)] TF.slc_87 TF.zero_141 rfl (by decide) (by decide) rfl rfl (fun k28 hb1 hb2 h29 hb3 => ?_)), trivial⟩
   have s := s k28 hb1 hb2 h29 hb3
   obtain ⟨g30, g31, s⟩ := s
   refine ⟨fun _ => ⟨g30, g31, trivial⟩, ?_⟩
   refine ⟨zo rfl (sem_callL [(.slice a18 n19 c20), (.int .i64 (i10)), (.slice (some ⟨k28, 0, none⟩) 1 1)] (TF.goes_63) rfl rfl (Spec.mono s fun v h32 hv => ?_)), trivial⟩
   obtain ⟨a33, n34, c35, rfl, s⟩ := hv
   obtain ⟨g36, g37, s⟩ := s
   refine ⟨fun _ => ⟨g36, g37, trivial⟩, ?_⟩
   obtain ⟨A38, e39, s⟩ := s
   refine zq rfl (fun _ _ => sem_nilCheck A38 (congrArg Value.pointer e39) ⟨rfl, rfl⟩) ?_
   refine auT 1 rfl ?_
   obtain ⟨h40, hst, s⟩ := s
   refine ⟨zo0 rfl (sem_store1 A38 ((.slice a33 n34 c35)) h40 rfl rfl rfl TF.sz_87 hst ?_), trivial⟩
   refine ⟨fun hz => Bool.noConfusion hz, ?_⟩
   refine au 4 rfl ?_
   exact zr (s.imp fun _ q => ⟨_, rfl, q⟩)
  ·replace s := s.1 rfl
   refine au 1 rfl ?_
   refine au 9 rfl ?_
   refine Run.drawM (fun h' => h' = h9) [8] ⟨[0, 1, 2, 4, 0, 0, 63, 127, 191], [511, 510, 509, 507, 511, 511, 487, 447, 351], [0, 1, 3, 7, 0, 0, 63, 127, 255], 256⟩ (.q 0 (.q 1 (.q 2 (.q 3 (.q 4 (.q 5 (.q 6 (.q 7 (.x 8 .nil .no))))))))) TF.mixed (by kernel_rfl) rfl ?_
   refine auT 1 rfl ?_
   obtain ⟨A41, e42, s⟩ := s
   refine zqe rfl (sem_nilCheck A41 (congrArg Value.pointer e42) ⟨rfl, rfl⟩) ?_
   refine auT 1 rfl ?_
   obtain ⟨a43, n44, c45, hl, s⟩ := s
   refine zqe rfl (sem_load1 A41 ((.slice a43 n44 c45)) rfl TF.agg_87 hl ⟨rfl, rfl⟩) ?_
   refine auT 1 rfl ?_
   obtain ⟨b46, s47, hl, s⟩ := s
   refine zqe rfl (sem_loadN ⟨k6, 0, none⟩ [(.bool b46), (.string s47)] rfl TF.agg_90 TF.sz_90 hl ⟨rfl, rfl⟩) ?_
   obtain ⟨A48, e49, hi0, hi1, s⟩ := s
   refine zqe rfl (sem_indexAddrS A48 n44 c45 .i64 (i10) (congrArg (fun a => Value.slice a n44 c45) e49) rfl TF.slc_87 hi0 hi1 ⟨rfl, rfl⟩) ?_
   refine auT 1 rfl ?_
   obtain ⟨h50, hst, s⟩ := s
   refine ⟨zo0 rfl (sem_storeN (Addr.add (Addr.add A48 (Int.toNat (i10) * 3)) 1) [(.bool b46), (.string s47)] h50 rfl rfl TF.sz_90 hst ?_), trivial⟩
   refine ⟨fun hz => Bool.noConfusion hz, ?_⟩
   refine au 4 rfl ?_
   exact zr (s.imp fun _ q => ⟨_, rfl, q⟩)
theorem C_draft_Draft_file_File_All.of {B : RO} {p1 : Option Addr} {h : Heap} {Q : Value → Heap → Prop} (s : S_draft_Draft_file_File_All B p1 h Q) : C_draft_Draft_file_File_All B p1 h Q := by
 refine zspec Tryz.func33 [ResultVar.tmp 2] rfl rfl rfl rfl rfl ?_
 refine au 2 rfl ?_
 refine zb1 s rfl rfl rfl rfl fun k3 h4 s => ?_
 refine au 7 rfl ?_
 exact zr (s.imp fun _ q => ⟨_, rfl, q⟩)
theorem C_vault_Vault_Size.of {B : RO} {p1 : Option Addr} {h : Heap} {Q : Int → Heap → Prop} (s : S_vault_Vault_Size B p1 h Q) : C_vault_Vault_Size B p1 h Q := by
 refine zspec Tryz.func34 [ResultVar.tmp 2] rfl rfl rfl rfl rfl ?_
 refine au 8 rfl ?_
 by_cases hb3 : p1 = none
 ·replace s := s.1 hb3
  refine zg rfl (sem_ptrNilT p1 (.inl rfl) true rfl rfl TF.ptr_68 hb3 rfl ?_)
  refine au 6 rfl ?_
  exact zr (s.imp fun _ q => ⟨_, rfl, q⟩)
 ·replace s := s.2 hb3
  refine zg rfl (sem_ptrNilF p1 (.inl rfl) false rfl rfl TF.ptr_68 hb3 rfl ?_)
  refine au 6 rfl ?_
  refine znil s rfl rfl fun A4 s => ?_
  refine au 1 rfl ?_
  refine zl s rfl rfl TF.agg_118 fun p6 s => ?_
  refine zcall s rfl rfl TF.goes_65 ?_
  rintro _ h7 ⟨i8, rfl, s⟩
  refine au 2 rfl ?_
  exact zr (s.imp fun _ q => ⟨_, rfl, q⟩)
theorem C_vault_Vault_Append.of {B : RO} {p1 : Option Addr} {s2 : ByteArray} {h : Heap} {Q : Int → Heap → Prop} (s : S_vault_Vault_Append B p1 s2 h Q) : C_vault_Vault_Append B p1 s2 h Q := by
 refine zspec Tryz.func35 [ResultVar.tmp 4] rfl rfl rfl rfl rfl ?_
 refine au 4 rfl ?_
 refine Run.seqJ (fun e h5 => Agree [(0, (.pointer p1)), (1, (.string s2))] e ∧ S_vault_Vault_Append_J1 B p1 s2 h5 Q) ?_ fun j4 => ?_
 ·rintro e h5 ⟨hag, s⟩
  refine Run.env hag ?_; clear hag
  refine au 1 rfl ?_
  obtain ⟨A7, e8, s⟩ := s
  obtain ⟨p11, hl, s⟩ := s
  have f12 := hl
  refine Run.drawM (fun h' => cellH B h' (Addr.add A7 1) = some (.pointer p11) ∧ True) [] ⟨[0, 1, 2, 4, 0, 16, 0, 96, 136, 511], [1023, 1022, 1021, 1019, 1023, 1007, 1023, 927, 887, 767], [0, 0, 0, 0, 0, 0, 0, 0, 0, 0], 0⟩ (.q 0 (.q 1 (.q 2 (.q 3 (.q 6 (.x 4 (.x 5 (.q 7 (.x 8 (.q 9 .nil) .no)) .no) .no)))))) TF.mixed (by kernel_rfl) ⟨f12, trivial⟩ ?_
  refine auT 1 rfl ?_
  refine zq rfl (fun _ hC => sem_nilCheck A7 (congrArg Value.pointer e8) ⟨rfl, rfl⟩) ?_
  refine auT 1 rfl ?_
  refine zq rfl (fun _ hC => sem_load1 (Addr.add A7 1) ((.pointer p11)) rfl TF.agg_118 hC.1 ⟨rfl, rfl⟩) ?_
  refine auT 1 rfl ?_
  refine ⟨zo rfl (sem_buildSliceL [(0, (.int .u8 (1)))] [(.int .u8 (1))] TF.slc_104 TF.zero_5 rfl (by decide) (by decide) rfl rfl (fun k14 hb1 hb2 h15 hb3 => ?_)), trivial⟩
  have s := s k14 hb1 hb2 h15 hb3
  obtain ⟨g16, s⟩ := s
  refine ⟨fun _ => ⟨g16, trivial⟩, ?_⟩
  refine ⟨zo rfl (sem_convW ((.slice (some ⟨k14, 0, none⟩) 1 1)) rfl (semH_mono (fun v h18 hv => ?_) s)), trivial⟩
  obtain ⟨s17, rfl, s⟩ := hv
  obtain ⟨g19, s⟩ := s
  refine ⟨fun _ => ⟨g19, trivial⟩, ?_⟩
  obtain ⟨hi0, s⟩ := s
  refine zq rfl (fun _ _ => sem_strAdd s17 s2 rfl rfl hi0 ⟨rfl, rfl⟩) ?_
  refine ⟨zo rfl (sem_callL [(.pointer p11), (.string (s17 ++ s2))] (TF.goes_58) rfl rfl (Spec.mono s fun v h20 hv => ?_)), trivial⟩
  obtain ⟨i21, rfl, s⟩ := hv
  obtain ⟨g22, s⟩ := s
  refine ⟨fun _ => ⟨g22, trivial⟩, ?_⟩
  refine auT 1 rfl ?_
  exact zr (s.imp fun _ q => ⟨_, rfl, q⟩)
 refine au 4 rfl ?_
 by_cases hb23 : p1 = none
 ·replace s := s.1 hb23
  refine zg rfl (sem_ptrNilT p1 (.inl rfl) true rfl rfl TF.ptr_68 hb23 rfl ?_)
  refine au 7 rfl ?_
  exact zr (s.imp fun _ q => ⟨_, rfl, q⟩)
 ·replace s := s.2 hb23
  refine zg rfl (sem_ptrNilF p1 (.inl rfl) false rfl rfl TF.ptr_68 hb23 rfl ?_)
  refine au 6 rfl ?_
  refine znil s rfl rfl fun A24 s => ?_
  refine au 1 rfl ?_
  refine zl s rfl rfl TF.agg_4 fun b26 s => ?_
  cases b26
  ·replace s := s.2 rfl
   refine au 8 rfl ?_
   exact zr (s.imp fun _ q => ⟨_, rfl, q⟩)
  ·replace s := s.1 rfl
   refine au 6 rfl ?_
   exact Run.of_fin (s.imp fun h' s => j4 _ _ ⟨⟨rfl, rfl, trivial⟩, s⟩)
theorem C_vault_Vault_Force.of {B : RO} {p1 : Option Addr} {h : Heap} {Q : Heap → Prop} (s : S_vault_Vault_Force B p1 h Q) : C_vault_Vault_Force B p1 h Q := by
 refine zspec Tryz.func36 [] rfl rfl rfl rfl rfl ?_
 refine au 3 rfl ?_
 by_cases hb2 : p1 = none
 ·replace s := s.1 hb2
  refine zg rfl (sem_ptrNilT p1 (.inr rfl) false rfl rfl TF.ptr_68 hb2 rfl ?_)
  refine au 3 rfl ?_
  exact zf (s.imp fun _ q => ⟨rfl, q⟩)
 ·replace s := s.2 hb2
  refine zg rfl (sem_ptrNilF p1 (.inr rfl) true rfl rfl TF.ptr_68 hb2 rfl ?_)
  refine au 4 rfl ?_
  refine znil s rfl rfl fun A3 s => ?_
  refine au 1 rfl ?_
  refine zl s rfl rfl TF.agg_118 fun p5 s => ?_
  refine zcall s rfl rfl TF.goes_57 ?_
  rintro _ h6 ⟨rfl, s⟩
  refine au 1 rfl ?_
  exact zf (s.imp fun _ q => ⟨rfl, q⟩)
theorem C_stylus_Of.of {B : RO} {s1 : ByteArray} {h : Heap} {Q : Option Addr → Heap → Prop} (s : S_stylus_Of B s1 h Q) : C_stylus_Of B s1 h Q := by
 refine zspec Tryz.func37 [ResultVar.tmp 2] rfl rfl rfl rfl rfl ?_
 refine au 7 rfl ?_
 refine zg rfl (sem_buildSL [(0, (.string s1))] [(.string s1), (.bool false)] TF.zero_144 TF.places_144 rfl rfl ?_)
 refine zbn s rfl rfl rfl fun k3 h4 s => ?_
 refine au 2 rfl ?_
 exact zr (s.imp fun _ q => ⟨_, rfl, q⟩)
theorem C_stylus_Reader_Nat.of {B : RO} {p1 : Option Addr} {i2 : Int} {h : Heap} {Q : Int → Heap → Prop} (s : S_stylus_Reader_Nat B p1 i2 h Q) : C_stylus_Reader_Nat B p1 i2 h Q := by
 refine zspec Tryz.func38 [ResultVar.tmp 4] rfl rfl rfl rfl rfl ?_
 refine au 7 rfl ?_
 refine zcall s rfl rfl TF.goes_66 ?_
 rintro _ h4 ⟨i5, rfl, s⟩
 refine au 6 rfl ?_
 refine zt s rfl rfl rfl binI_lss_t binI_lss_f (fun s => ?_) fun s => ?_
 ·refine au 11 rfl ?_
  refine zcall s rfl rfl TF.goes_67 ?_
  rintro _ h6 ⟨rfl, s⟩
  refine au 5 rfl ?_
  exact zr (s.imp fun _ q => ⟨_, rfl, q⟩)
 ·refine au 3 rfl ?_
  refine zg rfl (sem_convI .i64 .u64 (i2) rfl TF.int_3 TF.int_145 ?_)
  refine zt s rfl rfl rfl binI_gtr_t binI_gtr_f (fun s => ?_) fun s => ?_
  ·refine au 6 rfl ?_
   refine zcall s rfl rfl TF.goes_67 ?_
   rintro _ h7 ⟨rfl, s⟩
   refine au 5 rfl ?_
   exact zr (s.imp fun _ q => ⟨_, rfl, q⟩)
  ·refine au 7 rfl ?_
   refine zg rfl (sem_convI .u64 .i64 (i5) rfl TF.int_145 TF.int_3 ?_)
   refine au 2 rfl ?_
   exact zr (s.imp fun _ q => ⟨_, rfl, q⟩)
theorem C_stylus_Reader_Left.of {B : RO} {p1 : Option Addr} {h : Heap} {Q : Int → Heap → Prop} (s : S_stylus_Reader_Left B p1 h Q) : C_stylus_Reader_Left B p1 h Q := by
 refine zspec Tryz.func39 [ResultVar.tmp 2] rfl rfl rfl rfl rfl ?_
 refine au 8 rfl ?_
 by_cases hb3 : p1 = none
 ·replace s := s.1 hb3
  refine zg rfl (sem_ptrNilT p1 (.inl rfl) true rfl rfl TF.ptr_100 hb3 rfl ?_)
  refine au 6 rfl ?_
  exact zr (s.imp fun _ q => ⟨_, rfl, q⟩)
 ·replace s := s.2 hb3
  refine zg rfl (sem_ptrNilF p1 (.inl rfl) false rfl rfl TF.ptr_100 hb3 rfl ?_)
  refine au 6 rfl ?_
  refine znil s rfl rfl fun A4 s => ?_
  refine au 1 rfl ?_
  refine zl s rfl rfl TF.agg_9 fun s6 s => ?_
  refine zg rfl (sem_lenStr s6 rfl TF.isStr_9 ?_)
  refine au 2 rfl ?_
  exact zr (s.imp fun _ q => ⟨_, rfl, q⟩)
theorem C_stylus_Reader_Text.of {B : RO} {p1 : Option Addr} {i2 : Int} {h : Heap} {Q : ByteArray → Heap → Prop} (s : S_stylus_Reader_Text B p1 i2 h Q) : C_stylus_Reader_Text B p1 i2 h Q := by
 refine zspec Tryz.func40 [ResultVar.tmp 4] rfl rfl rfl rfl rfl ?_
 refine au 9 rfl ?_
 refine zcall s rfl rfl TF.goes_38 ?_
 rintro _ h4 ⟨i5, rfl, s⟩
 refine zcall s rfl rfl TF.goes_53 ?_
 rintro _ h6 ⟨s7, rfl, s⟩
 refine au 2 rfl ?_
 exact zr (s.imp fun _ q => ⟨_, rfl, q⟩)
theorem C_stylus_Reader_Bad.of {B : RO} {p1 : Option Addr} {h : Heap} {Q : Bool → Heap → Prop} (s : S_stylus_Reader_Bad B p1 h Q) : C_stylus_Reader_Bad B p1 h Q := by
 refine zspec Tryz.func41 [ResultVar.tmp 2] rfl rfl rfl rfl rfl ?_
 refine au 7 rfl ?_
 by_cases hb3 : p1 = none
 ·replace s := s.1 hb3
  refine zg rfl (sem_ptrNilT p1 (.inl rfl) true rfl rfl TF.ptr_100 hb3 rfl ?_)
  refine au 8 rfl ?_
  exact zr (s.imp fun _ q => ⟨_, rfl, q⟩)
 ·replace s := s.2 hb3
  refine zg rfl (sem_ptrNilF p1 (.inl rfl) false rfl rfl TF.ptr_100 hb3 rfl ?_)
  refine au 2 rfl ?_
  refine znil s rfl rfl fun A4 s => ?_
  refine au 1 rfl ?_
  refine zl s rfl rfl TF.agg_4 fun b6 s => ?_
  refine au 3 rfl ?_
  exact zr (s.imp fun _ q => ⟨_, rfl, q⟩)
theorem C_stylus_Stylus_Nat.of {B : RO} {p1 : Option Addr} {a2 : Option Addr} {n3 : Nat} {c4 : Nat} {h : Heap} {Q : Heap → Prop} (s : S_stylus_Stylus_Nat B p1 a2 n3 c4 h Q) : C_stylus_Stylus_Nat B p1 a2 n3 c4 h Q := by
 refine zspec Tryz.func42 [] rfl rfl rfl rfl rfl ?_
 refine au 3 rfl ?_
 refine zg rfl (sem_lenSl a2 n3 c4 rfl TF.sl_147 ?_)
 refine au 3 rfl ?_
 obtain ⟨J10, m8, h0, s⟩ := s
 refine Run.of_fin (h0.imp fun h' h0 => ?_)
 refine Run.loop (σ := Int × Nat) (fun x e h => J10 x.1 x.2 h ∧ Agree [(0, (.pointer p1)), (6, (.slice a2 n3 c4)), (7, (.int .i64 ((n3 : Nat)))), (8, (.int .i64 (x.1)))] e) (fun x => x.2) ((0), m8) ⟨h0, ⟨rfl, rfl, rfl, rfl, trivial⟩⟩ ?_; clear h0
 rintro ⟨i5, m7⟩ e h6 ⟨hJ, hag⟩ ih9
 have s := s i5 m7 h6 hJ; clear hJ
 refine Run.env hag ?_; clear hag
 refine au 2 rfl ?_
 refine zt s rfl rfl rfl binI_lss_t binI_lss_f (fun s => ?_) fun s => ?_
 ·refine au 8 rfl ?_
  obtain ⟨A11, e12, hi0, hi1, s⟩ := s
  refine zg rfl (sem_indexAddrS A11 n3 c4 .i64 (i5) (congrArg (fun a => Value.slice a n3 c4) e12) rfl TF.slc_147 hi0 hi1 ?_)
  refine zl s rfl rfl TF.agg_3 fun i13 s => ?_
  refine au 6 rfl ?_
  refine zt s rfl rfl rfl binI_lss_t binI_lss_f (fun s => ?_) fun s => ?_
  ·refine au 7 rfl ?_
   exact Run.of_fin (s.imp fun h' ⟨m', hm, s⟩ => ih9 ((IntKind.wrap .i64 ((i5) + (1))), m') _ _ ⟨s, ⟨rfl, rfl, rfl, rfl, trivial⟩⟩ hm)
  ·refine au 3 rfl ?_
   refine Run.seqJ (fun e h16 => ∃ i15 : Int, Agree [(0, (.pointer p1)), (5, (.int .i64 (i15))), (6, (.slice a2 n3 c4)), (7, (.int .i64 ((n3 : Nat)))), (8, (.int .i64 (i5)))] e ∧ S_stylus_Stylus_Nat_J1 B p1 a2 n3 c4 i5 m7 J10 i15 h16 Q) ?_ fun j14 => ?_
   ·rintro e h16 ⟨i15, hag, s⟩
    refine Run.env hag ?_; clear hag
    refine au 3 rfl ?_
    refine znil s rfl rfl fun A17 s => ?_
    refine au 1 rfl ?_
    refine Run.ldSl s fun a19 n20 c21 h22 hl s => ?_
    refine zg rfl (sem_load1 A17 ((.slice a19 n20 c21)) rfl TF.agg_104 hl ?_)
    refine au 1 rfl ?_
    refine zg rfl (sem_convI .i64 .u8 (i15) rfl TF.int_3 TF.int_5 ?_)
    refine zg rfl (sem_buildSliceL [(0, (.int .u8 (IntKind.wrap .u8 (i15))))] [(.int .u8 (IntKind.wrap .u8 (i15)))] TF.slc_104 TF.zero_5 rfl (by decide) (by decide) rfl rfl (fun k23 hb1 hb2 h24 hb3 => ?_))
    have s := s k23 hb1 hb2 h24 hb3
    refine zg rfl (sem_appendL [(.slice a19 n20 c21), (.slice (some ⟨k23, 0, none⟩) 1 1)] rfl (semH_mono (fun v h25 hv => ?_) s))
    obtain ⟨a26, n27, c28, rfl, s⟩ := hv
    refine znil s rfl rfl fun A29 s => ?_
    refine au 1 rfl ?_
    refine zs1 s rfl rfl rfl rfl TF.sz_104 fun h31 s => ?_
    refine au 6 rfl ?_
    exact Run.of_fin (s.imp fun h' ⟨m', hm, s⟩ => ih9 ((IntKind.wrap .i64 ((i5) + (1))), m') _ _ ⟨s, ⟨rfl, rfl, rfl, rfl, trivial⟩⟩ hm)
   refine au 1 rfl ?_
   obtain ⟨J37, m35, h0, s⟩ := s
   refine Run.of_fin (h0.imp fun h' h0 => ?_)
   refine Run.loop (σ := Int × Nat) (fun x e h => J37 x.1 x.2 h ∧ Agree [(0, (.pointer p1)), (5, (.int .i64 (x.1))), (6, (.slice a2 n3 c4)), (7, (.int .i64 ((n3 : Nat)))), (8, (.int .i64 (i5)))] e) (fun x => x.2) ((i13), m35) ⟨h0, ⟨rfl, rfl, rfl, rfl, rfl, trivial⟩⟩ ?_; clear h0
   rintro ⟨i32, m34⟩ e h33 ⟨hJ, hag⟩ ih36
   have s := s i32 m34 h33 hJ; clear hJ
   refine Run.env hag ?_; clear hag
   refine au 4 rfl ?_
   refine zt s rfl rfl rfl binI_geq_t binI_geq_f (fun s => ?_) fun s => ?_
   ·refine au 8 rfl ?_
    refine znil s rfl rfl fun A38 s => ?_
    refine au 1 rfl ?_
    refine Run.ldSl s fun a40 n41 c42 h43 hl s => ?_
    refine zg rfl (sem_load1 A38 ((.slice a40 n41 c42)) rfl TF.agg_104 hl ?_)
    refine au 1 rfl ?_
    refine zg rfl (sem_convI .i64 .u8 (i32) rfl TF.int_3 TF.int_5 ?_)
    refine au 1 rfl ?_
    refine zg rfl (sem_buildSliceL [(0, (.int .u8 (IntKind.wrap .u8 ((BitVec.ofInt (IntKind.bits .u8) (IntKind.wrap .u8 (i32)) ||| BitVec.ofInt (IntKind.bits .u8) (128)).toNat : Int))))] [(.int .u8 (IntKind.wrap .u8 ((BitVec.ofInt (IntKind.bits .u8) (IntKind.wrap .u8 (i32)) ||| BitVec.ofInt (IntKind.bits .u8) (128)).toNat : Int)))] TF.slc_104 TF.zero_5 rfl (by decide) (by decide) rfl rfl (fun k44 hb1 hb2 h45 hb3 => ?_))
    have s := s k44 hb1 hb2 h45 hb3
    refine zg rfl (sem_appendL [(.slice a40 n41 c42), (.slice (some ⟨k44, 0, none⟩) 1 1)] rfl (semH_mono (fun v h46 hv => ?_) s))
    obtain ⟨a47, n48, c49, rfl, s⟩ := hv
    refine znil s rfl rfl fun A50 s => ?_
    refine au 1 rfl ?_
    refine zs1 s rfl rfl rfl rfl TF.sz_104 fun h52 s => ?_
    refine au 3 rfl ?_
    obtain ⟨hi0, s⟩ := s
    refine zg rfl (sem_shr .i64 .u64 (i32) (7) rfl rfl hi0 ?_)
    refine au 3 rfl ?_
    exact Run.of_fin (s.imp fun h' ⟨m', hm, s⟩ => ih36 ((Int.fdiv (i32) (2 ^ (min (Int.toNat (7)) (IntKind.bits .i64)))), m') _ _ ⟨s, ⟨rfl, rfl, rfl, rfl, rfl, trivial⟩⟩ hm)
   ·refine au 3 rfl ?_
    exact Run.of_fin (s.imp fun h' s => j14 _ _ ⟨(i32), ⟨rfl, rfl, rfl, rfl, rfl, trivial⟩, s⟩)
 ·refine au 4 rfl ?_
  exact zf (s.imp fun _ q => ⟨rfl, q⟩)
theorem C_stylus_Stylus_Text.of {B : RO} {p1 : Option Addr} {a2 : Option Addr} {n3 : Nat} {c4 : Nat} {h : Heap} {Q : Heap → Prop} (s : S_stylus_Stylus_Text B p1 a2 n3 c4 h Q) : C_stylus_Stylus_Text B p1 a2 n3 c4 h Q := by
 refine zspec Tryz.func43 [] rfl rfl rfl rfl rfl ?_
 refine au 3 rfl ?_
 refine zg rfl (sem_lenSl a2 n3 c4 rfl TF.sl_69 ?_)
 refine au 3 rfl ?_
 obtain ⟨J10, m8, h0, s⟩ := s
 refine Run.of_fin (h0.imp fun h' h0 => ?_)
 refine Run.loop (σ := Int × Nat) (fun x e h => J10 x.1 x.2 h ∧ Agree [(0, (.pointer p1)), (6, (.slice a2 n3 c4)), (7, (.int .i64 ((n3 : Nat)))), (8, (.int .i64 (x.1)))] e) (fun x => x.2) ((0), m8) ⟨h0, ⟨rfl, rfl, rfl, rfl, trivial⟩⟩ ?_; clear h0
 rintro ⟨i5, m7⟩ e h6 ⟨hJ, hag⟩ ih9
 have s := s i5 m7 h6 hJ; clear hJ
 refine Run.env hag ?_; clear hag
 refine au 2 rfl ?_
 refine zt s rfl rfl rfl binI_lss_t binI_lss_f (fun s => ?_) fun s => ?_
 ·refine au 8 rfl ?_
  obtain ⟨A11, e12, hi0, hi1, s⟩ := s
  refine zg rfl (sem_indexAddrS A11 n3 c4 .i64 (i5) (congrArg (fun a => Value.slice a n3 c4) e12) rfl TF.slc_69 hi0 hi1 ?_)
  refine zl s rfl rfl TF.agg_9 fun s13 s => ?_
  refine au 6 rfl ?_
  refine zg rfl (sem_lenStr s13 rfl TF.isStr_9 ?_)
  refine zg rfl (sem_buildSliceL [(0, (.int .i64 ((ByteArray.size s13 : Nat))))] [(.int .i64 ((ByteArray.size s13 : Nat)))] TF.slc_147 TF.zero_3 rfl (by decide) (by decide) rfl rfl (fun k14 hb1 hb2 h15 hb3 => ?_))
  have s := s k14 hb1 hb2 h15 hb3
  refine zcall s rfl rfl TF.goes_42 ?_
  rintro _ h16 ⟨rfl, s⟩
  refine au 4 rfl ?_
  refine zcall s rfl rfl TF.goes_54 ?_
  rintro _ h17 ⟨rfl, s⟩
  refine au 6 rfl ?_
  exact Run.of_fin (s.imp fun h' ⟨m', hm, s⟩ => ih9 ((IntKind.wrap .i64 ((i5) + (1))), m') _ _ ⟨s, ⟨rfl, rfl, rfl, rfl, trivial⟩⟩ hm)
 ·refine au 4 rfl ?_
  exact zf (s.imp fun _ q => ⟨rfl, q⟩)
theorem C_stylus_Stylus_Bytes.of {B : RO} {p1 : Option Addr} {h : Heap} {Q : ByteArray → Heap → Prop} (s : S_stylus_Stylus_Bytes B p1 h Q) : C_stylus_Stylus_Bytes B p1 h Q := by
 refine zspec Tryz.func44 [ResultVar.tmp 2] rfl rfl rfl rfl rfl ?_
 refine au 7 rfl ?_
 refine znil s rfl rfl fun A3 s => ?_
 refine au 1 rfl ?_
 refine Run.ldSl s fun a5 n6 c7 h8 hl s => ?_
 refine zg rfl (sem_load1 A3 ((.slice a5 n6 c7)) rfl TF.agg_104 hl ?_)
 refine zg rfl (sem_convW ((.slice a5 n6 c7)) rfl (semH_mono (fun v h10 hv => ?_) s))
 obtain ⟨s9, rfl, s⟩ := hv
 refine au 2 rfl ?_
 exact zr (s.imp fun _ q => ⟨_, rfl, q⟩)
theorem C_tome_Tome_Set.of {B : RO} {p1 : Option Addr} {i2 : Int} {b3 : Bool} {s4 : ByteArray} {i5 : Int} {h : Heap} {Q : Bool → Heap → Prop} (s : S_tome_Tome_Set B p1 i2 b3 s4 i5 h Q) : C_tome_Tome_Set B p1 i2 b3 s4 i5 h Q := by
 refine zspec Tryz.func45 [ResultVar.tmp 8] rfl rfl rfl rfl rfl ?_
 refine au 2 rfl ?_
 refine zbn s rfl rfl rfl fun k7 h8 s => ?_
 refine au 3 rfl ?_
 by_cases hb10 : p1 = none
 ·replace s := s.1 hb10
  refine Run.drawM (fun h' => True) [] ⟨[0, 1, 2, 4, 12, 20, 48, 64, 192, 320, 576, 64, 64, 64, 15424, 16448, 65535], [131071, 131070, 131069, 131067, 131059, 131051, 131039, 131007, 130879, 130751, 130495, 131007, 131007, 131007, 115647, 114623, 98303], [0, 0, 0, 0, 0, 0, 0, 0, 0, 0, 0, 0, 0, 0, 0, 0, 0], 0⟩ (.q 0 (.q 1 (.q 2 (.q 3 (.x 4 (.q 5 (.q 6 (.q 7 (.q 8 (.q 9 (.q 11 (.q 13 (.x 10 (.x 12 (.x 14 (.q 15 (.q 16 .nil)) .no) .no) (.x 12 (.x 10 (.x 14 (.q 15 (.q 16 .nil)) .no) .no) .no))))))))) .no))))) TF.mixed (by kernel_rfl) trivial ?_
  refine auT 1 rfl ?_
  refine zq rfl (fun _ hC => sem_ptrNilT p1 (.inr rfl) false rfl rfl TF.ptr_44 hb10 rfl ⟨rfl, rfl⟩) ?_
  refine auT 2 rfl ?_
  refine ⟨zon rfl ⟨fun _ => trivial, ?_⟩, trivial⟩
  refine auT 7 rfl ?_
  refine RunT.joinJ (t := (.x 14 (.q 15 (.q 16 .nil)) .no)) (fun e h14 => Agree [(8, (.bool false)), (15, (.bool false))] e ∧ S_tome_Tome_Set_J1 B h14 Q) ?_ fun j13 => ?_
  ·rintro e h14 ⟨hag, s⟩
   refine RunT.env hag ?_; clear hag
   refine ⟨zon rfl ⟨fun _ => trivial, ?_⟩, trivial⟩
   refine auT 2 rfl ?_
   exact zr (s.imp fun _ q => ⟨_, rfl, q⟩)
  refine ⟨?_, ?_, trivial⟩
  ·have s := s.1
   refine zon rfl ⟨fun _ => trivial, ?_⟩
   refine ⟨zon rfl ⟨fun _ => trivial, ?_⟩, trivial⟩
   exact j13 _ _ ⟨⟨rfl, rfl, trivial⟩, s⟩
  ·have s := s.2
   refine zon rfl ⟨fun _ => trivial, ?_⟩
   refine ⟨zon rfl ⟨fun _ => trivial, ?_⟩, trivial⟩
   exact j13 _ _ ⟨⟨rfl, rfl, trivial⟩, s⟩
 ·replace s := s.2 hb10
  obtain ⟨b17, s18, hl, s⟩ := s
  have f19 := hl
  refine Run.drawM (fun h' => CellsAt B h' ⟨k7, 0, none⟩ 0 [(.bool b17), (.string s18)] ∧ True) [] ⟨[0, 1, 2, 4, 12, 20, 48, 64, 192, 320, 576, 64, 64, 64, 15424, 16448, 65535], [131071, 131070, 131069, 131067, 131059, 131051, 131039, 131007, 130879, 130751, 130495, 131007, 131007, 131007, 115647, 114623, 98303], [0, 0, 0, 0, 0, 0, 0, 0, 0, 0, 0, 0, 0, 0, 0, 0, 0], 0⟩ (.q 0 (.q 1 (.q 2 (.q 3 (.x 4 (.q 5 (.q 6 (.q 7 (.q 8 (.q 9 (.q 11 (.q 13 (.x 10 (.x 12 (.x 14 (.q 15 (.q 16 .nil)) .no) .no) (.x 12 (.x 10 (.x 14 (.q 15 (.q 16 .nil)) .no) .no) .no))))))))) .no))))) TF.mixed (by kernel_rfl) ⟨f19, trivial⟩ ?_
  refine auT 1 rfl ?_
  refine zq rfl (fun _ hC => sem_ptrNilF p1 (.inr rfl) true rfl rfl TF.ptr_44 hb10 rfl ⟨rfl, rfl⟩) ?_
  refine auT 1 rfl ?_
  refine zq rfl (fun _ hC => sem_loadN ⟨k7, 0, none⟩ [(.bool b17), (.string s18)] rfl TF.agg_90 TF.sz_90 hC.1 ⟨rfl, rfl⟩) ?_
  refine ⟨zo rfl (sem_callL [(.agg #[(.bool b17), (.string s18)])] (TF.goes_31) rfl rfl (Spec.mono s fun v h20 hv => ?_)), trivial⟩
  obtain ⟨b21, rfl, s⟩ := hv
  cases b21
  ·replace s := s.2 rfl
   obtain ⟨g22, s⟩ := s
   refine ⟨fun _ => ⟨g22, trivial⟩, ?_⟩
   refine auT 7 rfl ?_
   refine RunT.joinJ (t := (.x 14 (.q 15 (.q 16 .nil)) .no)) (fun e h24 => Agree [(8, (.bool false)), (15, (.bool false))] e ∧ CellsAt B h24 ⟨k7, 0, none⟩ 0 [(.bool b17), (.string s18)] ∧ S_tome_Tome_Set_J2 B k7 b17 s18 h24 Q) ?_ fun j23 => ?_
   ·rintro e h24 ⟨hag, g25, s⟩
    refine RunT.env hag ?_; clear hag
    refine ⟨zon rfl ⟨fun _ => ⟨g25, trivial⟩, ?_⟩, trivial⟩
    refine auT 2 rfl ?_
    exact zr (s.imp fun _ q => ⟨_, rfl, q⟩)
   refine ⟨?_, ?_, trivial⟩
   ·have s := s.1
    refine zon rfl ⟨fun _ => ⟨g22, trivial⟩, ?_⟩
    refine ⟨zon rfl ⟨fun _ => ⟨g22, trivial⟩, ?_⟩, trivial⟩
    exact j23 _ _ ⟨⟨rfl, rfl, trivial⟩, g22, s⟩
   ·have s := s.2
    refine zon rfl ⟨fun _ => ⟨g22, trivial⟩, ?_⟩
    refine ⟨zon rfl ⟨fun _ => ⟨g22, trivial⟩, ?_⟩, trivial⟩
    exact j23 _ _ ⟨⟨rfl, rfl, trivial⟩, g22, s⟩
  ·replace s := s.1 rfl
   obtain ⟨g26, s⟩ := s
   refine ⟨fun _ => ⟨g26, trivial⟩, ?_⟩
   refine auT 3 rfl ?_
   obtain ⟨A27, e28, s⟩ := s
   refine zq rfl (fun _ _ => sem_nilCheck A27 (congrArg Value.pointer e28) ⟨rfl, rfl⟩) ?_
   refine auT 3 rfl ?_
   refine RunT.joinJ (t := (.x 14 (.q 15 (.q 16 .nil)) .no)) (fun e h39 => ∃ p36 : Option Addr, ∃ b37 : Bool, ∃ s38 : ByteArray, Agree [(8, (.bool false)), (15, (.bool true)), (19, (.pointer p36)), (20, (.int .i64 (i2))), (21, (.agg #[(.bool b37), (.string s38)])), (22, (.int .i64 (i5)))] e ∧ CellsAt B h39 ⟨k7, 0, none⟩ 0 [(.bool b17), (.string s18)] ∧ S_tome_Tome_Set_J3 B i2 i5 k7 b17 s18 p36 b37 s38 h39 Q) ?_ fun j35 => ?_
   ·rintro e h39 ⟨p36, b37, s38, hag, g40, s⟩
    refine RunT.env hag ?_; clear hag
    refine ⟨zo rfl (sem_callL [(.pointer p36), (.int .i64 (i2)), (.agg #[(.bool b37), (.string s38)]), (.int .i64 (i5))] (TF.goes_68) rfl rfl (Spec.mono s fun v h41 hv => ?_)), trivial⟩
    obtain ⟨b42, rfl, s⟩ := hv
    obtain ⟨g43, s⟩ := s
    refine ⟨fun _ => ⟨g43, trivial⟩, ?_⟩
    refine auT 2 rfl ?_
    exact zr (s.imp fun _ q => ⟨_, rfl, q⟩)
   refine ⟨?_, ?_, trivial⟩
   ·have s := s.1
    obtain ⟨p44, hl, s⟩ := s
    refine zo rfl (sem_load1 A27 ((.pointer p44)) rfl TF.agg_149 hl ?_)
    refine ⟨fun _ => ⟨g26, trivial⟩, ?_⟩
    obtain ⟨b45, s46, hl, s⟩ := s
    refine ⟨zo rfl (sem_loadN ⟨k7, 0, none⟩ [(.bool b45), (.string s46)] rfl TF.agg_90 TF.sz_90 hl ?_), trivial⟩
    refine ⟨fun _ => ⟨g26, trivial⟩, ?_⟩
    exact j35 _ _ ⟨p44, (b45), s46, ⟨rfl, rfl, rfl, rfl, rfl, rfl, trivial⟩, g26, s⟩
   ·have s := s.2
    obtain ⟨b47, s48, hl, s⟩ := s
    refine zo rfl (sem_loadN ⟨k7, 0, none⟩ [(.bool b47), (.string s48)] rfl TF.agg_90 TF.sz_90 hl ?_)
    refine ⟨fun _ => ⟨g26, trivial⟩, ?_⟩
    obtain ⟨p49, hl, s⟩ := s
    refine ⟨zo rfl (sem_load1 A27 ((.pointer p49)) rfl TF.agg_149 hl ?_), trivial⟩
    refine ⟨fun _ => ⟨g26, trivial⟩, ?_⟩
    exact j35 _ _ ⟨p49, (b47), s48, ⟨rfl, rfl, rfl, rfl, rfl, rfl, trivial⟩, g26, s⟩
theorem C_disk_Disk_land.of {B : RO} {p1 : Option Addr} {i2 : Int} {b3 : Bool} {s4 : ByteArray} {h : Heap} {Q : Heap → Prop} (s : S_disk_Disk_land B p1 i2 b3 s4 h Q) : C_disk_Disk_land B p1 i2 b3 s4 h Q := by
 refine zspec Tryz.func46 [] rfl rfl rfl rfl rfl ?_
 refine au 2 rfl ?_
 refine zbn s rfl rfl rfl fun k5 h6 s => ?_
 refine au 4 rfl ?_
 refine zl s rfl rfl TF.agg_4 fun b7 s => ?_
 cases b7
 ·replace s := s.2 rfl
  refine au 2 rfl ?_
  refine Run.drawM (fun h' => h' = h6) [15] ⟨[0, 0, 2, 1, 8, 20, 32, 64, 0, 256, 640, 1, 2048, 6143, 10239, 18431], [65535, 65535, 65533, 65534, 65527, 65515, 65503, 65471, 65535, 65279, 64895, 65534, 63487, 61435, 57343, 48127], [0, 0, 2, 1, 9, 31, 63, 127, 0, 256, 1023, 1, 2049, 8191, 16383, 32767], 32768⟩ (.q 0 (.q 1 (.q 2 (.q 3 (.q 4 (.q 5 (.q 6 (.q 7 (.q 8 (.q 9 (.q 10 (.q 11 (.q 12 (.q 13 (.q 14 (.x 15 .nil .no)))))))))))))))) TF.mixed (by kernel_rfl) rfl ?_
  refine auT 2 rfl ?_
  obtain ⟨i8, hl, s⟩ := s
  refine zqe rfl (sem_load1 ⟨k5, 0, none⟩ ((.int .i64 (i8))) rfl TF.agg_3 hl ⟨rfl, rfl⟩) ?_
  obtain ⟨A9, e10, s⟩ := s
  refine zqe rfl (sem_nilCheck A9 (congrArg Value.pointer e10) ⟨rfl, rfl⟩) ?_
  refine auT 1 rfl ?_
  obtain ⟨hi0, hi1, s⟩ := s
  refine zqe rfl (sem_indexAddrA A9 .i64 (i8) rfl rfl TF.arr_64 hi0 hi1 ⟨rfl, rfl⟩) ?_
  refine auT 1 rfl ?_
  obtain ⟨s11, hl, s⟩ := s
  refine zqe rfl (sem_load1 (Addr.add (Addr.add A9 (Int.toNat (i8) * 2)) 1) ((.string s11)) rfl TF.agg_9 hl ⟨rfl, rfl⟩) ?_
  refine auT 1 rfl ?_
  obtain ⟨s12, hl, s⟩ := s
  refine zqe rfl (sem_load1 ⟨k5, 2, none⟩ ((.string s12)) rfl TF.agg_9 hl ⟨rfl, rfl⟩) ?_
  obtain ⟨hi0, s⟩ := s
  refine zqe rfl (sem_strAdd s11 s12 rfl rfl hi0 ⟨rfl, rfl⟩) ?_
  obtain ⟨A13, e14, s⟩ := s
  refine zqe rfl (sem_nilCheck A13 (congrArg Value.pointer e14) ⟨rfl, rfl⟩) ?_
  refine auT 1 rfl ?_
  obtain ⟨hi0, hi1, s⟩ := s
  refine zqe rfl (sem_indexAddrA A13 .i64 (i8) rfl rfl TF.arr_64 hi0 hi1 ⟨rfl, rfl⟩) ?_
  refine auT 1 rfl ?_
  obtain ⟨h15, hst, s⟩ := s
  refine ⟨zo0 rfl (sem_store1 (Addr.add (Addr.add A13 (Int.toNat (i8) * 2)) 1) ((.string (s11 ++ s12))) h15 rfl rfl rfl TF.sz_9 hst ?_), trivial⟩
  refine ⟨fun hz => Bool.noConfusion hz, ?_⟩
  exact zf (s.imp fun _ q => ⟨rfl, q⟩)
 ·replace s := s.1 rfl
  refine au 2 rfl ?_
  refine Run.drawM (fun h' => h' = h6) [7] ⟨[0, 0, 2, 1, 8, 23, 39, 71], [255, 255, 253, 254, 247, 235, 223, 191], [0, 0, 2, 1, 9, 31, 63, 127], 128⟩ (.q 0 (.q 1 (.q 2 (.q 3 (.q 4 (.q 5 (.q 6 (.x 7 .nil .no)))))))) TF.mixed (by kernel_rfl) rfl ?_
  refine auT 2 rfl ?_
  obtain ⟨i16, hl, s⟩ := s
  refine zqe rfl (sem_load1 ⟨k5, 0, none⟩ ((.int .i64 (i16))) rfl TF.agg_3 hl ⟨rfl, rfl⟩) ?_
  obtain ⟨A17, e18, s⟩ := s
  refine zqe rfl (sem_nilCheck A17 (congrArg Value.pointer e18) ⟨rfl, rfl⟩) ?_
  refine auT 1 rfl ?_
  obtain ⟨hi0, hi1, s⟩ := s
  refine zqe rfl (sem_indexAddrA A17 .i64 (i16) rfl rfl TF.arr_64 hi0 hi1 ⟨rfl, rfl⟩) ?_
  refine auT 1 rfl ?_
  obtain ⟨h19, hst, s⟩ := s
  refine ⟨zo0 rfl (sem_store1 (Addr.add (Addr.add A17 (Int.toNat (i16) * 2)) 1) ((.string (ByteArray.mk #[]))) h19 rfl rfl rfl TF.sz_9 hst ?_), trivial⟩
  refine ⟨fun hz => Bool.noConfusion hz, ?_⟩
  exact zf (s.imp fun _ q => ⟨rfl, q⟩)
theorem C_tome_Tome_Get.of {B : RO} {p1 : Option Addr} {i2 : Int} {h : Heap} {Q : Bool → ByteArray → Int → Heap → Prop} (s : S_tome_Tome_Get B p1 i2 h Q) : C_tome_Tome_Get B p1 i2 h Q := by
 refine zspec Tryz.func47 [ResultVar.cell 4 90, ResultVar.tmp 5] rfl rfl rfl rfl rfl ?_
 refine au 2 rfl ?_
 refine zal s rfl TF.zero_90 rfl fun k6 h7 s => ?_
 refine au 6 rfl ?_
 by_cases hb8 : p1 = none
 ·replace s := s.1 hb8
  refine zg rfl (sem_ptrNilT p1 (.inl rfl) true rfl rfl TF.ptr_44 hb8 rfl ?_)
  refine au 4 rfl ?_
  refine zg rfl (sem_buildSL [] [(.bool false), (.string ByteArray.empty)] TF.zero_90 TF.places_90 rfl rfl ?_)
  refine zsn s rfl rfl rfl TF.sz_90 rfl fun h9 s => ?_
  refine au 2 rfl ?_
  obtain ⟨b10, s11, hl0, s⟩ := s
  exact zr (⟨⟨k6, 0, none⟩, (.agg #[(.bool b10), (.string s11)]), rfl, loadHN TF.agg_90 TF.sz_90 hl0, s.imp fun _ q => ⟨_, _, _, rfl, q⟩⟩)
 ·replace s := s.2 hb8
  refine zg rfl (sem_ptrNilF p1 (.inl rfl) false rfl rfl TF.ptr_44 hb8 rfl ?_)
  refine au 6 rfl ?_
  refine znil s rfl rfl fun A12 s => ?_
  refine au 1 rfl ?_
  refine zl s rfl rfl TF.agg_149 fun p14 s => ?_
  refine au 1 rfl ?_
  refine zcall s rfl rfl TF.goes_69 ?_
  rintro _ h15 ⟨b16, s17, i18, rfl, s⟩
  refine au 2 rfl ?_
  refine zsn s rfl rfl rfl TF.sz_90 rfl fun h19 s => ?_
  refine au 2 rfl ?_
  obtain ⟨b20, s21, hl0, s⟩ := s
  exact zr (⟨⟨k6, 0, none⟩, (.agg #[(.bool b20), (.string s21)]), rfl, loadHN TF.agg_90 TF.sz_90 hl0, s.imp fun _ q => ⟨_, _, _, rfl, q⟩⟩)
theorem C_disk_good.of {B : RO} {i1 : Int} {h : Heap} {Q : Bool → Heap → Prop} (s : S_disk_good B i1 h Q) : C_disk_good B i1 h Q := by
 refine zspec Tryz.func48 [ResultVar.tmp 2] rfl rfl rfl rfl rfl ?_
 refine au 7 rfl ?_
 refine zt s rfl rfl rfl binI_eql_t binI_eql_f (fun s => ?_) fun s => ?_
 ·refine au 6 rfl ?_
  exact zr (s.imp fun _ q => ⟨_, rfl, q⟩)
 ·refine au 6 rfl ?_
  exact zr (s.imp fun _ q => ⟨_, rfl, q⟩)
theorem C_wal_Open.of {B : RO} {p1 : Option Addr} {i2 : Int} {h : Heap} {Q : Option Addr → Int → Heap → Prop} (s : S_wal_Open B p1 i2 h Q) : C_wal_Open B p1 i2 h Q := by
 refine zspec Tryz.func49 [ResultVar.tmp 4, ResultVar.tmp 5] rfl rfl rfl rfl rfl ?_
 refine au 5 rfl ?_
 refine Run.seqJ (fun e h6 => Agree [(0, (.pointer p1)), (1, (.int .i64 (i2)))] e ∧ S_wal_Open_J1 B p1 i2 h6 Q) ?_ fun j5 => ?_
 ·rintro e h6 ⟨hag, s⟩
  refine Run.env hag ?_; clear hag
  refine au 4 rfl ?_
  refine zcall s rfl rfl TF.goes_20 ?_
  rintro _ h7 ⟨s8, rfl, s⟩
  refine au 5 rfl ?_
  refine zcall s rfl rfl TF.goes_70 ?_
  rintro _ h9 ⟨i10, rfl, s⟩
  refine au 9 rfl ?_
  refine zg rfl (sem_lenStr s8 rfl TF.isStr_9 ?_)
  refine au 1 rfl ?_
  refine zg rfl (sem_buildSL [(0, (.pointer p1)), (1, (.int .i64 (i2))), (2, (.int .i64 (i10))), (3, (.bool (decide ((i10 : Int) < ((ByteArray.size s8 : Nat))))))] [(.pointer p1), (.int .i64 (i2)), (.int .i64 (i10)), (.bool (decide ((i10 : Int) < ((ByteArray.size s8 : Nat)))))] TF.zero_154 TF.places_154 rfl rfl ?_)
  refine zbn s rfl rfl rfl fun k11 h12 s => ?_
  refine au 3 rfl ?_
  exact zr (s.imp fun _ q => ⟨_, _, rfl, q⟩)
 refine au 4 rfl ?_
 by_cases hb13 : p1 = none
 ·replace s := s.1 hb13
  refine zg rfl (sem_ptrNilT p1 (.inl rfl) true rfl rfl TF.ptr_25 hb13 rfl ?_)
  refine au 8 rfl ?_
  exact zr (s.imp fun _ q => ⟨_, _, rfl, q⟩)
 ·replace s := s.2 hb13
  refine zg rfl (sem_ptrNilF p1 (.inl rfl) false rfl rfl TF.ptr_25 hb13 rfl ?_)
  refine au 6 rfl ?_
  refine zu s rfl rfl rfl binI_neq_t binI_neq_f (fun s => ?_) fun s => ?_
  ·refine au 9 rfl ?_
   exact Run.of_fin (s.imp fun h' s => j5 _ _ ⟨⟨rfl, rfl, trivial⟩, s⟩)
  ·refine au 2 rfl ?_
   refine zu s rfl rfl rfl binI_neq_t binI_neq_f (fun s => ?_) fun s => ?_
   ·refine au 6 rfl ?_
    exact Run.of_fin (s.imp fun h' s => j5 _ _ ⟨⟨rfl, rfl, trivial⟩, s⟩)
   ·refine au 9 rfl ?_
    exact zr (s.imp fun _ q => ⟨_, _, rfl, q⟩)
theorem C_vault_look.of {B : RO} {p1 : Option Addr} {h : Heap} {Q : Int → ByteArray → Option Addr → Nat → Nat → Heap → Prop} (s : S_vault_look B p1 h Q) : C_vault_look B p1 h Q := by
 refine zspec Tryz.func50 [ResultVar.cell 2 3, ResultVar.cell 3 71] rfl rfl rfl rfl rfl ?_
 refine au 2 rfl ?_
 refine zal s rfl TF.zero_3 rfl fun k7 h8 s => ?_
 refine zal s rfl TF.zero_71 rfl fun k9 h10 s => ?_
 refine au 3 rfl ?_
 refine zal s rfl TF.zero_71 rfl fun k11 h12 s => ?_
 refine au 3 rfl ?_
 refine zal s rfl TF.zero_3 rfl fun k13 h14 s => ?_
 refine zal s rfl TF.zero_3 rfl fun k15 h16 s => ?_
 refine zs1 s rfl rfl rfl rfl TF.sz_3 fun h17 s => ?_
 refine zs1 s rfl rfl rfl rfl TF.sz_3 fun h18 s => ?_
 refine au 5 rfl ?_
 refine zcall s rfl rfl TF.goes_71 ?_
 rintro v20 h19 ⟨_, rfl, s⟩
 refine au 2 rfl ?_
 obtain ⟨xs26, G22, J25, hit, hins, hG, h0, s, hR⟩ := s
 refine Run.of_fin (h0.imp fun h' h0 => ?_)
 refine Run.range (v20) (xs26.map (fun x : ByteArray => [(.string x)])) G22 J25 rfl hit hins hG h0 rfl (fun a ha => by obtain ⟨x, _, rfl⟩ := List.mem_map.1 ha; rfl) ?_ ?_
 ·rintro q24 args h23 ha hJ
  obtain ⟨s21, hx, rfl⟩ := Option.map_eq_some_iff.1 ((List.getElem?_map ..).symm.trans ha)
  have s := s q24 h23 s21 hx hJ; clear hJ hx ha
  refine zput rfl ?_
  refine au 3 rfl ?_
  refine Run.begin ⟨rfl, ?_⟩
  refine au 4 rfl ?_
  refine zl s rfl rfl TF.agg_3 fun i27 s => ?_
  refine au 1 rfl ?_
  refine zs1 s rfl rfl rfl rfl TF.sz_3 fun h28 s => ?_
  refine au 3 rfl ?_
  refine zl s rfl rfl TF.agg_3 fun i29 s => ?_
  refine zt s rfl rfl rfl binI_eql_t binI_eql_f (fun s => ?_) fun s => ?_
  ·refine au 5 rfl ?_
   refine zcall s rfl rfl TF.goes_72 ?_
   rintro _ h30 ⟨i31, s32, b33, rfl, s⟩
   refine au 3 rfl ?_
   cases b33
   ·replace s := s.2 rfl
    refine au 1 rfl ?_
    refine au 13 rfl ?_
    refine zg rfl (sem_buildSL [] [(.string ByteArray.empty), (.slice none 0 0)] TF.zero_71 TF.places_71 rfl rfl ?_)
    refine zs1 s rfl rfl rfl rfl TF.sz_3 fun h34 s => ?_
    refine zsn s rfl rfl rfl TF.sz_71 rfl fun h35 s => ?_
    refine au 1 rfl ?_
    refine Run.ret (.inr ⟨_, rfl, ?_⟩)
    obtain ⟨i36, hl0, s⟩ := s
    obtain ⟨s37, a38, n39, c40, hl1, s⟩ := s
    exact zr (⟨⟨k7, 0, none⟩, (.int .i64 (i36)), rfl, loadH1 TF.agg_3 hl0, ⟨⟨k9, 0, none⟩, (.agg #[(.string s37), (.slice a38 n39 c40)]), rfl, loadHN TF.agg_71 TF.sz_71 hl1, s.imp fun _ q => ⟨_, _, _, _, _, rfl, q⟩⟩⟩)
   ·replace s := s.1 rfl
    refine au 1 rfl ?_
    refine au 16 rfl ?_
    refine zs1 s rfl rfl rfl rfl TF.sz_3 fun h41 s => ?_
    refine au 1 rfl ?_
    refine zs1 s rfl rfl rfl rfl TF.sz_9 fun h42 s => ?_
    refine au 2 rfl ?_
    refine Run.of_fin (s.imp fun h' s => ?_)
    exact Run.fall (.inl ⟨rfl, s⟩)
  ·refine au 3 rfl ?_
   refine Run.seqJ (fun e h44 => Agree [(4, (.pointer (some ⟨k11, 0, none⟩))), (7, (.string s21))] e ∧ S_vault_look_J1 B k11 s21 q24 J25 h44 Q) ?_ fun j43 => ?_
   ·rintro e h44 ⟨hag, s⟩
    refine Run.env hag ?_; clear hag
    obtain ⟨a46, n47, c48, hl, s⟩ := s
    have f49 := hl
    obtain ⟨hi0, hi1, hi2, s⟩ := s
    have f52 := hi0; have f53 := hi1; have f54 := hi2
    refine Run.drawM (fun h' => cellH B h' ⟨k11, 1, none⟩ = some (.slice a46 n47 c48) ∧ True) [7] ⟨[0, 1, 0, 4, 8, 18, 63, 127], [255, 254, 255, 251, 247, 237, 255, 159], [0, 1, 0, 4, 12, 31, 63, 127], 128⟩ (.q 0 (.q 1 (.q 2 (.q 3 (.x 4 (.x 5 (.q 6 (.x 7 .nil .no)) .no) .no))))) TF.mixed (by kernel_rfl) ⟨f49, trivial⟩ ?_
    refine auT 1 rfl ?_
    refine zq rfl (fun _ hC => sem_load1 ⟨k11, 1, none⟩ ((.slice a46 n47 c48)) rfl TF.agg_69 hC.1 ⟨rfl, rfl⟩) ?_
    refine auT 1 rfl ?_
    refine zq rfl (fun _ hC => sem_sliceStrI s21 (1) ((ByteArray.size s21 : Nat)) rfl TF.isStr_9 ⟨_, rfl⟩ rfl f52 f53 f54 ⟨rfl, rfl⟩) ?_
    refine ⟨zo rfl (sem_buildSliceL [(0, (.string (ByteArray.extract s21 (Int.toNat (1)) (Int.toNat ((ByteArray.size s21 : Nat))))))] [(.string (ByteArray.extract s21 (Int.toNat (1)) (Int.toNat ((ByteArray.size s21 : Nat)))))] TF.slc_69 TF.zero_9 rfl (by decide) (by decide) rfl rfl (fun k55 hb1 hb2 h56 hb3 => ?_)), trivial⟩
    have s := s k55 hb1 hb2 h56 hb3
    obtain ⟨g57, s⟩ := s
    refine ⟨fun _ => ⟨g57, trivial⟩, ?_⟩
    refine ⟨zo rfl (sem_appendL [(.slice a46 n47 c48), (.slice (some ⟨k55, 0, none⟩) 1 1)] rfl (semH_mono (fun v h58 hv => ?_) s)), trivial⟩
    obtain ⟨a59, n60, c61, rfl, s⟩ := hv
    obtain ⟨g62, s⟩ := s
    refine ⟨fun _ => ⟨g62, trivial⟩, ?_⟩
    refine auT 1 rfl ?_
    obtain ⟨h63, hst, s⟩ := s
    refine ⟨zo0 rfl (sem_store1 ⟨k11, 1, none⟩ ((.slice a59 n60 c61)) h63 rfl rfl rfl TF.sz_69 hst ?_), trivial⟩
    refine ⟨fun hz => Bool.noConfusion hz, ?_⟩
    refine au 1 rfl ?_
    refine Run.of_fin (s.imp fun h' s => ?_)
    exact Run.fall (.inl ⟨rfl, s⟩)
   refine au 3 rfl ?_
   by_cases hb64 : s21 = (ByteArray.mk #[])
   ·replace s := s.1 hb64
    refine zg rfl (sem_strEqT s21 (ByteArray.mk #[]) rfl rfl hb64 ?_)
    refine au 7 rfl ?_
    refine Run.out rfl (.inr ⟨_, rfl, ?_⟩)
    refine au 2 rfl ?_
    obtain ⟨i65, hl, s⟩ := s
    have f66 := hl
    obtain ⟨s67, a68, n69, c70, hl, s⟩ := s
    have f71 := hl
    refine Run.drawM (fun h' => cellH B h' ⟨k13, 0, none⟩ = some (.int .i64 (i65)) ∧ CellsAt B h' ⟨k11, 0, none⟩ 0 [(.string s67), (.slice a68 n69 c70)] ∧ True) [3] ⟨[0, 0, 1, 7], [15, 15, 14, 13], [0, 0, 1, 7], 8⟩ (.q 0 (.q 1 (.x 2 (.x 3 .nil .no) .no))) TF.mixed (by kernel_rfl) ⟨f66, f71, trivial⟩ ?_
    refine zq rfl (fun _ hC => sem_load1 ⟨k13, 0, none⟩ ((.int .i64 (i65))) rfl TF.agg_3 hC.1 ⟨rfl, rfl⟩) ?_
    refine zq rfl (fun _ hC => sem_loadN ⟨k11, 0, none⟩ [(.string s67), (.slice a68 n69 c70)] rfl TF.agg_71 TF.sz_71 hC.2.1 ⟨rfl, rfl⟩) ?_
    obtain ⟨h72, hst, s⟩ := s
    refine ⟨zo0 rfl (sem_store1 ⟨k7, 0, none⟩ ((.int .i64 (i65))) h72 rfl rfl rfl TF.sz_3 hst ?_), trivial⟩
    obtain ⟨g73, g74, s⟩ := s
    refine ⟨fun _ => ⟨g73, g74, trivial⟩, ?_⟩
    obtain ⟨h75, hst, s⟩ := s
    refine ⟨zo0 rfl (sem_storeN ⟨k9, 0, none⟩ [(.string s67), (.slice a68 n69 c70)] h75 rfl rfl TF.sz_71 hst ?_), trivial⟩
    refine ⟨fun hz => Bool.noConfusion hz, ?_⟩
    obtain ⟨i76, hl0, s⟩ := s
    obtain ⟨s77, a78, n79, c80, hl1, s⟩ := s
    exact zr (⟨⟨k7, 0, none⟩, (.int .i64 (i76)), rfl, loadH1 TF.agg_3 hl0, ⟨⟨k9, 0, none⟩, (.agg #[(.string s77), (.slice a78 n79 c80)]), rfl, loadHN TF.agg_71 TF.sz_71 hl1, s.imp fun _ q => ⟨_, _, _, _, _, rfl, q⟩⟩⟩)
   ·replace s := s.2 hb64
    refine zg rfl (sem_strEqF s21 (ByteArray.mk #[]) rfl rfl hb64 ?_)
    refine au 2 rfl ?_
    obtain ⟨hi0, hi1, s⟩ := s
    refine zg rfl (sem_indexStr' s21 .i64 (0) rfl rfl TF.isStr_9 hi0 hi1 ?_)
    refine zu s rfl rfl rfl binI_neq_t binI_neq_f (fun s => ?_) fun s => ?_
    ·refine au 4 rfl ?_
     exact Run.of_fin (s.imp fun h' s => j43 _ _ ⟨⟨rfl, rfl, trivial⟩, s⟩)
    ·refine au 3 rfl ?_
     refine Run.out rfl (.inr ⟨_, rfl, ?_⟩)
     refine au 2 rfl ?_
     obtain ⟨i81, hl, s⟩ := s
     have f82 := hl
     obtain ⟨s83, a84, n85, c86, hl, s⟩ := s
     have f87 := hl
     refine Run.drawM (fun h' => cellH B h' ⟨k13, 0, none⟩ = some (.int .i64 (i81)) ∧ CellsAt B h' ⟨k11, 0, none⟩ 0 [(.string s83), (.slice a84 n85 c86)] ∧ True) [3] ⟨[0, 0, 1, 7], [15, 15, 14, 13], [0, 0, 1, 7], 8⟩ (.q 0 (.q 1 (.x 2 (.x 3 .nil .no) .no))) TF.mixed (by kernel_rfl) ⟨f82, f87, trivial⟩ ?_
     refine zq rfl (fun _ hC => sem_load1 ⟨k13, 0, none⟩ ((.int .i64 (i81))) rfl TF.agg_3 hC.1 ⟨rfl, rfl⟩) ?_
     refine zq rfl (fun _ hC => sem_loadN ⟨k11, 0, none⟩ [(.string s83), (.slice a84 n85 c86)] rfl TF.agg_71 TF.sz_71 hC.2.1 ⟨rfl, rfl⟩) ?_
     obtain ⟨h88, hst, s⟩ := s
     refine ⟨zo0 rfl (sem_store1 ⟨k7, 0, none⟩ ((.int .i64 (i81))) h88 rfl rfl rfl TF.sz_3 hst ?_), trivial⟩
     obtain ⟨g89, g90, s⟩ := s
     refine ⟨fun _ => ⟨g89, g90, trivial⟩, ?_⟩
     obtain ⟨h91, hst, s⟩ := s
     refine ⟨zo0 rfl (sem_storeN ⟨k9, 0, none⟩ [(.string s83), (.slice a84 n85 c86)] h91 rfl rfl TF.sz_71 hst ?_), trivial⟩
     refine ⟨fun hz => Bool.noConfusion hz, ?_⟩
     obtain ⟨i92, hl0, s⟩ := s
     obtain ⟨s93, a94, n95, c96, hl1, s⟩ := s
     exact zr (⟨⟨k7, 0, none⟩, (.int .i64 (i92)), rfl, loadH1 TF.agg_3 hl0, ⟨⟨k9, 0, none⟩, (.agg #[(.string s93), (.slice a94 n95 c96)]), rfl, loadHN TF.agg_71 TF.sz_71 hl1, s.imp fun _ q => ⟨_, _, _, _, _, rfl, q⟩⟩⟩)
 ·intro h23 hJ
  have s := hR h23 (by simpa using hJ); clear hJ hR
  refine au 2 rfl ?_
  obtain ⟨i97, hl, s⟩ := s
  have f98 := hl
  obtain ⟨s99, a100, n101, c102, hl, s⟩ := s
  have f103 := hl
  refine Run.drawM (fun h' => cellH B h' ⟨k13, 0, none⟩ = some (.int .i64 (i97)) ∧ CellsAt B h' ⟨k11, 0, none⟩ 0 [(.string s99), (.slice a100 n101 c102)] ∧ True) [3] ⟨[0, 0, 1, 7], [15, 15, 14, 13], [0, 0, 1, 7], 8⟩ (.q 0 (.q 1 (.x 2 (.x 3 .nil .no) .no))) TF.mixed (by kernel_rfl) ⟨f98, f103, trivial⟩ ?_
  refine zq rfl (fun _ hC => sem_load1 ⟨k13, 0, none⟩ ((.int .i64 (i97))) rfl TF.agg_3 hC.1 ⟨rfl, rfl⟩) ?_
  refine zq rfl (fun _ hC => sem_loadN ⟨k11, 0, none⟩ [(.string s99), (.slice a100 n101 c102)] rfl TF.agg_71 TF.sz_71 hC.2.1 ⟨rfl, rfl⟩) ?_
  obtain ⟨h104, hst, s⟩ := s
  refine ⟨zo0 rfl (sem_store1 ⟨k7, 0, none⟩ ((.int .i64 (i97))) h104 rfl rfl rfl TF.sz_3 hst ?_), trivial⟩
  obtain ⟨g105, g106, s⟩ := s
  refine ⟨fun _ => ⟨g105, g106, trivial⟩, ?_⟩
  obtain ⟨h107, hst, s⟩ := s
  refine ⟨zo0 rfl (sem_storeN ⟨k9, 0, none⟩ [(.string s99), (.slice a100 n101 c102)] h107 rfl rfl TF.sz_71 hst ?_), trivial⟩
  refine ⟨fun hz => Bool.noConfusion hz, ?_⟩
  obtain ⟨i108, hl0, s⟩ := s
  obtain ⟨s109, a110, n111, c112, hl1, s⟩ := s
  exact zr (⟨⟨k7, 0, none⟩, (.int .i64 (i108)), rfl, loadH1 TF.agg_3 hl0, ⟨⟨k9, 0, none⟩, (.agg #[(.string s109), (.slice a110 n111 c112)]), rfl, loadHN TF.agg_71 TF.sz_71 hl1, s.imp fun _ q => ⟨_, _, _, _, _, rfl, q⟩⟩⟩)
theorem C_tome_New.of {B : RO} {h : Heap} {Q : Option Addr → Heap → Prop} (s : S_tome_New B h Q) : C_tome_New B h Q := by
 refine zspec Tryz.func51 [ResultVar.tmp 0] rfl rfl rfl rfl rfl ?_
 refine au 6 rfl ?_
 refine zg rfl (sem_buildSL [] [(.bool false), (.string ByteArray.empty)] TF.zero_90 TF.places_90 rfl rfl ?_)
 refine zcall s rfl rfl TF.goes_73 ?_
 rintro _ h2 ⟨p3, rfl, s⟩
 refine zg rfl (sem_buildSL [(0, (.pointer p3))] [(.pointer p3)] TF.zero_151 TF.places_151 rfl rfl ?_)
 refine zbn s rfl rfl rfl fun k4 h5 s => ?_
 refine au 2 rfl ?_
 exact zr (s.imp fun _ q => ⟨_, rfl, q⟩)
theorem C_tome_Read.of {B : RO} {s1 : ByteArray} {h : Heap} {Q : Option Addr → Bool → Heap → Prop} (s : S_tome_Read B s1 h Q) : C_tome_Read B s1 h Q := by
 refine zspec Tryz.func52 [ResultVar.tmp 2, ResultVar.tmp 3] rfl rfl rfl rfl rfl ?_
 refine au 7 rfl ?_
 refine zcall s rfl rfl TF.goes_51 ?_
 rintro _ h4 ⟨p5, rfl, s⟩
 refine au 5 rfl ?_
 refine zcall s rfl rfl TF.goes_37 ?_
 rintro _ h6 ⟨p7, rfl, s⟩
 refine au 8 rfl ?_
 obtain ⟨J13, m11, h0, s⟩ := s
 refine Run.of_fin (h0.imp fun h' h0 => ?_)
 refine Run.loop (σ := Int × Nat) (fun x e h => J13 x.1 x.2 h ∧ Agree [(4, (.pointer p5)), (5, (.pointer p7)), (6, (.int .i64 (x.1)))] e) (fun x => x.2) (((-1)), m11) ⟨h0, ⟨rfl, rfl, rfl, trivial⟩⟩ ?_; clear h0
 rintro ⟨i8, m10⟩ e h9 ⟨hJ, hag⟩ ih12
 have s := s i8 m10 h9 hJ; clear hJ
 refine Run.env hag ?_; clear hag
 refine au 4 rfl ?_
 refine zcall s rfl rfl TF.goes_39 ?_
 rintro _ h14 ⟨i15, rfl, s⟩
 refine zt s rfl rfl rfl binI_gtr_t binI_gtr_f (fun s => ?_) fun s => ?_
 ·refine au 7 rfl ?_
  refine zcall s rfl rfl TF.goes_38 ?_
  rintro _ h16 ⟨i17, rfl, s⟩
  refine au 5 rfl ?_
  refine zcall s rfl rfl TF.goes_40 ?_
  rintro _ h18 ⟨s19, rfl, s⟩
  refine au 2 rfl ?_
  refine Run.seqJ (fun e h21 => Agree [(4, (.pointer p5)), (5, (.pointer p7)), (7, (.int .i64 (i17))), (8, (.string s19))] e ∧ S_tome_Read_J1 B p5 p7 m10 J13 i17 s19 h21 Q) ?_ fun j20 => ?_
  ·rintro e h21 ⟨hag, s⟩
   refine Run.env hag ?_; clear hag
   refine au 5 rfl ?_
   refine zg rfl (sem_buildSL [(0, (.bool true)), (1, (.string s19))] [(.bool true), (.string s19)] TF.zero_90 TF.places_90 rfl rfl ?_)
   refine zcall s rfl rfl TF.goes_45 ?_
   rintro _ h22 ⟨b23, rfl, s⟩
   refine au 6 rfl ?_
   exact Run.of_fin (s.imp fun h' ⟨m', hm, s⟩ => ih12 ((i17), m') _ _ ⟨s, ⟨rfl, rfl, rfl, trivial⟩⟩ hm)
  refine au 3 rfl ?_
  refine zcall s rfl rfl TF.goes_41 ?_
  rintro _ h24 ⟨b25, rfl, s⟩
  cases b25
  ·replace s := s.2 rfl
   refine au 3 rfl ?_
   refine zt s rfl rfl rfl binI_leq_t binI_leq_f (fun s => ?_) fun s => ?_
   ·refine au 8 rfl ?_
    exact zr (s.imp fun _ q => ⟨_, _, rfl, q⟩)
   ·refine au 4 rfl ?_
    exact Run.of_fin (s.imp fun h' s => j20 _ _ ⟨⟨rfl, rfl, rfl, rfl, trivial⟩, s⟩)
  ·replace s := s.1 rfl
   refine au 12 rfl ?_
   exact zr (s.imp fun _ q => ⟨_, _, rfl, q⟩)
 ·refine au 9 rfl ?_
  exact zr (s.imp fun _ q => ⟨_, _, rfl, q⟩)
theorem C_stylus_Reader_Raw.of {B : RO} {p1 : Option Addr} {i2 : Int} {h : Heap} {Q : ByteArray → Heap → Prop} (s : S_stylus_Reader_Raw B p1 i2 h Q) : C_stylus_Reader_Raw B p1 i2 h Q := by
 refine zspec Tryz.func53 [ResultVar.tmp 4] rfl rfl rfl rfl rfl ?_
 refine au 4 rfl ?_
 refine Run.seqJ (fun e h5 => Agree [(0, (.pointer p1)), (1, (.int .i64 (i2)))] e ∧ S_stylus_Reader_Raw_J1 B p1 i2 h5 Q) ?_ fun j4 => ?_
 ·rintro e h5 ⟨hag, s⟩
  refine Run.env hag ?_; clear hag
  refine au 3 rfl ?_
  refine znil s rfl rfl fun A6 s => ?_
  refine au 1 rfl ?_
  refine zl s rfl rfl TF.agg_9 fun s8 s => ?_
  refine au 1 rfl ?_
  obtain ⟨hi0, hi1, hi2, s⟩ := s
  refine zg rfl (sem_sliceStrI s8 (0) (i2) rfl TF.isStr_9 rfl ⟨_, rfl⟩ hi0 hi1 hi2 ?_)
  refine au 6 rfl ?_
  refine znil s rfl rfl fun A9 s => ?_
  refine au 1 rfl ?_
  refine zl s rfl rfl TF.agg_9 fun s11 s => ?_
  refine au 1 rfl ?_
  obtain ⟨hi0, hi1, hi2, s⟩ := s
  refine zg rfl (sem_sliceStrI s11 (i2) ((ByteArray.size s11 : Nat)) rfl TF.isStr_9 ⟨_, rfl⟩ rfl hi0 hi1 hi2 ?_)
  refine znil s rfl rfl fun A12 s => ?_
  refine au 1 rfl ?_
  refine zs1 s rfl rfl rfl rfl TF.sz_9 fun h14 s => ?_
  refine au 6 rfl ?_
  exact zr (s.imp fun _ q => ⟨_, rfl, q⟩)
 refine au 3 rfl ?_
 by_cases hb15 : p1 = none
 ·replace s := s.1 hb15
  refine zg rfl (sem_ptrNilT p1 (.inl rfl) true rfl rfl TF.ptr_100 hb15 rfl ?_)
  refine au 24 rfl ?_
  refine zcall s rfl rfl TF.goes_67 ?_
  rintro _ h16 ⟨rfl, s⟩
  refine au 5 rfl ?_
  exact zr (s.imp fun _ q => ⟨_, rfl, q⟩)
 ·replace s := s.2 hb15
  refine zg rfl (sem_ptrNilF p1 (.inl rfl) false rfl rfl TF.ptr_100 hb15 rfl ?_)
  refine au 2 rfl ?_
  refine znil s rfl rfl fun A17 s => ?_
  refine au 1 rfl ?_
  refine zl s rfl rfl TF.agg_4 fun b19 s => ?_
  cases b19
  ·replace s := s.2 rfl
   refine au 3 rfl ?_
   refine zt s rfl rfl rfl binI_lss_t binI_lss_f (fun s => ?_) fun s => ?_
   ·refine au 15 rfl ?_
    refine zcall s rfl rfl TF.goes_67 ?_
    rintro _ h20 ⟨rfl, s⟩
    refine au 5 rfl ?_
    exact zr (s.imp fun _ q => ⟨_, rfl, q⟩)
   ·refine au 4 rfl ?_
    refine znil s rfl rfl fun A21 s => ?_
    refine au 1 rfl ?_
    refine zl s rfl rfl TF.agg_9 fun s23 s => ?_
    refine zg rfl (sem_lenStr s23 rfl TF.isStr_9 ?_)
    refine zt s rfl rfl rfl binI_gtr_t binI_gtr_f (fun s => ?_) fun s => ?_
    ·refine au 6 rfl ?_
     refine zcall s rfl rfl TF.goes_67 ?_
     rintro _ h24 ⟨rfl, s⟩
     refine au 5 rfl ?_
     exact zr (s.imp fun _ q => ⟨_, rfl, q⟩)
    ·refine au 4 rfl ?_
     exact Run.of_fin (s.imp fun h' s => j4 _ _ ⟨⟨rfl, rfl, trivial⟩, s⟩)
  ·replace s := s.1 rfl
   refine au 19 rfl ?_
   refine zcall s rfl rfl TF.goes_67 ?_
   rintro _ h25 ⟨rfl, s⟩
   refine au 5 rfl ?_
   exact zr (s.imp fun _ q => ⟨_, rfl, q⟩)
theorem C_stylus_Stylus_Raw.of {B : RO} {p1 : Option Addr} {s2 : ByteArray} {h : Heap} {Q : Heap → Prop} (s : S_stylus_Stylus_Raw B p1 s2 h Q) : C_stylus_Stylus_Raw B p1 s2 h Q := by
 refine zspec Tryz.func54 [] rfl rfl rfl rfl rfl ?_
 refine au 3 rfl ?_
 refine znil s rfl rfl fun A3 s => ?_
 refine au 1 rfl ?_
 refine Run.ldSl s fun a5 n6 c7 h8 hl s => ?_
 refine zg rfl (sem_load1 A3 ((.slice a5 n6 c7)) rfl TF.agg_104 hl ?_)
 refine au 1 rfl ?_
 refine zg rfl (sem_appendL [(.slice a5 n6 c7), (.string s2)] rfl (semH_mono (fun v h9 hv => ?_) s))
 obtain ⟨a10, n11, c12, rfl, s⟩ := hv
 refine znil s rfl rfl fun A13 s => ?_
 refine au 1 rfl ?_
 refine zs1 s rfl rfl rfl rfl TF.sz_104 fun h15 s => ?_
 refine au 1 rfl ?_
 exact zf (s.imp fun _ q => ⟨rfl, q⟩)
theorem C_wal_Log_Area.of {B : RO} {p1 : Option Addr} {h : Heap} {Q : Int → Heap → Prop} (s : S_wal_Log_Area B p1 h Q) : C_wal_Log_Area B p1 h Q := by
 refine zspec Tryz.func55 [ResultVar.tmp 2] rfl rfl rfl rfl rfl ?_
 refine au 8 rfl ?_
 by_cases hb3 : p1 = none
 ·replace s := s.1 hb3
  refine zg rfl (sem_ptrNilT p1 (.inl rfl) true rfl rfl TF.ptr_118 hb3 rfl ?_)
  refine au 6 rfl ?_
  exact zr (s.imp fun _ q => ⟨_, rfl, q⟩)
 ·replace s := s.2 hb3
  refine zg rfl (sem_ptrNilF p1 (.inl rfl) false rfl rfl TF.ptr_118 hb3 rfl ?_)
  refine au 6 rfl ?_
  refine znil s rfl rfl fun A4 s => ?_
  refine au 1 rfl ?_
  refine zl s rfl rfl TF.agg_3 fun i6 s => ?_
  refine au 2 rfl ?_
  exact zr (s.imp fun _ q => ⟨_, rfl, q⟩)
theorem C_wal_Log_Clear.of {B : RO} {p1 : Option Addr} {h : Heap} {Q : Heap → Prop} (s : S_wal_Log_Clear B p1 h Q) : C_wal_Log_Clear B p1 h Q := by
 refine zspec Tryz.func56 [] rfl rfl rfl rfl rfl ?_
 refine au 3 rfl ?_
 by_cases hb2 : p1 = none
 ·replace s := s.1 hb2
  refine zg rfl (sem_ptrNilT p1 (.inr rfl) false rfl rfl TF.ptr_118 hb2 rfl ?_)
  refine au 3 rfl ?_
  exact zf (s.imp fun _ q => ⟨rfl, q⟩)
 ·replace s := s.2 hb2
  refine zg rfl (sem_ptrNilF p1 (.inr rfl) true rfl rfl TF.ptr_118 hb2 rfl ?_)
  refine au 3 rfl ?_
  refine Run.drawM (fun h' => h' = h) [8] ⟨[0, 1, 2, 4, 0, 16, 32, 64, 136], [511, 510, 509, 507, 511, 495, 479, 447, 375], [0, 1, 3, 7, 0, 16, 48, 112, 255], 256⟩ (.q 0 (.q 1 (.q 2 (.q 3 (.q 4 (.q 5 (.q 6 (.q 7 (.x 8 .nil .no))))))))) TF.mixed (by kernel_rfl) rfl ?_
  refine auT 1 rfl ?_
  obtain ⟨A3, e4, s⟩ := s
  refine zqe rfl (sem_nilCheck A3 (congrArg Value.pointer e4) ⟨rfl, rfl⟩) ?_
  refine auT 1 rfl ?_
  obtain ⟨p5, hl, s⟩ := s
  refine zqe rfl (sem_load1 A3 ((.pointer p5)) rfl TF.agg_25 hl ⟨rfl, rfl⟩) ?_
  refine auT 1 rfl ?_
  obtain ⟨A6, e7, s⟩ := s
  refine zqe rfl (sem_nilCheck A6 (congrArg Value.pointer e7) ⟨rfl, rfl⟩) ?_
  refine auT 1 rfl ?_
  obtain ⟨i8, hl, s⟩ := s
  refine zqe rfl (sem_load1 (Addr.add A6 1) ((.int .i64 (i8))) rfl TF.agg_3 hl ⟨rfl, rfl⟩) ?_
  refine ⟨zo rfl (sem_callL [(.pointer p5), (.int .i64 (i8))] (TF.goes_74) rfl rfl (Spec.mono s fun v h9 hv => ?_)), trivial⟩
  obtain ⟨i10, rfl, s⟩ := hv
  refine ⟨fun hz => Bool.noConfusion hz, ?_⟩
  refine au 3 rfl ?_
  refine znil s rfl rfl fun A11 s => ?_
  refine au 1 rfl ?_
  refine zs1 s rfl rfl rfl rfl TF.sz_3 fun h13 s => ?_
  refine znil s rfl rfl fun A14 s => ?_
  refine au 1 rfl ?_
  refine zs1 s rfl rfl rfl rfl TF.sz_4 fun h16 s => ?_
  refine au 1 rfl ?_
  exact zf (s.imp fun _ q => ⟨rfl, q⟩)
theorem C_wal_Log_Force.of {B : RO} {p1 : Option Addr} {h : Heap} {Q : Heap → Prop} (s : S_wal_Log_Force B p1 h Q) : C_wal_Log_Force B p1 h Q := by
 refine zspec Tryz.func57 [] rfl rfl rfl rfl rfl ?_
 refine au 3 rfl ?_
 by_cases hb2 : p1 = none
 ·replace s := s.1 hb2
  refine zg rfl (sem_ptrNilT p1 (.inr rfl) false rfl rfl TF.ptr_118 hb2 rfl ?_)
  refine au 3 rfl ?_
  exact zf (s.imp fun _ q => ⟨rfl, q⟩)
 ·replace s := s.2 hb2
  refine zg rfl (sem_ptrNilF p1 (.inr rfl) true rfl rfl TF.ptr_118 hb2 rfl ?_)
  refine au 4 rfl ?_
  refine znil s rfl rfl fun A3 s => ?_
  refine au 1 rfl ?_
  refine zl s rfl rfl TF.agg_25 fun p5 s => ?_
  refine zcall s rfl rfl TF.goes_75 ?_
  rintro _ h6 ⟨rfl, s⟩
  refine au 1 rfl ?_
  exact zf (s.imp fun _ q => ⟨rfl, q⟩)
theorem C_wal_Log_Append.of {B : RO} {p1 : Option Addr} {s2 : ByteArray} {h : Heap} {Q : Int → Heap → Prop} (s : S_wal_Log_Append B p1 s2 h Q) : C_wal_Log_Append B p1 s2 h Q := by
 refine zspec Tryz.func58 [ResultVar.tmp 4] rfl rfl rfl rfl rfl ?_
 refine au 4 rfl ?_
 refine Run.seqJ (fun e h5 => Agree [(0, (.pointer p1)), (1, (.string s2))] e ∧ S_wal_Log_Append_J1 B p1 s2 h5 Q) ?_ fun j4 => ?_
 ·rintro e h5 ⟨hag, s⟩
  refine Run.env hag ?_; clear hag
  refine au 3 rfl ?_
  refine zcall s rfl rfl TF.goes_76 ?_
  rintro _ h6 ⟨s7, rfl, s⟩
  refine au 4 rfl ?_
  obtain ⟨A9, e10, s⟩ := s
  obtain ⟨p13, hl, s⟩ := s
  have f14 := hl
  obtain ⟨A16, e17, s⟩ := s
  obtain ⟨i20, hl, s⟩ := s
  have f21 := hl
  refine Run.drawM (fun h' => cellH B h' A9 = some (.pointer p13) ∧ cellH B h' (Addr.add A16 1) = some (.int .i64 (i20)) ∧ True) [] ⟨[0, 1, 2, 4, 0, 16, 32, 64, 0, 392, 1023], [2047, 2046, 2045, 2043, 2047, 2031, 2015, 1983, 2047, 1655, 1535], [0, 0, 0, 0, 0, 0, 0, 0, 0, 0, 0], 0⟩ (.q 0 (.q 1 (.q 2 (.q 3 (.q 4 (.q 5 (.q 6 (.q 7 (.q 8 (.x 9 (.q 10 .nil) .no)))))))))) TF.mixed (by kernel_rfl) ⟨f14, f21, trivial⟩ ?_
  refine auT 1 rfl ?_
  refine zq rfl (fun _ hC => sem_nilCheck A9 (congrArg Value.pointer e10) ⟨rfl, rfl⟩) ?_
  refine auT 1 rfl ?_
  refine zq rfl (fun _ hC => sem_load1 A9 ((.pointer p13)) rfl TF.agg_25 hC.1 ⟨rfl, rfl⟩) ?_
  refine auT 1 rfl ?_
  refine zq rfl (fun _ hC => sem_nilCheck A16 (congrArg Value.pointer e17) ⟨rfl, rfl⟩) ?_
  refine auT 1 rfl ?_
  refine zq rfl (fun _ hC => sem_load1 (Addr.add A16 1) ((.int .i64 (i20))) rfl TF.agg_3 hC.2.1 ⟨rfl, rfl⟩) ?_
  refine auT 1 rfl ?_
  refine ⟨zo rfl (sem_callL [(.pointer p13), (.int .i64 (i20)), (.string s7)] (TF.goes_77) rfl rfl (Spec.mono s fun v h23 hv => ?_)), trivial⟩
  obtain ⟨i24, rfl, s⟩ := hv
  obtain ⟨g25, g26, s⟩ := s
  refine ⟨fun _ => ⟨g25, g26, trivial⟩, ?_⟩
  refine auT 1 rfl ?_
  refine au 3 rfl ?_
  refine zu s rfl rfl rfl binI_neq_t binI_neq_f (fun s => ?_) fun s => ?_
  ·refine au 6 rfl ?_
   refine znil s rfl rfl fun A27 s => ?_
   refine au 1 rfl ?_
   refine zl s rfl rfl TF.agg_3 fun i29 s => ?_
   refine au 1 rfl ?_
   refine zg rfl (sem_lenStr s7 rfl TF.isStr_9 ?_)
   refine au 1 rfl ?_
   refine znil s rfl rfl fun A30 s => ?_
   refine au 1 rfl ?_
   refine zs1 s rfl rfl rfl rfl TF.sz_3 fun h32 s => ?_
   refine au 5 rfl ?_
   exact zr (s.imp fun _ q => ⟨_, rfl, q⟩)
  ·refine au 7 rfl ?_
   exact zr (s.imp fun _ q => ⟨_, rfl, q⟩)
 refine au 4 rfl ?_
 by_cases hb33 : p1 = none
 ·replace s := s.1 hb33
  refine zg rfl (sem_ptrNilT p1 (.inl rfl) true rfl rfl TF.ptr_118 hb33 rfl ?_)
  refine au 7 rfl ?_
  exact zr (s.imp fun _ q => ⟨_, rfl, q⟩)
 ·replace s := s.2 hb33
  refine zg rfl (sem_ptrNilF p1 (.inl rfl) false rfl rfl TF.ptr_118 hb33 rfl ?_)
  refine au 6 rfl ?_
  refine zg rfl (sem_lenStr s2 rfl TF.isStr_9 ?_)
  refine zt s rfl rfl rfl binI_gtr_t binI_gtr_f (fun s => ?_) fun s => ?_
  ·refine au 7 rfl ?_
   exact zr (s.imp fun _ q => ⟨_, rfl, q⟩)
  ·refine au 6 rfl ?_
   refine znil s rfl rfl fun A34 s => ?_
   refine au 1 rfl ?_
   refine zl s rfl rfl TF.agg_4 fun b36 s => ?_
   cases b36
   ·replace s := s.2 rfl
    refine au 5 rfl ?_
    exact Run.of_fin (s.imp fun h' s => j4 _ _ ⟨⟨rfl, rfl, trivial⟩, s⟩)
   ·replace s := s.1 rfl
    refine au 7 rfl ?_
    exact zr (s.imp fun _ q => ⟨_, rfl, q⟩)
theorem C_tome_Tome_Bytes.of {B : RO} {p1 : Option Addr} {h : Heap} {Q : ByteArray → Heap → Prop} (s : S_tome_Tome_Bytes B p1 h Q) : C_tome_Tome_Bytes B p1 h Q := by
 refine zspec Tryz.func59 [ResultVar.tmp 2] rfl rfl rfl rfl rfl ?_
 refine au 6 rfl ?_
 refine zg rfl (sem_buildSL [] [(.slice none 0 0)] TF.zero_106 TF.places_106 rfl rfl ?_)
 refine zbn s rfl rfl rfl fun k3 h4 s => ?_
 refine zal s rfl TF.zero_103 rfl fun k5 h6 s => ?_
 refine zs1 s rfl rfl rfl rfl TF.sz_103 fun h7 s => ?_
 refine au 5 rfl ?_
 refine zcall s rfl rfl TF.goes_78 ?_
 rintro v9 h8 ⟨_, rfl, s⟩
 refine au 2 rfl ?_
 obtain ⟨xs17, G13, J16, hit, hins, hG, h0, s, hR⟩ := s
 refine Run.of_fin (h0.imp fun h' h0 => ?_)
 refine Run.range (v9) (xs17.map (fun x : Int × Bool × ByteArray => [(.int .i64 (x.1)), (.agg #[(.bool x.2.1), (.string x.2.2)])])) G13 J16 rfl hit hins hG h0 rfl (fun a ha => by obtain ⟨x, _, rfl⟩ := List.mem_map.1 ha; rfl) ?_ ?_
 ·rintro q15 args h14 ha hJ
  obtain ⟨⟨i10, b11, s12⟩, hx, rfl⟩ := Option.map_eq_some_iff.1 ((List.getElem?_map ..).symm.trans ha)
  have s := s q15 h14 i10 b11 s12 hx hJ; clear hJ hx ha
  refine zput rfl ?_
  refine au 5 rfl ?_
  refine zal s rfl TF.zero_90 rfl fun k18 h19 s => ?_
  refine zsn s rfl rfl rfl TF.sz_90 rfl fun h20 s => ?_
  refine au 1 rfl ?_
  refine Run.begin ⟨rfl, ?_⟩
  refine au 3 rfl ?_
  refine zl s rfl rfl TF.agg_103 fun p21 s => ?_
  refine au 1 rfl ?_
  refine zg rfl (sem_buildSliceL [(0, (.int .i64 (i10)))] [(.int .i64 (i10))] TF.slc_147 TF.zero_3 rfl (by decide) (by decide) rfl rfl (fun k22 hb1 hb2 h23 hb3 => ?_))
  have s := s k22 hb1 hb2 h23 hb3
  refine zcall s rfl rfl TF.goes_42 ?_
  rintro _ h24 ⟨rfl, s⟩
  refine au 2 rfl ?_
  refine zl s rfl rfl TF.agg_103 fun p25 s => ?_
  refine au 1 rfl ?_
  refine zl s rfl rfl TF.agg_9 fun s26 s => ?_
  refine zg rfl (sem_buildSliceL [(0, (.string s26))] [(.string s26)] TF.slc_69 TF.zero_9 rfl (by decide) (by decide) rfl rfl (fun k27 hb1 hb2 h28 hb3 => ?_))
  have s := s k27 hb1 hb2 h28 hb3
  refine zcall s rfl rfl TF.goes_43 ?_
  rintro _ h29 ⟨rfl, s⟩
  refine au 2 rfl ?_
  refine Run.of_fin (s.imp fun h' s => ?_)
  exact Run.fall (.inl ⟨rfl, s⟩)
 ·intro h14 hJ
  have s := hR h14 (by simpa using hJ); clear hJ hR
  refine au 3 rfl ?_
  refine zl s rfl rfl TF.agg_103 fun p30 s => ?_
  refine zcall s rfl rfl TF.goes_44 ?_
  rintro _ h31 ⟨s32, rfl, s⟩
  refine au 2 rfl ?_
  exact zr (s.imp fun _ q => ⟨_, rfl, q⟩)
theorem C_cell_New_int.of {B : RO} {i1 : Int} {i2 : Int} {h : Heap} {Q : Option Addr → Heap → Prop} (s : S_cell_New_int B i1 i2 h Q) : C_cell_New_int B i1 i2 h Q := by
 refine zspec Tryz.func60 [ResultVar.tmp 4] rfl rfl rfl rfl rfl ?_
 refine au 6 rfl ?_
 refine zg rfl (sem_buildSL [] [(.slice none 0 0)] TF.zero_166 TF.places_166 rfl rfl ?_)
 refine zbn s rfl rfl rfl fun k4 h5 s => ?_
 refine au 9 rfl ?_
 obtain ⟨J11, m9, h0, s⟩ := s
 refine Run.of_fin (h0.imp fun h' h0 => ?_)
 refine Run.loop (σ := Int × Nat) (fun x e h => J11 x.1 x.2 h ∧ Agree [(1, (.int .i64 (i2))), (5, (.pointer (some ⟨k4, 0, none⟩))), (8, (.int .i64 (i1))), (9, (.int .i64 (x.1)))] e) (fun x => x.2) ((0), m9) ⟨h0, ⟨rfl, rfl, rfl, rfl, trivial⟩⟩ ?_; clear h0
 rintro ⟨i6, m8⟩ e h7 ⟨hJ, hag⟩ ih10
 have s := s i6 m8 h7 hJ; clear hJ
 refine Run.env hag ?_; clear hag
 refine au 2 rfl ?_
 refine zt s rfl rfl rfl binI_lss_t binI_lss_f (fun s => ?_) fun s => ?_
 ·refine au 11 rfl ?_
  refine Run.ldSl s fun a12 n13 c14 h15 hl s => ?_
  refine zg rfl (sem_load1 ⟨k4, 0, none⟩ ((.slice a12 n13 c14)) rfl TF.agg_164 hl ?_)
  refine au 1 rfl ?_
  refine zg rfl (sem_buildSL [(0, (.int .i64 (i2)))] [(.int .i64 (i2)), (.int .i64 (0))] TF.zero_168 TF.places_168 rfl rfl ?_)
  refine zg rfl (sem_buildSliceL [(0, (.agg #[(.int .i64 (i2)), (.int .i64 (0))]))] [(.int .i64 (i2)), (.int .i64 (0))] TF.slc_164 TF.zero_168 rfl (by decide) (by decide) rfl rfl (fun k16 hb1 hb2 h17 hb3 => ?_))
  have s := s k16 hb1 hb2 h17 hb3
  refine zg rfl (sem_appendL [(.slice a12 n13 c14), (.slice (some ⟨k16, 0, none⟩) 1 1)] rfl (semH_mono (fun v h18 hv => ?_) s))
  obtain ⟨a19, n20, c21, rfl, s⟩ := hv
  refine au 2 rfl ?_
  refine zs1 s rfl rfl rfl rfl TF.sz_164 fun h22 s => ?_
  refine au 6 rfl ?_
  exact Run.of_fin (s.imp fun h' ⟨m', hm, s⟩ => ih10 ((IntKind.wrap .i64 ((i6) + (1))), m') _ _ ⟨s, ⟨rfl, rfl, rfl, rfl, trivial⟩⟩ hm)
 ·refine au 9 rfl ?_
  exact zr (s.imp fun _ q => ⟨_, rfl, q⟩)
theorem C_feed_New.of {B : RO} {h : Heap} {Q : Option Addr → Heap → Prop} (s : S_feed_New B h Q) : C_feed_New B h Q := by
 refine zspec Tryz.func61 [ResultVar.tmp 0] rfl rfl rfl rfl rfl ?_
 refine au 6 rfl ?_
 refine zcall s rfl rfl TF.goes_60 ?_
 rintro _ h2 ⟨p3, rfl, s⟩
 refine zg rfl (sem_buildSL [(1, (.pointer p3))] [(.string ByteArray.empty), (.string ByteArray.empty), (.string ByteArray.empty), (.pointer p3)] TF.zero_171 TF.places_171 rfl rfl ?_)
 refine zbn s rfl rfl rfl fun k4 h5 s => ?_
 refine au 2 rfl ?_
 exact zr (s.imp fun _ q => ⟨_, rfl, q⟩)
theorem C_draft_Draft_file_File_find.of {B : RO} {p1 : Option Addr} {i2 : Int} {h : Heap} {Q : Int → Bool → Heap → Prop} (s : S_draft_Draft_file_File_find B p1 i2 h Q) : C_draft_Draft_file_File_find B p1 i2 h Q := by
 refine zspec Tryz.func62 [ResultVar.tmp 4, ResultVar.tmp 5] rfl rfl rfl rfl rfl ?_
 refine au 8 rfl ?_
 refine znil s rfl rfl fun A5 s => ?_
 refine au 1 rfl ?_
 refine Run.ldSl s fun a7 n8 c9 h10 hl s => ?_
 refine zg rfl (sem_load1 A5 ((.slice a7 n8 c9)) rfl TF.agg_87 hl ?_)
 refine au 1 rfl ?_
 refine zcall s rfl rfl TF.goes_79 ?_
 rintro _ h11 ⟨i12, b13, rfl, s⟩
 refine au 5 rfl ?_
 exact zr (s.imp fun _ q => ⟨_, _, rfl, q⟩)
theorem C_slices_Insert_s_draft_entry_file_File_draft_entry_file_File.of {B : RO} {a1 : Option Addr} {n2 : Nat} {c3 : Nat} {i4 : Int} {a5 : Option Addr} {n6 : Nat} {c7 : Nat} {h : Heap} {Q : Option Addr → Nat → Nat → Heap → Prop} (s : S_slices_Insert_s_draft_entry_file_File_draft_entry_file_File B a1 n2 c3 i4 a5 n6 c7 h Q) : C_slices_Insert_s_draft_entry_file_File_draft_entry_file_File B a1 n2 c3 i4 a5 n6 c7 h Q := by
 refine zspec Tryz.func63 [ResultVar.tmp 6] rfl rfl rfl rfl rfl ?_
 refine au 8 rfl ?_
 obtain ⟨hi0, hi1, hi2, s⟩ := s
 refine zg rfl (sem_sliceSlI a1 n2 c3 (i4) ((n2 : Nat)) rfl TF.slc_87 ⟨_, rfl⟩ rfl hi0 hi1 hi2 ?_)
 refine au 4 rfl ?_
 refine zg rfl (sem_lenSl a5 n6 c7 rfl TF.sl_87 ?_)
 refine au 6 rfl ?_
 refine zt s rfl rfl rfl binI_eql_t binI_eql_f (fun s => ?_) fun s => ?_
 ·refine au 7 rfl ?_
  exact zr (s.imp fun _ q => ⟨_, _, _, rfl, q⟩)
 ·refine au 6 rfl ?_
  refine zg rfl (sem_lenSl a1 n2 c3 rfl TF.sl_87 ?_)
  refine au 7 rfl ?_
  refine zt s rfl rfl rfl binI_eql_t binI_eql_f (fun s => ?_) fun s => ?_
  ·refine au 6 rfl ?_
   refine zg rfl (sem_appendL [(.slice a1 n2 c3), (.slice a5 n6 c7)] rfl (semH_mono (fun v h11 hv => ?_) s))
   obtain ⟨a12, n13, c14, rfl, s⟩ := hv
   refine au 2 rfl ?_
   exact zr (s.imp fun _ q => ⟨_, _, _, rfl, q⟩)
  ·refine au 10 rfl ?_
   refine zg rfl (sem_capSl a1 (n2) (c3) rfl TF.sl_87 ?_)
   refine zt s rfl rfl rfl binI_gtr_t binI_gtr_f (fun s => ?_) fun s => ?_
   ·refine au 6 rfl ?_
    obtain ⟨hi0, hi1, hi2, s⟩ := s
    refine zg rfl (sem_sliceSlI a1 n2 c3 (0) (i4) rfl TF.slc_87 rfl ⟨_, rfl⟩ hi0 hi1 hi2 ?_)
    refine au 5 rfl ?_
    refine zg rfl (sem_appendL [(.slice (if c3 = Int.toNat (0) then a1 else Option.map (·.add (Int.toNat (0) * 3)) a1) (Int.toNat (i4) - Int.toNat (0)) (c3 - Int.toNat (0))), (.int .i64 (IntKind.wrap .i64 ((IntKind.wrap .i64 (((n2 : Nat)) + ((n6 : Nat)))) - (i4))))] rfl (semH_mono (fun v h15 hv => ?_) s))
    obtain ⟨a16, n17, c18, rfl, s⟩ := hv
    refine au 6 rfl ?_
    obtain ⟨hi0, hi1, hi2, s⟩ := s
    refine zg rfl (sem_sliceSlI a16 n17 c18 (i4) ((n17 : Nat)) rfl TF.slc_87 ⟨_, rfl⟩ rfl hi0 hi1 hi2 ?_)
    refine au 1 rfl ?_
    refine zg rfl (sem_copyL [(.slice (if c18 = Int.toNat (i4) then a16 else Option.map (·.add (Int.toNat (i4) * 3)) a16) (Int.toNat ((n17 : Nat)) - Int.toNat (i4)) (c18 - Int.toNat (i4))), (.slice a5 n6 c7)] rfl (semH_mono (fun v h19 hv => ?_) s))
    obtain ⟨i20, rfl, s⟩ := hv
    refine au 2 rfl ?_
    refine Run.drawM (fun h' => h' = h19) [8] ⟨[0, 0, 0, 6, 9, 0, 0, 96, 144], [511, 511, 511, 505, 502, 511, 511, 415, 367], [0, 0, 0, 6, 15, 0, 0, 96, 255], 256⟩ (.q 0 (.q 1 (.q 2 (.q 3 (.q 4 (.q 5 (.q 6 (.q 7 (.x 8 .nil .no))))))))) TF.mixed (by kernel_rfl) rfl ?_
    refine auT 4 rfl ?_
    obtain ⟨hi0, hi1, hi2, s⟩ := s
    refine zqe rfl (sem_sliceSlI a16 n17 c18 (IntKind.wrap .i64 ((i4) + ((n6 : Nat)))) ((n17 : Nat)) rfl TF.slc_87 ⟨_, rfl⟩ rfl hi0 hi1 hi2 ⟨rfl, rfl⟩) ?_
    refine auT 2 rfl ?_
    obtain ⟨hi0, hi1, hi2, s⟩ := s
    refine zqe rfl (sem_sliceSlI a1 n2 c3 (i4) ((n2 : Nat)) rfl TF.slc_87 ⟨_, rfl⟩ rfl hi0 hi1 hi2 ⟨rfl, rfl⟩) ?_
    refine ⟨zo rfl (sem_copyL [(.slice (if c18 = Int.toNat (IntKind.wrap .i64 ((i4) + ((n6 : Nat)))) then a16 else Option.map (·.add (Int.toNat (IntKind.wrap .i64 ((i4) + ((n6 : Nat)))) * 3)) a16) (Int.toNat ((n17 : Nat)) - Int.toNat (IntKind.wrap .i64 ((i4) + ((n6 : Nat))))) (c18 - Int.toNat (IntKind.wrap .i64 ((i4) + ((n6 : Nat)))))), (.slice (if c3 = Int.toNat (i4) then a1 else Option.map (·.add (Int.toNat (i4) * 3)) a1) (Int.toNat ((n2 : Nat)) - Int.toNat (i4)) (c3 - Int.toNat (i4)))] rfl (semH_mono (fun v h21 hv => ?_) s)), trivial⟩
    obtain ⟨i22, rfl, s⟩ := hv
    refine ⟨fun hz => Bool.noConfusion hz, ?_⟩
    refine au 5 rfl ?_
    exact zr (s.imp fun _ q => ⟨_, _, _, rfl, q⟩)
   ·refine au 9 rfl ?_
    obtain ⟨hi0, hi1, hi2, s⟩ := s
    refine zg rfl (sem_sliceSlI a1 n2 c3 (0) (IntKind.wrap .i64 (((n2 : Nat)) + ((n6 : Nat)))) rfl TF.slc_87 rfl ⟨_, rfl⟩ hi0 hi1 hi2 ?_)
    refine au 10 rfl ?_
    obtain ⟨hi0, hi1, hi2, s⟩ := s
    refine zg rfl (sem_sliceSlI (if c3 = Int.toNat (0) then a1 else Option.map (·.add (Int.toNat (0) * 3)) a1) (Int.toNat (IntKind.wrap .i64 (((n2 : Nat)) + ((n6 : Nat)))) - Int.toNat (0)) (c3 - Int.toNat (0)) (IntKind.wrap .i64 ((i4) + ((n6 : Nat)))) (((Int.toNat (IntKind.wrap .i64 (((n2 : Nat)) + ((n6 : Nat)))) - Int.toNat (0)) : Nat)) rfl TF.slc_87 ⟨_, rfl⟩ rfl hi0 hi1 hi2 ?_)
    refine zg rfl (sem_callXL [(.slice a5 n6 c7), (.slice (if (c3 - Int.toNat (0)) = Int.toNat (IntKind.wrap .i64 ((i4) + ((n6 : Nat)))) then (if c3 = Int.toNat (0) then a1 else Option.map (·.add (Int.toNat (0) * 3)) a1) else Option.map (·.add (Int.toNat (IntKind.wrap .i64 ((i4) + ((n6 : Nat)))) * 3)) (if c3 = Int.toNat (0) then a1 else Option.map (·.add (Int.toNat (0) * 3)) a1)) (Int.toNat (((Int.toNat (IntKind.wrap .i64 (((n2 : Nat)) + ((n6 : Nat)))) - Int.toNat (0)) : Nat)) - Int.toNat (IntKind.wrap .i64 ((i4) + ((n6 : Nat))))) ((c3 - Int.toNat (0)) - Int.toNat (IntKind.wrap .i64 ((i4) + ((n6 : Nat))))))] (TF.goesx_81) rfl rfl (semH_mono (fun v h23 hv => ?_) s))
    obtain ⟨b24, rfl, s⟩ := hv
    cases b24
    ·replace s := s.2 rfl
     refine au 4 rfl ?_
     refine Run.drawM (fun h' => h' = h23) [8] ⟨[0, 0, 0, 6, 9, 0, 0, 96, 144], [511, 511, 511, 505, 502, 511, 511, 415, 367], [0, 0, 0, 6, 15, 0, 0, 96, 255], 256⟩ (.q 0 (.q 1 (.q 2 (.q 3 (.q 4 (.q 5 (.q 6 (.q 7 (.x 8 .nil .no))))))))) TF.mixed (by kernel_rfl) rfl ?_
     refine auT 4 rfl ?_
     obtain ⟨hi0, hi1, hi2, s⟩ := s
     refine zqe rfl (sem_sliceSlI (if c3 = Int.toNat (0) then a1 else Option.map (·.add (Int.toNat (0) * 3)) a1) (Int.toNat (IntKind.wrap .i64 (((n2 : Nat)) + ((n6 : Nat)))) - Int.toNat (0)) (c3 - Int.toNat (0)) (IntKind.wrap .i64 ((i4) + ((n6 : Nat)))) (((Int.toNat (IntKind.wrap .i64 (((n2 : Nat)) + ((n6 : Nat)))) - Int.toNat (0)) : Nat)) rfl TF.slc_87 ⟨_, rfl⟩ rfl hi0 hi1 hi2 ⟨rfl, rfl⟩) ?_
     refine auT 2 rfl ?_
     obtain ⟨hi0, hi1, hi2, s⟩ := s
     refine zqe rfl (sem_sliceSlI (if c3 = Int.toNat (0) then a1 else Option.map (·.add (Int.toNat (0) * 3)) a1) (Int.toNat (IntKind.wrap .i64 (((n2 : Nat)) + ((n6 : Nat)))) - Int.toNat (0)) (c3 - Int.toNat (0)) (i4) (((Int.toNat (IntKind.wrap .i64 (((n2 : Nat)) + ((n6 : Nat)))) - Int.toNat (0)) : Nat)) rfl TF.slc_87 ⟨_, rfl⟩ rfl hi0 hi1 hi2 ⟨rfl, rfl⟩) ?_
     refine ⟨zo rfl (sem_copyL [(.slice (if (c3 - Int.toNat (0)) = Int.toNat (IntKind.wrap .i64 ((i4) + ((n6 : Nat)))) then (if c3 = Int.toNat (0) then a1 else Option.map (·.add (Int.toNat (0) * 3)) a1) else Option.map (·.add (Int.toNat (IntKind.wrap .i64 ((i4) + ((n6 : Nat)))) * 3)) (if c3 = Int.toNat (0) then a1 else Option.map (·.add (Int.toNat (0) * 3)) a1)) (Int.toNat (((Int.toNat (IntKind.wrap .i64 (((n2 : Nat)) + ((n6 : Nat)))) - Int.toNat (0)) : Nat)) - Int.toNat (IntKind.wrap .i64 ((i4) + ((n6 : Nat))))) ((c3 - Int.toNat (0)) - Int.toNat (IntKind.wrap .i64 ((i4) + ((n6 : Nat)))))), (.slice (if (c3 - Int.toNat (0)) = Int.toNat (i4) then (if c3 = Int.toNat (0) then a1 else Option.map (·.add (Int.toNat (0) * 3)) a1) else Option.map (·.add (Int.toNat (i4) * 3)) (if c3 = Int.toNat (0) then a1 else Option.map (·.add (Int.toNat (0) * 3)) a1)) (Int.toNat (((Int.toNat (IntKind.wrap .i64 (((n2 : Nat)) + ((n6 : Nat)))) - Int.toNat (0)) : Nat)) - Int.toNat (i4)) ((c3 - Int.toNat (0)) - Int.toNat (i4)))] rfl (semH_mono (fun v h25 hv => ?_) s)), trivial⟩
     obtain ⟨i26, rfl, s⟩ := hv
     refine ⟨fun hz => Bool.noConfusion hz, ?_⟩
     refine au 4 rfl ?_
     obtain ⟨hi0, hi1, hi2, s⟩ := s
     refine zg rfl (sem_sliceSlI (if c3 = Int.toNat (0) then a1 else Option.map (·.add (Int.toNat (0) * 3)) a1) (Int.toNat (IntKind.wrap .i64 (((n2 : Nat)) + ((n6 : Nat)))) - Int.toNat (0)) (c3 - Int.toNat (0)) (i4) (((Int.toNat (IntKind.wrap .i64 (((n2 : Nat)) + ((n6 : Nat)))) - Int.toNat (0)) : Nat)) rfl TF.slc_87 ⟨_, rfl⟩ rfl hi0 hi1 hi2 ?_)
     refine au 1 rfl ?_
     refine zg rfl (sem_copyL [(.slice (if (c3 - Int.toNat (0)) = Int.toNat (i4) then (if c3 = Int.toNat (0) then a1 else Option.map (·.add (Int.toNat (0) * 3)) a1) else Option.map (·.add (Int.toNat (i4) * 3)) (if c3 = Int.toNat (0) then a1 else Option.map (·.add (Int.toNat (0) * 3)) a1)) (Int.toNat (((Int.toNat (IntKind.wrap .i64 (((n2 : Nat)) + ((n6 : Nat)))) - Int.toNat (0)) : Nat)) - Int.toNat (i4)) ((c3 - Int.toNat (0)) - Int.toNat (i4))), (.slice a5 n6 c7)] rfl (semH_mono (fun v h27 hv => ?_) s))
     obtain ⟨i28, rfl, s⟩ := hv
     refine au 6 rfl ?_
     exact zr (s.imp fun _ q => ⟨_, _, _, rfl, q⟩)
    ·replace s := s.1 rfl
     refine au 8 rfl ?_
     obtain ⟨hi0, hi1, hi2, s⟩ := s
     refine zg rfl (sem_sliceSlI (if c3 = Int.toNat (0) then a1 else Option.map (·.add (Int.toNat (0) * 3)) a1) (Int.toNat (IntKind.wrap .i64 (((n2 : Nat)) + ((n6 : Nat)))) - Int.toNat (0)) (c3 - Int.toNat (0)) ((n2 : Nat)) (((Int.toNat (IntKind.wrap .i64 (((n2 : Nat)) + ((n6 : Nat)))) - Int.toNat (0)) : Nat)) rfl TF.slc_87 ⟨_, rfl⟩ rfl hi0 hi1 hi2 ?_)
     refine au 1 rfl ?_
     refine zg rfl (sem_copyL [(.slice (if (c3 - Int.toNat (0)) = Int.toNat ((n2 : Nat)) then (if c3 = Int.toNat (0) then a1 else Option.map (·.add (Int.toNat (0) * 3)) a1) else Option.map (·.add (Int.toNat ((n2 : Nat)) * 3)) (if c3 = Int.toNat (0) then a1 else Option.map (·.add (Int.toNat (0) * 3)) a1)) (Int.toNat (((Int.toNat (IntKind.wrap .i64 (((n2 : Nat)) + ((n6 : Nat)))) - Int.toNat (0)) : Nat)) - Int.toNat ((n2 : Nat))) ((c3 - Int.toNat (0)) - Int.toNat ((n2 : Nat)))), (.slice a5 n6 c7)] rfl (semH_mono (fun v h29 hv => ?_) s))
     obtain ⟨i30, rfl, s⟩ := hv
     refine au 5 rfl ?_
     obtain ⟨hi0, hi1, hi2, s⟩ := s
     refine zg rfl (sem_sliceSlI (if c3 = Int.toNat (0) then a1 else Option.map (·.add (Int.toNat (0) * 3)) a1) (Int.toNat (IntKind.wrap .i64 (((n2 : Nat)) + ((n6 : Nat)))) - Int.toNat (0)) (c3 - Int.toNat (0)) (i4) (((Int.toNat (IntKind.wrap .i64 (((n2 : Nat)) + ((n6 : Nat)))) - Int.toNat (0)) : Nat)) rfl TF.slc_87 ⟨_, rfl⟩ rfl hi0 hi1 hi2 ?_)
     refine au 1 rfl ?_
     refine zcall s rfl rfl TF.goes_82 ?_
     rintro _ h31 ⟨rfl, s⟩
     refine au 6 rfl ?_
     exact zr (s.imp fun _ q => ⟨_, _, _, rfl, q⟩)
theorem C_draft_Draft_file_File_All_1.of {B : RO} {v1 : Value} {A2 : Addr} {h : Heap} {Q : Heap → Prop} (s : S_draft_Draft_file_File_All_1 B v1 A2 h Q) : C_draft_Draft_file_File_All_1 B v1 A2 h Q := by
 refine zspec Tryz.func64 [] rfl rfl rfl rfl rfl ?_
 refine au 3 rfl ?_
 refine zl s rfl rfl TF.agg_34 fun p3 s => ?_
 by_cases hb4 : p3 = none
 ·replace s := s.1 hb4
  refine zg rfl (sem_ptrNilT p3 (.inl rfl) true rfl rfl TF.ptr_34 hb4 rfl ?_)
  refine au 2 rfl ?_
  exact zr (s.imp fun _ q => ⟨rfl, q⟩)
 ·replace s := s.2 hb4
  refine zg rfl (sem_ptrNilF p3 (.inl rfl) false rfl rfl TF.ptr_34 hb4 rfl ?_)
  refine au 5 rfl ?_
  refine zl s rfl rfl TF.agg_34 fun p5 s => ?_
  refine znil s rfl rfl fun A6 s => ?_
  refine au 1 rfl ?_
  refine Run.ldSl s fun a8 n9 c10 h11 hl s => ?_
  refine zg rfl (sem_load1 A6 ((.slice a8 n9 c10)) rfl TF.agg_87 hl ?_)
  refine zg rfl (sem_lenSl a8 n9 c10 rfl TF.sl_87 ?_)
  refine au 3 rfl ?_
  obtain ⟨J17, m15, h0, s⟩ := s
  refine Run.of_fin (h0.imp fun h' h0 => ?_)
  refine Run.loop (σ := Int × Nat) (fun x e h => J17 x.1 x.2 h ∧ Agree [(0, v1), (10, (.slice a8 n9 c10)), (11, (.int .i64 ((n9 : Nat)))), (12, (.int .i64 (x.1)))] e) (fun x => x.2) ((0), m15) ⟨h0, ⟨rfl, rfl, rfl, rfl, trivial⟩⟩ ?_; clear h0
  rintro ⟨i12, m14⟩ e h13 ⟨hJ, hag⟩ ih16
  have s := s i12 m14 h13 hJ; clear hJ
  refine Run.env hag ?_; clear hag
  refine au 2 rfl ?_
  refine zt s rfl rfl rfl binI_lss_t binI_lss_f (fun s => ?_) fun s => ?_
  ·refine au 8 rfl ?_
   obtain ⟨A18, e19, hi0, hi1, s⟩ := s
   refine zg rfl (sem_indexAddrS A18 n9 c10 .i64 (i12) (congrArg (fun a => Value.slice a n9 c10) e19) rfl TF.slc_87 hi0 hi1 ?_)
   obtain ⟨i20, b21, s22, hl, s⟩ := s
   refine zn hl rfl rfl TF.agg_141 TF.sz_141 rfl ?_
   refine zal s rfl TF.zero_141 rfl fun k23 h24 s => ?_
   refine zsn s rfl rfl rfl TF.sz_141 rfl fun h25 s => ?_
   refine au 5 rfl ?_
   refine zl s rfl rfl TF.agg_3 fun i26 s => ?_
   refine au 1 rfl ?_
   obtain ⟨b27, s28, hl, s⟩ := s
   refine zn hl rfl rfl TF.agg_90 TF.sz_90 rfl ?_
   refine zg rfl (sem_callV (v1) [(.int .i64 (i26)), (.agg #[(.bool b27), (.string s28)])] rfl rfl s (fun nx h' ha => ha.mono fun v h29 hv => ?_))
   obtain ⟨b30, rfl, s⟩ := hv
   cases b30
   ·replace s := s.2 rfl
    refine au 3 rfl ?_
    exact zr (s.imp fun _ q => ⟨rfl, q⟩)
   ·replace s := s.1 rfl
    refine au 9 rfl ?_
    exact Run.of_fin (s.imp fun h' ⟨m', hm, s⟩ => ih16 ((IntKind.wrap .i64 ((i12) + (1))), m') _ _ ⟨s, ⟨rfl, rfl, rfl, rfl, trivial⟩⟩ hm)
  ·refine au 4 rfl ?_
   exact zf (s.imp fun _ q => ⟨rfl, q⟩)
theorem C_wal_Log_Size.of {B : RO} {p1 : Option Addr} {h : Heap} {Q : Int → Heap → Prop} (s : S_wal_Log_Size B p1 h Q) : C_wal_Log_Size B p1 h Q := by
 refine zspec Tryz.func65 [ResultVar.tmp 2] rfl rfl rfl rfl rfl ?_
 refine au 8 rfl ?_
 by_cases hb3 : p1 = none
 ·replace s := s.1 hb3
  refine zg rfl (sem_ptrNilT p1 (.inl rfl) true rfl rfl TF.ptr_118 hb3 rfl ?_)
  refine au 6 rfl ?_
  exact zr (s.imp fun _ q => ⟨_, rfl, q⟩)
 ·replace s := s.2 hb3
  refine zg rfl (sem_ptrNilF p1 (.inl rfl) false rfl rfl TF.ptr_118 hb3 rfl ?_)
  refine au 6 rfl ?_
  refine znil s rfl rfl fun A4 s => ?_
  refine au 1 rfl ?_
  refine zl s rfl rfl TF.agg_3 fun i6 s => ?_
  refine au 2 rfl ?_
  exact zr (s.imp fun _ q => ⟨_, rfl, q⟩)
theorem C_stylus_Reader_word.of {B : RO} {p1 : Option Addr} {h : Heap} {Q : Int → Heap → Prop} (s : S_stylus_Reader_word B p1 h Q) : C_stylus_Reader_word B p1 h Q := by
 refine zspec Tryz.func66 [ResultVar.tmp 2] rfl rfl rfl rfl rfl ?_
 refine au 14 rfl ?_
 obtain ⟨J9, m7, h0, s⟩ := s
 refine Run.of_fin (h0.imp fun h' h0 => ?_)
 refine Run.loop (σ := Int × Int × Nat) (fun x e h => J9 x.1 x.2.1 x.2.2 h ∧ Agree [(0, (.pointer p1)), (3, (.int .u64 (x.1))), (4, (.int .i64 (x.2.1)))] e) (fun x => x.2.2) ((0), (0), m7) ⟨h0, ⟨rfl, rfl, rfl, trivial⟩⟩ ?_; clear h0
 rintro ⟨i3, i4, m6⟩ e h5 ⟨hJ, hag⟩ ih8
 have s := s i3 i4 m6 h5 hJ; clear hJ
 refine Run.env hag ?_; clear hag
 refine au 4 rfl ?_
 refine zt s rfl rfl rfl binI_lss_t binI_lss_f (fun s => ?_) fun s => ?_
 ·refine au 8 rfl ?_
  refine zcall s rfl rfl TF.goes_53 ?_
  rintro _ h10 ⟨s11, rfl, s⟩
  refine au 2 rfl ?_
  refine Run.seqJ (fun e h13 => Agree [(0, (.pointer p1)), (3, (.int .u64 (i3))), (4, (.int .i64 (i4))), (5, (.string s11))] e ∧ S_stylus_Reader_word_J1 B p1 i3 i4 m6 J9 s11 h13 Q) ?_ fun j12 => ?_
  ·rintro e h13 ⟨hag, s⟩
   refine Run.env hag ?_; clear hag
   refine au 4 rfl ?_
   obtain ⟨hi0, hi1, s⟩ := s
   refine zg rfl (sem_indexStr' s11 .i64 (0) rfl rfl TF.isStr_9 hi0 hi1 ?_)
   refine au 1 rfl ?_
   refine zg rfl (sem_convI .u8 .u64 (IntKind.wrap .u8 ((BitVec.ofInt (IntKind.bits .u8) (byteAt s11 (Int.toNat (0))) &&& BitVec.ofInt (IntKind.bits .u8) (127)).toNat : Int)) rfl TF.int_5 TF.int_145 ?_)
   refine au 1 rfl ?_
   obtain ⟨hi0, s⟩ := s
   refine zg rfl (sem_shl .u64 .i64 (IntKind.wrap .u64 (IntKind.wrap .u8 ((BitVec.ofInt (IntKind.bits .u8) (byteAt s11 (Int.toNat (0))) &&& BitVec.ofInt (IntKind.bits .u8) (127)).toNat : Int))) (i4) rfl rfl hi0 ?_)
   refine au 6 rfl ?_
   obtain ⟨hi0, hi1, s⟩ := s
   refine zg rfl (sem_indexStr' s11 .i64 (0) rfl rfl TF.isStr_9 hi0 hi1 ?_)
   refine zt s rfl rfl rfl binI_lss_t binI_lss_f (fun s => ?_) fun s => ?_
   ·refine au 7 rfl ?_
    exact zr (s.imp fun _ q => ⟨_, rfl, q⟩)
   ·refine au 9 rfl ?_
    exact Run.of_fin (s.imp fun h' ⟨m', hm, s⟩ => ih8 ((IntKind.wrap .u64 ((BitVec.ofInt (IntKind.bits .u64) (i3) ||| BitVec.ofInt (IntKind.bits .u64) (IntKind.wrap .u64 ((IntKind.wrap .u64 (IntKind.wrap .u8 ((BitVec.ofInt (IntKind.bits .u8) (byteAt s11 (Int.toNat (0))) &&& BitVec.ofInt (IntKind.bits .u8) (127)).toNat : Int))) * 2 ^ (min (Int.toNat (i4)) (IntKind.bits .u64))))).toNat : Int)), (IntKind.wrap .i64 ((i4) + (7))), m') _ _ ⟨s, ⟨rfl, rfl, rfl, trivial⟩⟩ hm)
  refine au 3 rfl ?_
  by_cases hb14 : s11 = (ByteArray.mk #[])
  ·replace s := s.1 hb14
   refine zg rfl (sem_strEqT s11 (ByteArray.mk #[]) rfl rfl hb14 ?_)
   refine au 24 rfl ?_
   refine zcall s rfl rfl TF.goes_67 ?_
   rintro _ h15 ⟨rfl, s⟩
   refine au 5 rfl ?_
   exact zr (s.imp fun _ q => ⟨_, rfl, q⟩)
  ·replace s := s.2 hb14
   refine zg rfl (sem_strEqF s11 (ByteArray.mk #[]) rfl rfl hb14 ?_)
   refine au 2 rfl ?_
   refine zt s rfl rfl rfl binI_eql_t binI_eql_f (fun s => ?_) fun s => ?_
   ·refine au 2 rfl ?_
    obtain ⟨hi0, hi1, s⟩ := s
    refine zg rfl (sem_indexStr' s11 .i64 (0) rfl rfl TF.isStr_9 hi0 hi1 ?_)
    refine zt s rfl rfl rfl binI_gtr_t binI_gtr_f (fun s => ?_) fun s => ?_
    ·refine au 17 rfl ?_
     refine zcall s rfl rfl TF.goes_67 ?_
     rintro _ h16 ⟨rfl, s⟩
     refine au 5 rfl ?_
     exact zr (s.imp fun _ q => ⟨_, rfl, q⟩)
    ·refine au 4 rfl ?_
     refine zt s rfl rfl rfl binI_gtr_t binI_gtr_f (fun s => ?_) fun s => ?_
     ·refine au 2 rfl ?_
      obtain ⟨hi0, hi1, s⟩ := s
      refine zg rfl (sem_indexStr' s11 .i64 (0) rfl rfl TF.isStr_9 hi0 hi1 ?_)
      refine zt s rfl rfl rfl binI_eql_t binI_eql_f (fun s => ?_) fun s => ?_
      ·refine au 8 rfl ?_
       refine zcall s rfl rfl TF.goes_67 ?_
       rintro _ h17 ⟨rfl, s⟩
       refine au 5 rfl ?_
       exact zr (s.imp fun _ q => ⟨_, rfl, q⟩)
      ·refine au 5 rfl ?_
       exact Run.of_fin (s.imp fun h' s => j12 _ _ ⟨⟨rfl, rfl, rfl, rfl, trivial⟩, s⟩)
     ·refine au 9 rfl ?_
      exact Run.of_fin (s.imp fun h' s => j12 _ _ ⟨⟨rfl, rfl, rfl, rfl, trivial⟩, s⟩)
   ·refine au 8 rfl ?_
    refine zt s rfl rfl rfl binI_gtr_t binI_gtr_f (fun s => ?_) fun s => ?_
    ·refine au 2 rfl ?_
     obtain ⟨hi0, hi1, s⟩ := s
     refine zg rfl (sem_indexStr' s11 .i64 (0) rfl rfl TF.isStr_9 hi0 hi1 ?_)
     refine zt s rfl rfl rfl binI_eql_t binI_eql_f (fun s => ?_) fun s => ?_
     ·refine au 8 rfl ?_
      refine zcall s rfl rfl TF.goes_67 ?_
      rintro _ h18 ⟨rfl, s⟩
      refine au 5 rfl ?_
      exact zr (s.imp fun _ q => ⟨_, rfl, q⟩)
     ·refine au 5 rfl ?_
      exact Run.of_fin (s.imp fun h' s => j12 _ _ ⟨⟨rfl, rfl, rfl, rfl, trivial⟩, s⟩)
    ·refine au 9 rfl ?_
     exact Run.of_fin (s.imp fun h' s => j12 _ _ ⟨⟨rfl, rfl, rfl, rfl, trivial⟩, s⟩)
 ·refine au 6 rfl ?_
  refine zcall s rfl rfl TF.goes_67 ?_
  rintro _ h19 ⟨rfl, s⟩
  refine au 5 rfl ?_
  exact zr (s.imp fun _ q => ⟨_, rfl, q⟩)
theorem C_stylus_Reader_Spoil.of {B : RO} {p1 : Option Addr} {h : Heap} {Q : Heap → Prop} (s : S_stylus_Reader_Spoil B p1 h Q) : C_stylus_Reader_Spoil B p1 h Q := by
 refine zspec Tryz.func67 [] rfl rfl rfl rfl rfl ?_
 refine au 3 rfl ?_
 by_cases hb2 : p1 = none
 ·replace s := s.1 hb2
  refine zg rfl (sem_ptrNilT p1 (.inr rfl) false rfl rfl TF.ptr_100 hb2 rfl ?_)
  refine au 3 rfl ?_
  exact zf (s.imp fun _ q => ⟨rfl, q⟩)
 ·replace s := s.2 hb2
  refine zg rfl (sem_ptrNilF p1 (.inr rfl) true rfl rfl TF.ptr_100 hb2 rfl ?_)
  refine au 5 rfl ?_
  refine znil s rfl rfl fun A3 s => ?_
  refine au 1 rfl ?_
  refine zs1 s rfl rfl rfl rfl TF.sz_9 fun h5 s => ?_
  refine znil s rfl rfl fun A6 s => ?_
  refine au 1 rfl ?_
  refine zs1 s rfl rfl rfl rfl TF.sz_4 fun h8 s => ?_
  refine au 1 rfl ?_
  exact zf (s.imp fun _ q => ⟨rfl, q⟩)
theorem C_cell_Row_file_File_Set.of {B : RO} {p1 : Option Addr} {i2 : Int} {b3 : Bool} {s4 : ByteArray} {i5 : Int} {h : Heap} {Q : Bool → Heap → Prop} (s : S_cell_Row_file_File_Set B p1 i2 b3 s4 i5 h Q) : C_cell_Row_file_File_Set B p1 i2 b3 s4 i5 h Q := by
 refine zspec Tryz.func68 [ResultVar.tmp 8] rfl rfl rfl rfl rfl ?_
 refine au 2 rfl ?_
 refine zbn s rfl rfl rfl fun k7 h8 s => ?_
 refine au 7 rfl ?_
 refine zcall s rfl rfl TF.goes_83 ?_
 rintro _ h9 ⟨b10, rfl, s⟩
 cases b10
 ·replace s := s.2 rfl
  refine au 7 rfl ?_
  exact zr (s.imp fun _ q => ⟨_, rfl, q⟩)
 ·replace s := s.1 rfl
  refine au 5 rfl ?_
  refine Run.drawM (fun h' => h' = h9) [9] ⟨[0, 1, 2, 4, 0, 0, 0, 96, 255, 511], [1023, 1022, 1021, 1019, 1023, 1023, 1023, 927, 999, 639], [0, 1, 3, 7, 0, 0, 0, 96, 255, 511], 512⟩ (.q 0 (.q 1 (.q 2 (.q 3 (.q 4 (.q 5 (.q 6 (.q 7 (.q 8 (.x 9 .nil .no)))))))))) TF.mixed (by kernel_rfl) rfl ?_
  refine auT 1 rfl ?_
  obtain ⟨A11, e12, s⟩ := s
  refine zqe rfl (sem_nilCheck A11 (congrArg Value.pointer e12) ⟨rfl, rfl⟩) ?_
  refine auT 1 rfl ?_
  obtain ⟨a13, n14, c15, hl, s⟩ := s
  refine zqe rfl (sem_load1 A11 ((.slice a13 n14 c15)) rfl TF.agg_178 hl ⟨rfl, rfl⟩) ?_
  refine auT 1 rfl ?_
  obtain ⟨b16, s17, hl, s⟩ := s
  refine zqe rfl (sem_loadN ⟨k7, 0, none⟩ [(.bool b16), (.string s17)] rfl TF.agg_90 TF.sz_90 hl ⟨rfl, rfl⟩) ?_
  refine auT 1 rfl ?_
  refine zqe rfl (sem_buildSL [(0, (.agg #[(.bool b16), (.string s17)])), (1, (.int .i64 (i5)))] [(.bool b16), (.string s17), (.int .i64 (i5))] TF.zero_177 TF.places_177 rfl rfl ⟨rfl, rfl⟩) ?_
  obtain ⟨A18, e19, hi0, hi1, s⟩ := s
  refine zqe rfl (sem_indexAddrS A18 n14 c15 .i64 (i2) (congrArg (fun a => Value.slice a n14 c15) e19) rfl TF.slc_178 hi0 hi1 ⟨rfl, rfl⟩) ?_
  obtain ⟨h20, hst, s⟩ := s
  refine ⟨zo0 rfl (sem_storeN (Addr.add A18 (Int.toNat (i2) * 3)) [(.bool b16), (.string s17), (.int .i64 (i5))] h20 rfl rfl TF.sz_177 hst ?_), trivial⟩
  refine ⟨fun hz => Bool.noConfusion hz, ?_⟩
  refine au 4 rfl ?_
  exact zr (s.imp fun _ q => ⟨_, rfl, q⟩)
theorem C_cell_Row_file_File_Get.of {B : RO} {p1 : Option Addr} {i2 : Int} {h : Heap} {Q : Bool → ByteArray → Int → Heap → Prop} (s : S_cell_Row_file_File_Get B p1 i2 h Q) : C_cell_Row_file_File_Get B p1 i2 h Q := by
 refine zspec Tryz.func69 [ResultVar.cell 4 90, ResultVar.tmp 5] rfl rfl rfl rfl rfl ?_
 refine au 2 rfl ?_
 refine zal s rfl TF.zero_90 rfl fun k6 h7 s => ?_
 refine au 7 rfl ?_
 refine zcall s rfl rfl TF.goes_83 ?_
 rintro _ h8 ⟨b9, rfl, s⟩
 cases b9
 ·replace s := s.2 rfl
  refine au 5 rfl ?_
  refine zal s rfl TF.zero_90 rfl fun k10 h11 s => ?_
  refine au 3 rfl ?_
  obtain ⟨b12, s13, hl, s⟩ := s
  refine zn hl rfl rfl TF.agg_90 TF.sz_90 rfl ?_
  refine zsn s rfl rfl rfl TF.sz_90 rfl fun h14 s => ?_
  refine au 2 rfl ?_
  obtain ⟨b15, s16, hl0, s⟩ := s
  exact zr (⟨⟨k6, 0, none⟩, (.agg #[(.bool b15), (.string s16)]), rfl, loadHN TF.agg_90 TF.sz_90 hl0, s.imp fun _ q => ⟨_, _, _, rfl, q⟩⟩)
 ·replace s := s.1 rfl
  refine au 5 rfl ?_
  obtain ⟨A18, e19, s⟩ := s
  obtain ⟨a22, n23, c24, hl, s⟩ := s
  have f25 := hl
  obtain ⟨A27, e28, hi0, hi1, s⟩ := s
  have f30 := hi0; have f31 := hi1
  obtain ⟨b33, s34, hl, s⟩ := s
  have f35 := hl
  obtain ⟨A37, e38, s⟩ := s
  obtain ⟨a41, n42, c43, hl, s⟩ := s
  have f44 := hl
  obtain ⟨A46, e47, hi0, hi1, s⟩ := s
  have f49 := hi0; have f50 := hi1
  obtain ⟨i52, hl, s⟩ := s
  have f53 := hl
  refine Run.drawM (fun h' => cellH B h' A18 = some (.slice a22 n23 c24) ∧ CellsAt B h' (Addr.add A27 (Int.toNat (i2) * 3)) 0 [(.bool b33), (.string s34)] ∧ cellH B h' A37 = some (.slice a41 n42 c43) ∧ cellH B h' (Addr.add (Addr.add A46 (Int.toNat (i2) * 3)) 2) = some (.int .i64 (i52)) ∧ True) [] ⟨[0, 1, 2, 4, 0, 24, 32, 64, 0, 256, 512, 1024, 0, 6144, 8192, 16384, 255, 131071], [262143, 262142, 262141, 262139, 262143, 262119, 262111, 262079, 262143, 261887, 261631, 261119, 262143, 255999, 253951, 245759, 262015, 229375], [0, 0, 0, 0, 0, 0, 0, 0, 0, 0, 0, 0, 0, 0, 0, 0, 0, 0], 0⟩ (.q 0 (.q 1 (.q 2 (.q 3 (.q 4 (.q 5 (.q 6 (.q 7 (.q 8 (.q 9 (.q 10 (.q 11 (.q 12 (.q 13 (.q 14 (.q 15 (.x 16 (.q 17 .nil) .no))))))))))))))))) TF.mixed (by kernel_rfl) ⟨f25, f35, f44, f53, trivial⟩ ?_
  refine auT 1 rfl ?_
  refine zq rfl (fun _ hC => sem_nilCheck A18 (congrArg Value.pointer e19) ⟨rfl, rfl⟩) ?_
  refine auT 1 rfl ?_
  refine zq rfl (fun _ hC => sem_load1 A18 ((.slice a22 n23 c24)) rfl TF.agg_178 hC.1 ⟨rfl, rfl⟩) ?_
  refine auT 1 rfl ?_
  refine zq rfl (fun _ hC => sem_indexAddrS A27 n23 c24 .i64 (i2) (congrArg (fun a => Value.slice a n23 c24) e28) rfl TF.slc_178 f30 f31 ⟨rfl, rfl⟩) ?_
  refine auT 1 rfl ?_
  refine zq rfl (fun _ hC => sem_loadN (Addr.add A27 (Int.toNat (i2) * 3)) [(.bool b33), (.string s34)] rfl TF.agg_90 TF.sz_90 hC.2.1 ⟨rfl, rfl⟩) ?_
  refine auT 1 rfl ?_
  refine zq rfl (fun _ hC => sem_nilCheck A37 (congrArg Value.pointer e38) ⟨rfl, rfl⟩) ?_
  refine auT 1 rfl ?_
  refine zq rfl (fun _ hC => sem_load1 A37 ((.slice a41 n42 c43)) rfl TF.agg_178 hC.2.2.1 ⟨rfl, rfl⟩) ?_
  refine auT 1 rfl ?_
  refine zq rfl (fun _ hC => sem_indexAddrS A46 n42 c43 .i64 (i2) (congrArg (fun a => Value.slice a n42 c43) e47) rfl TF.slc_178 f49 f50 ⟨rfl, rfl⟩) ?_
  refine auT 1 rfl ?_
  refine zq rfl (fun _ hC => sem_load1 (Addr.add (Addr.add A46 (Int.toNat (i2) * 3)) 2) ((.int .i64 (i52))) rfl TF.agg_3 hC.2.2.2.1 ⟨rfl, rfl⟩) ?_
  obtain ⟨h54, hst, s⟩ := s
  refine ⟨zo0 rfl (sem_storeN ⟨k6, 0, none⟩ [(.bool b33), (.string s34)] h54 rfl rfl TF.sz_90 hst ?_), trivial⟩
  obtain ⟨g55, g56, g57, g58, s⟩ := s
  refine ⟨fun _ => ⟨g55, g56, g57, g58, trivial⟩, ?_⟩
  refine auT 1 rfl ?_
  obtain ⟨b59, s60, hl0, s⟩ := s
  exact zr (⟨⟨k6, 0, none⟩, (.agg #[(.bool b59), (.string s60)]), rfl, loadHN TF.agg_90 TF.sz_90 hl0, s.imp fun _ q => ⟨_, _, _, rfl, q⟩⟩)
theorem C_wafer_Whole.of {B : RO} {s1 : ByteArray} {h : Heap} {Q : Int → Heap → Prop} (s : S_wafer_Whole B s1 h Q) : C_wafer_Whole B s1 h Q := by
 refine zspec Tryz.func70 [ResultVar.tmp 2] rfl rfl rfl rfl rfl ?_
 refine au 6 rfl ?_
 refine zal s rfl TF.zero_3 rfl fun k3 h4 s => ?_
 refine zs1 s rfl rfl rfl rfl TF.sz_3 fun h5 s => ?_
 refine au 5 rfl ?_
 refine zcall s rfl rfl TF.goes_84 ?_
 rintro v7 h6 ⟨_, rfl, s⟩
 refine au 2 rfl ?_
 obtain ⟨xs13, G9, J12, hit, hins, hG, h0, s, hR⟩ := s
 refine Run.of_fin (h0.imp fun h' h0 => ?_)
 refine Run.range (v7) (xs13.map (fun x : ByteArray => [(.string x)])) G9 J12 rfl hit hins hG h0 rfl (fun a ha => by obtain ⟨x, _, rfl⟩ := List.mem_map.1 ha; rfl) ?_ ?_
 ·rintro q11 args h10 ha hJ
  obtain ⟨s8, hx, rfl⟩ := Option.map_eq_some_iff.1 ((List.getElem?_map ..).symm.trans ha)
  have s := s q11 h10 s8 hx hJ; clear hJ hx ha
  refine zput rfl ?_
  refine au 3 rfl ?_
  refine Run.begin ⟨rfl, ?_⟩
  refine au 2 rfl ?_
  refine zl s rfl rfl TF.agg_3 fun i14 s => ?_
  refine au 1 rfl ?_
  refine zg rfl (sem_lenStr s8 rfl TF.isStr_9 ?_)
  refine au 3 rfl ?_
  refine zs1 s rfl rfl rfl rfl TF.sz_3 fun h15 s => ?_
  refine au 2 rfl ?_
  refine Run.of_fin (s.imp fun h' s => ?_)
  exact Run.fall (.inl ⟨rfl, s⟩)
 ·intro h10 hJ
  have s := hR h10 (by simpa using hJ); clear hJ hR
  refine au 3 rfl ?_
  refine zl s rfl rfl TF.agg_3 fun i16 s => ?_
  refine au 2 rfl ?_
  exact zr (s.imp fun _ q => ⟨_, rfl, q⟩)
theorem C_wal_Log_All.of {B : RO} {p1 : Option Addr} {h : Heap} {Q : Value → Heap → Prop} (s : S_wal_Log_All B p1 h Q) : C_wal_Log_All B p1 h Q := by
 refine zspec Tryz.func71 [ResultVar.tmp 2] rfl rfl rfl rfl rfl ?_
 refine au 2 rfl ?_
 refine zb1 s rfl rfl rfl rfl fun k3 h4 s => ?_
 refine au 7 rfl ?_
 exact zr (s.imp fun _ q => ⟨_, rfl, q⟩)
theorem C_vault_first.of {B : RO} {s1 : ByteArray} {h : Heap} {Q : Int → ByteArray → Bool → Heap → Prop} (s : S_vault_first B s1 h Q) : C_vault_first B s1 h Q := by
 refine zspec Tryz.func72 [ResultVar.tmp 2, ResultVar.tmp 3, ResultVar.tmp 4] rfl rfl rfl rfl rfl ?_
 refine au 9 rfl ?_
 refine zcall s rfl rfl TF.goes_37 ?_
 rintro _ h5 ⟨p6, rfl, s⟩
 refine au 5 rfl ?_
 refine zcall s rfl rfl TF.goes_38 ?_
 rintro _ h7 ⟨i8, rfl, s⟩
 refine au 5 rfl ?_
 refine zcall s rfl rfl TF.goes_38 ?_
 rintro _ h9 ⟨i10, rfl, s⟩
 refine au 2 rfl ?_
 refine zcall s rfl rfl TF.goes_39 ?_
 rintro _ h11 ⟨i12, rfl, s⟩
 refine zcall s rfl rfl TF.goes_53 ?_
 rintro _ h13 ⟨s14, rfl, s⟩
 refine au 8 rfl ?_
 refine zcall s rfl rfl TF.goes_41 ?_
 rintro _ h15 ⟨b16, rfl, s⟩
 cases b16
 ·replace s := s.2 rfl
  refine au 3 rfl ?_
  refine zt s rfl rfl rfl binI_eql_t binI_eql_f (fun s => ?_) fun s => ?_
  ·refine au 9 rfl ?_
   exact zr (s.imp fun _ q => ⟨_, _, _, rfl, q⟩)
  ·refine au 9 rfl ?_
   exact zr (s.imp fun _ q => ⟨_, _, _, rfl, q⟩)
 ·replace s := s.1 rfl
  refine au 13 rfl ?_
  exact zr (s.imp fun _ q => ⟨_, _, _, rfl, q⟩)
end Go.Proofs.YtlehephbflgblaaGreat.H
namespace Go.Proofs.YtlehephbflgblaaGreat.H
open Go
set_option linter.unusedVariables false
set_option maxRecDepth 100000
set_option maxHeartbeats 4000000
theorem C_cell_New_file_File.of {B : RO} {i1 : Int} {b2 : Bool} {s3 : ByteArray} {h : Heap} {Q : Option Addr → Heap → Prop} (s : S_cell_New_file_File B i1 b2 s3 h Q) : C_cell_New_file_File B i1 b2 s3 h Q := by
 refine zspec Tryz.func73 [ResultVar.tmp 4] rfl rfl rfl rfl rfl ?_
 refine au 2 rfl ?_
 refine zbn s rfl rfl rfl fun k5 h6 s => ?_
 refine au 4 rfl ?_
 refine zg rfl (sem_buildSL [] [(.slice none 0 0)] TF.zero_180 TF.places_180 rfl rfl ?_)
 refine zbn s rfl rfl rfl fun k7 h8 s => ?_
 refine au 9 rfl ?_
 obtain ⟨J14, m12, h0, s⟩ := s
 refine Run.of_fin (h0.imp fun h' h0 => ?_)
 refine Run.loop (σ := Int × Nat) (fun x e h => J14 x.1 x.2 h ∧ Agree [(3, (.pointer (some ⟨k5, 0, none⟩))), (5, (.pointer (some ⟨k7, 0, none⟩))), (8, (.int .i64 (i1))), (9, (.int .i64 (x.1)))] e) (fun x => x.2) ((0), m12) ⟨h0, ⟨rfl, rfl, rfl, rfl, trivial⟩⟩ ?_; clear h0
 rintro ⟨i9, m11⟩ e h10 ⟨hJ, hag⟩ ih13
 have s := s i9 m11 h10 hJ; clear hJ
 refine Run.env hag ?_; clear hag
 refine au 2 rfl ?_
 refine zt s rfl rfl rfl binI_lss_t binI_lss_f (fun s => ?_) fun s => ?_
 ·refine au 6 rfl ?_
  obtain ⟨a19, n20, c21, hl, s⟩ := s
  have f22 := hl
  obtain ⟨b23, s24, hl, s⟩ := s
  have f25 := hl
  refine Run.drawM (fun h' => cellH B h' ⟨k7, 0, none⟩ = some (.slice a19 n20 c21) ∧ CellsAt B h' ⟨k5, 0, none⟩ 0 [(.bool b23), (.string s24)] ∧ True) [11] ⟨[0, 0, 2, 4, 8, 0, 32, 64, 144, 511, 1023, 1535], [4095, 4095, 4093, 4091, 4087, 4095, 4063, 4031, 3951, 4094, 3583, 2815], [0, 0, 2, 6, 14, 0, 32, 96, 254, 511, 1023, 2047], 2048⟩ (.q 0 (.q 1 (.q 2 (.q 3 (.q 4 (.q 5 (.q 6 (.x 7 (.x 8 (.q 9 (.q 10 (.x 11 .nil .no))) .no) .no)))))))) TF.mixed (by kernel_rfl) ⟨f22, f25, trivial⟩ ?_
  refine auT 4 rfl ?_
  refine zq rfl (fun _ hC => sem_load1 ⟨k7, 0, none⟩ ((.slice a19 n20 c21)) rfl TF.agg_178 hC.1 ⟨rfl, rfl⟩) ?_
  refine zq rfl (fun _ hC => sem_loadN ⟨k5, 0, none⟩ [(.bool b23), (.string s24)] rfl TF.agg_90 TF.sz_90 hC.2.1 ⟨rfl, rfl⟩) ?_
  refine zq rfl (fun _ hC => sem_buildSL [(0, (.agg #[(.bool b23), (.string s24)]))] [(.bool b23), (.string s24), (.int .i64 (0))] TF.zero_177 TF.places_177 rfl rfl ⟨rfl, rfl⟩) ?_
  refine ⟨zo rfl (sem_buildSliceL [(0, (.agg #[(.bool b23), (.string s24), (.int .i64 (0))]))] [(.bool b23), (.string s24), (.int .i64 (0))] TF.slc_178 TF.zero_177 rfl (by decide) (by decide) rfl rfl (fun k27 hb1 hb2 h28 hb3 => ?_)), trivial⟩
  have s := s k27 hb1 hb2 h28 hb3
  obtain ⟨g29, g30, s⟩ := s
  refine ⟨fun _ => ⟨g29, g30, trivial⟩, ?_⟩
  refine ⟨zo rfl (sem_appendL [(.slice a19 n20 c21), (.slice (some ⟨k27, 0, none⟩) 1 1)] rfl (semH_mono (fun v h31 hv => ?_) s)), trivial⟩
  obtain ⟨a32, n33, c34, rfl, s⟩ := hv
  obtain ⟨g35, g36, s⟩ := s
  refine ⟨fun _ => ⟨g35, g36, trivial⟩, ?_⟩
  refine auT 2 rfl ?_
  obtain ⟨h37, hst, s⟩ := s
  refine ⟨zo0 rfl (sem_store1 ⟨k7, 0, none⟩ ((.slice a32 n33 c34)) h37 rfl rfl rfl TF.sz_178 hst ?_), trivial⟩
  refine ⟨fun hz => Bool.noConfusion hz, ?_⟩
  refine au 5 rfl ?_
  exact Run.of_fin (s.imp fun h' ⟨m', hm, s⟩ => ih13 ((IntKind.wrap .i64 ((i9) + (1))), m') _ _ ⟨s, ⟨rfl, rfl, rfl, rfl, trivial⟩⟩ hm)
 ·refine au 9 rfl ?_
  exact zr (s.imp fun _ q => ⟨_, rfl, q⟩)
theorem C_disk_Disk_Reset.of {B : RO} {p1 : Option Addr} {i2 : Int} {h : Heap} {Q : Int → Heap → Prop} (s : S_disk_Disk_Reset B p1 i2 h Q) : C_disk_Disk_Reset B p1 i2 h Q := by
 refine zspec Tryz.func74 [ResultVar.tmp 4] rfl rfl rfl rfl rfl ?_
 refine au 4 rfl ?_
 refine Run.seqJ (fun e h5 => Agree [(0, (.pointer p1)), (1, (.int .i64 (i2)))] e ∧ S_disk_Disk_Reset_J1 B p1 i2 h5 Q) ?_ fun j4 => ?_
 ·rintro e h5 ⟨hag, s⟩
  refine Run.env hag ?_; clear hag
  refine au 4 rfl ?_
  refine znil s rfl rfl fun A6 s => ?_
  refine au 1 rfl ?_
  obtain ⟨hi0, hi1, s⟩ := s
  refine zg rfl (sem_indexAddrA A6 .i64 (i2) rfl rfl TF.arr_64 hi0 hi1 ?_)
  refine au 1 rfl ?_
  refine zs1 s rfl rfl rfl rfl TF.sz_9 fun h8 s => ?_
  refine au 5 rfl ?_
  refine znil s rfl rfl fun A9 s => ?_
  refine au 1 rfl ?_
  refine Run.ldSl s fun a11 n12 c13 h14 hl s => ?_
  refine zg rfl (sem_load1 (Addr.add A9 4) ((.slice a11 n12 c13)) rfl TF.agg_65 hl ?_)
  refine au 1 rfl ?_
  refine zg rfl (sem_buildSL [(0, (.int .i64 (i2))), (1, (.bool true))] [(.int .i64 (i2)), (.bool true), (.string ByteArray.empty)] TF.zero_112 TF.places_112 rfl rfl ?_)
  refine zg rfl (sem_buildSliceL [(0, (.agg #[(.int .i64 (i2)), (.bool true), (.string ByteArray.empty)]))] [(.int .i64 (i2)), (.bool true), (.string ByteArray.empty)] TF.slc_65 TF.zero_112 rfl (by decide) (by decide) rfl rfl (fun k15 hb1 hb2 h16 hb3 => ?_))
  have s := s k15 hb1 hb2 h16 hb3
  refine zg rfl (sem_appendL [(.slice a11 n12 c13), (.slice (some ⟨k15, 0, none⟩) 1 1)] rfl (semH_mono (fun v h17 hv => ?_) s))
  obtain ⟨a18, n19, c20, rfl, s⟩ := hv
  refine znil s rfl rfl fun A21 s => ?_
  refine au 1 rfl ?_
  refine zs1 s rfl rfl rfl rfl TF.sz_65 fun h23 s => ?_
  refine au 5 rfl ?_
  exact zr (s.imp fun _ q => ⟨_, rfl, q⟩)
 refine au 4 rfl ?_
 by_cases hb24 : p1 = none
 ·replace s := s.1 hb24
  refine zg rfl (sem_ptrNilT p1 (.inl rfl) true rfl rfl TF.ptr_25 hb24 rfl ?_)
  refine au 7 rfl ?_
  exact zr (s.imp fun _ q => ⟨_, rfl, q⟩)
 ·replace s := s.2 hb24
  refine zg rfl (sem_ptrNilF p1 (.inl rfl) false rfl rfl TF.ptr_25 hb24 rfl ?_)
  refine au 6 rfl ?_
  refine zcall s rfl rfl TF.goes_48 ?_
  rintro _ h25 ⟨b26, rfl, s⟩
  cases b26
  ·replace s := s.2 rfl
   refine au 8 rfl ?_
   exact zr (s.imp fun _ q => ⟨_, rfl, q⟩)
  ·replace s := s.1 rfl
   refine au 6 rfl ?_
   exact Run.of_fin (s.imp fun h' s => j4 _ _ ⟨⟨rfl, rfl, trivial⟩, s⟩)
theorem C_disk_Disk_Sync.of {B : RO} {p1 : Option Addr} {h : Heap} {Q : Heap → Prop} (s : S_disk_Disk_Sync B p1 h Q) : C_disk_Disk_Sync B p1 h Q := by
 refine zspec Tryz.func75 [] rfl rfl rfl rfl rfl ?_
 refine au 4 rfl ?_
 by_cases hb2 : p1 = none
 ·replace s := s.1 hb2
  refine zg rfl (sem_ptrNilT p1 (.inl rfl) true rfl rfl TF.ptr_25 hb2 rfl ?_)
  refine au 2 rfl ?_
  exact zr (s.imp fun _ q => ⟨rfl, q⟩)
 ·replace s := s.2 hb2
  refine zg rfl (sem_ptrNilF p1 (.inl rfl) false rfl rfl TF.ptr_25 hb2 rfl ?_)
  refine au 7 rfl ?_
  refine znil s rfl rfl fun A3 s => ?_
  refine au 1 rfl ?_
  refine Run.ldSl s fun a5 n6 c7 h8 hl s => ?_
  refine zg rfl (sem_load1 (Addr.add A3 4) ((.slice a5 n6 c7)) rfl TF.agg_65 hl ?_)
  refine zg rfl (sem_lenSl a5 n6 c7 rfl TF.sl_65 ?_)
  refine au 3 rfl ?_
  obtain ⟨J14, m12, h0, s⟩ := s
  refine Run.of_fin (h0.imp fun h' h0 => ?_)
  refine Run.loop (σ := Int × Nat) (fun x e h => J14 x.1 x.2 h ∧ Agree [(0, (.pointer p1)), (9, (.slice a5 n6 c7)), (10, (.int .i64 ((n6 : Nat)))), (11, (.int .i64 (x.1)))] e) (fun x => x.2) ((0), m12) ⟨h0, ⟨rfl, rfl, rfl, rfl, trivial⟩⟩ ?_; clear h0
  rintro ⟨i9, m11⟩ e h10 ⟨hJ, hag⟩ ih13
  have s := s i9 m11 h10 hJ; clear hJ
  refine Run.env hag ?_; clear hag
  refine au 2 rfl ?_
  refine zt s rfl rfl rfl binI_lss_t binI_lss_f (fun s => ?_) fun s => ?_
  ·refine au 8 rfl ?_
   obtain ⟨A15, e16, hi0, hi1, s⟩ := s
   refine zg rfl (sem_indexAddrS A15 n6 c7 .i64 (i9) (congrArg (fun a => Value.slice a n6 c7) e16) rfl TF.slc_65 hi0 hi1 ?_)
   obtain ⟨i17, b18, s19, hl, s⟩ := s
   refine zn hl rfl rfl TF.agg_112 TF.sz_112 rfl ?_
   refine zal s rfl TF.zero_112 rfl fun k20 h21 s => ?_
   refine zsn s rfl rfl rfl TF.sz_112 rfl fun h22 s => ?_
   refine au 3 rfl ?_
   obtain ⟨i23, b24, s25, hl, s⟩ := s
   refine zn hl rfl rfl TF.agg_112 TF.sz_112 rfl ?_
   refine zcall s rfl rfl TF.goes_46 ?_
   rintro _ h26 ⟨rfl, s⟩
   refine au 6 rfl ?_
   exact Run.of_fin (s.imp fun h' ⟨m', hm, s⟩ => ih13 ((IntKind.wrap .i64 ((i9) + (1))), m') _ _ ⟨s, ⟨rfl, rfl, rfl, rfl, trivial⟩⟩ hm)
  ·refine au 6 rfl ?_
   refine znil s rfl rfl fun A27 s => ?_
   refine au 1 rfl ?_
   refine zs1 s rfl rfl rfl rfl TF.sz_65 fun h29 s => ?_
   refine au 1 rfl ?_
   exact zf (s.imp fun _ q => ⟨rfl, q⟩)
theorem C_wafer_Close.of {B : RO} {s1 : ByteArray} {h : Heap} {Q : ByteArray → Heap → Prop} (s : S_wafer_Close B s1 h Q) : C_wafer_Close B s1 h Q := by
 refine zspec Tryz.func76 [ResultVar.tmp 2] rfl rfl rfl rfl rfl ?_
 refine au 7 rfl ?_
 refine zg rfl (sem_lenStr s1 rfl TF.isStr_9 ?_)
 refine au 6 rfl ?_
 refine zt s rfl rfl rfl binI_gtr_t binI_gtr_f (fun s => ?_) fun s => ?_
 ·refine au 6 rfl ?_
  exact zr (s.imp fun _ q => ⟨_, rfl, q⟩)
 ·refine au 6 rfl ?_
  obtain ⟨hi0, s⟩ := s
  refine zg rfl (sem_shr .i64 .u64 ((ByteArray.size s1 : Nat)) (8) rfl rfl hi0 ?_)
  refine zg rfl (sem_convI .i64 .u8 (Int.fdiv ((ByteArray.size s1 : Nat)) (2 ^ (min (Int.toNat (8)) (IntKind.bits .i64)))) rfl TF.int_3 TF.int_5 ?_)
  refine au 1 rfl ?_
  refine zg rfl (sem_convI .i64 .u8 ((ByteArray.size s1 : Nat)) rfl TF.int_3 TF.int_5 ?_)
  refine zg rfl (sem_buildSliceL [(0, (.int .u8 (IntKind.wrap .u8 (Int.fdiv ((ByteArray.size s1 : Nat)) (2 ^ (min (Int.toNat (8)) (IntKind.bits .i64))))))), (1, (.int .u8 (IntKind.wrap .u8 ((ByteArray.size s1 : Nat)))))] [(.int .u8 (IntKind.wrap .u8 (Int.fdiv ((ByteArray.size s1 : Nat)) (2 ^ (min (Int.toNat (8)) (IntKind.bits .i64)))))), (.int .u8 (IntKind.wrap .u8 ((ByteArray.size s1 : Nat))))] TF.slc_104 TF.zero_5 rfl (by decide) (by decide) rfl rfl (fun k3 hb1 hb2 h4 hb3 => ?_))
  have s := s k3 hb1 hb2 h4 hb3
  refine zg rfl (sem_convW ((.slice (some ⟨k3, 0, none⟩) 2 2)) rfl (semH_mono (fun v h6 hv => ?_) s))
  obtain ⟨s5, rfl, s⟩ := hv
  refine au 1 rfl ?_
  obtain ⟨hi0, s⟩ := s
  refine zg rfl (sem_strAdd s5 s1 rfl rfl hi0 ?_)
  refine au 6 rfl ?_
  refine zcall s rfl rfl TF.goes_87 ?_
  rintro _ h7 ⟨i8, rfl, s⟩
  refine zcall s rfl rfl TF.goes_86 ?_
  rintro _ h9 ⟨s10, rfl, s⟩
  obtain ⟨hi0, s⟩ := s
  refine zg rfl (sem_strAdd (s5 ++ s1) s10 rfl rfl hi0 ?_)
  refine au 2 rfl ?_
  exact zr (s.imp fun _ q => ⟨_, rfl, q⟩)
theorem C_disk_Disk_Append.of {B : RO} {p1 : Option Addr} {i2 : Int} {s3 : ByteArray} {h : Heap} {Q : Int → Heap → Prop} (s : S_disk_Disk_Append B p1 i2 s3 h Q) : C_disk_Disk_Append B p1 i2 s3 h Q := by
 refine zspec Tryz.func77 [ResultVar.tmp 6] rfl rfl rfl rfl rfl ?_
 refine au 4 rfl ?_
 refine Run.seqJ (fun e h6 => Agree [(0, (.pointer p1)), (1, (.int .i64 (i2))), (2, (.string s3))] e ∧ S_disk_Disk_Append_J1 B p1 i2 s3 h6 Q) ?_ fun j5 => ?_
 ·rintro e h6 ⟨hag, s⟩
  refine Run.env hag ?_; clear hag
  refine au 1 rfl ?_
  refine Run.drawM (fun h' => h' = h6) [13] ⟨[0, 0, 1, 4, 10, 16, 32, 0, 192, 1, 512, 1535, 2559, 4607], [16383, 16383, 16382, 16379, 16373, 16367, 16351, 16383, 16191, 16382, 15871, 15357, 14335, 12031], [0, 0, 1, 5, 15, 31, 63, 0, 255, 1, 513, 2047, 4095, 8191], 8192⟩ (.q 0 (.q 1 (.q 2 (.q 3 (.q 4 (.q 5 (.q 6 (.q 7 (.q 8 (.q 9 (.q 10 (.q 11 (.q 12 (.x 13 .nil .no)))))))))))))) TF.mixed (by kernel_rfl) rfl ?_
  refine auT 2 rfl ?_
  obtain ⟨A7, e8, s⟩ := s
  refine zqe rfl (sem_nilCheck A7 (congrArg Value.pointer e8) ⟨rfl, rfl⟩) ?_
  refine auT 1 rfl ?_
  obtain ⟨hi0, hi1, s⟩ := s
  refine zqe rfl (sem_indexAddrA A7 .i64 (i2) rfl rfl TF.arr_64 hi0 hi1 ⟨rfl, rfl⟩) ?_
  refine auT 1 rfl ?_
  obtain ⟨s9, hl, s⟩ := s
  refine zqe rfl (sem_load1 (Addr.add A7 (Int.toNat (i2) * 2)) ((.string s9)) rfl TF.agg_9 hl ⟨rfl, rfl⟩) ?_
  refine auT 1 rfl ?_
  obtain ⟨hi0, s⟩ := s
  refine zqe rfl (sem_strAdd s9 s3 rfl rfl hi0 ⟨rfl, rfl⟩) ?_
  obtain ⟨A10, e11, s⟩ := s
  refine zqe rfl (sem_nilCheck A10 (congrArg Value.pointer e11) ⟨rfl, rfl⟩) ?_
  refine auT 1 rfl ?_
  obtain ⟨hi0, hi1, s⟩ := s
  refine zqe rfl (sem_indexAddrA A10 .i64 (i2) rfl rfl TF.arr_64 hi0 hi1 ⟨rfl, rfl⟩) ?_
  refine auT 1 rfl ?_
  obtain ⟨h12, hst, s⟩ := s
  refine ⟨zo0 rfl (sem_store1 (Addr.add A10 (Int.toNat (i2) * 2)) ((.string (s9 ++ s3))) h12 rfl rfl rfl TF.sz_9 hst ?_), trivial⟩
  refine ⟨fun hz => Bool.noConfusion hz, ?_⟩
  refine au 4 rfl ?_
  refine znil s rfl rfl fun A13 s => ?_
  refine au 1 rfl ?_
  refine Run.ldSl s fun a15 n16 c17 h18 hl s => ?_
  refine zg rfl (sem_load1 (Addr.add A13 4) ((.slice a15 n16 c17)) rfl TF.agg_65 hl ?_)
  refine au 2 rfl ?_
  refine zg rfl (sem_buildSL [(0, (.int .i64 (i2))), (2, (.string s3))] [(.int .i64 (i2)), (.bool false), (.string s3)] TF.zero_112 TF.places_112 rfl rfl ?_)
  refine zg rfl (sem_buildSliceL [(0, (.agg #[(.int .i64 (i2)), (.bool false), (.string s3)]))] [(.int .i64 (i2)), (.bool false), (.string s3)] TF.slc_65 TF.zero_112 rfl (by decide) (by decide) rfl rfl (fun k19 hb1 hb2 h20 hb3 => ?_))
  have s := s k19 hb1 hb2 h20 hb3
  refine zg rfl (sem_appendL [(.slice a15 n16 c17), (.slice (some ⟨k19, 0, none⟩) 1 1)] rfl (semH_mono (fun v h21 hv => ?_) s))
  obtain ⟨a22, n23, c24, rfl, s⟩ := hv
  refine znil s rfl rfl fun A25 s => ?_
  refine au 1 rfl ?_
  refine zs1 s rfl rfl rfl rfl TF.sz_65 fun h27 s => ?_
  refine au 5 rfl ?_
  exact zr (s.imp fun _ q => ⟨_, rfl, q⟩)
 refine au 4 rfl ?_
 by_cases hb28 : p1 = none
 ·replace s := s.1 hb28
  refine zg rfl (sem_ptrNilT p1 (.inl rfl) true rfl rfl TF.ptr_25 hb28 rfl ?_)
  refine au 7 rfl ?_
  exact zr (s.imp fun _ q => ⟨_, rfl, q⟩)
 ·replace s := s.2 hb28
  refine zg rfl (sem_ptrNilF p1 (.inl rfl) false rfl rfl TF.ptr_25 hb28 rfl ?_)
  refine au 6 rfl ?_
  refine zcall s rfl rfl TF.goes_48 ?_
  rintro _ h29 ⟨b30, rfl, s⟩
  cases b30
  ·replace s := s.2 rfl
   refine au 8 rfl ?_
   exact zr (s.imp fun _ q => ⟨_, rfl, q⟩)
  ·replace s := s.1 rfl
   refine au 7 rfl ?_
   refine zg rfl (sem_lenStr s3 rfl TF.isStr_9 ?_)
   refine au 2 rfl ?_
   refine znil s rfl rfl fun A31 s => ?_
   refine au 1 rfl ?_
   obtain ⟨hi0, hi1, s⟩ := s
   refine zg rfl (sem_indexAddrA A31 .i64 (i2) rfl rfl TF.arr_64 hi0 hi1 ?_)
   refine au 1 rfl ?_
   refine zl s rfl rfl TF.agg_9 fun s33 s => ?_
   refine zg rfl (sem_lenStr s33 rfl TF.isStr_9 ?_)
   refine au 1 rfl ?_
   refine zt s rfl rfl rfl binI_gtr_t binI_gtr_f (fun s => ?_) fun s => ?_
   ·refine au 7 rfl ?_
    exact zr (s.imp fun _ q => ⟨_, rfl, q⟩)
   ·refine au 5 rfl ?_
    exact Run.of_fin (s.imp fun h' s => j5 _ _ ⟨⟨rfl, rfl, rfl, trivial⟩, s⟩)
theorem C_tome_Tome_All.of {B : RO} {p1 : Option Addr} {h : Heap} {Q : Value → Heap → Prop} (s : S_tome_Tome_All B p1 h Q) : C_tome_Tome_All B p1 h Q := by
 refine zspec Tryz.func78 [ResultVar.tmp 2] rfl rfl rfl rfl rfl ?_
 refine au 2 rfl ?_
 refine zb1 s rfl rfl rfl rfl fun k3 h4 s => ?_
 refine au 7 rfl ?_
 exact zr (s.imp fun _ q => ⟨_, rfl, q⟩)
theorem C_slices_BinarySearchFunc_s_draft_entry_file_File_draft_entry_file_File_int.of {B : RO} {a1 : Option Addr} {n2 : Nat} {c3 : Nat} {i4 : Int} {v5 : Value} {h : Heap} {Q : Int → Bool → Heap → Prop} (s : S_slices_BinarySearchFunc_s_draft_entry_file_File_draft_entry_file_File_int B a1 n2 c3 i4 v5 h Q) : C_slices_BinarySearchFunc_s_draft_entry_file_File_draft_entry_file_File_int B a1 n2 c3 i4 v5 h Q := by
 refine zspec Tryz.func79 [ResultVar.tmp 6, ResultVar.tmp 7] rfl rfl rfl rfl rfl ?_
 refine au 8 rfl ?_
 refine zg rfl (sem_lenSl a1 n2 c3 rfl TF.sl_87 ?_)
 refine au 8 rfl ?_
 refine Run.seqJ (fun e h10 => ∃ i9 : Int, Agree [(0, (.slice a1 n2 c3)), (1, (.int .i64 (i4))), (2, v5), (8, (.int .i64 ((n2 : Nat)))), (9, (.int .i64 (i9)))] e ∧ S_slices_BinarySearchFunc_s_draft_entry_file_File_draft_entry_file_File_int_J1 B a1 n2 c3 i4 v5 i9 h10 Q) ?_ fun j8 => ?_
 ·rintro e h10 ⟨i9, hag, s⟩
  refine Run.env hag ?_; clear hag
  refine au 5 rfl ?_
  refine zt s rfl rfl rfl binI_lss_t binI_lss_f (fun s => ?_) fun s => ?_
  ·refine au 4 rfl ?_
   obtain ⟨A11, e12, hi0, hi1, s⟩ := s
   refine zg rfl (sem_indexAddrS A11 n2 c3 .i64 (i9) (congrArg (fun a => Value.slice a n2 c3) e12) rfl TF.slc_87 hi0 hi1 ?_)
   obtain ⟨i13, b14, s15, hl, s⟩ := s
   refine zn hl rfl rfl TF.agg_141 TF.sz_141 rfl ?_
   refine au 1 rfl ?_
   refine zg rfl (sem_callV (v5) [(.agg #[(.int .i64 (i13)), (.bool b14), (.string s15)]), (.int .i64 (i4))] rfl rfl s (fun nx h' ha => ha.mono fun v h16 hv => ?_))
   obtain ⟨i17, rfl, s⟩ := hv
   refine au 5 rfl ?_
   exact zr (s.imp fun _ q => ⟨_, _, rfl, q⟩)
  ·refine au 13 rfl ?_
   exact zr (s.imp fun _ q => ⟨_, _, rfl, q⟩)
 refine au 1 rfl ?_
 obtain ⟨J24, m22, h0, s⟩ := s
 refine Run.of_fin (h0.imp fun h' h0 => ?_)
 refine Run.loop (σ := Int × Int × Nat) (fun x e h => J24 x.1 x.2.1 x.2.2 h ∧ Agree [(0, (.slice a1 n2 c3)), (1, (.int .i64 (i4))), (2, v5), (8, (.int .i64 ((n2 : Nat)))), (9, (.int .i64 (x.1))), (10, (.int .i64 (x.2.1)))] e) (fun x => x.2.2) ((0), ((n2 : Nat)), m22) ⟨h0, ⟨rfl, rfl, rfl, rfl, rfl, rfl, trivial⟩⟩ ?_; clear h0
 rintro ⟨i18, i19, m21⟩ e h20 ⟨hJ, hag⟩ ih23
 have s := s i18 i19 m21 h20 hJ; clear hJ
 refine Run.env hag ?_; clear hag
 refine au 5 rfl ?_
 refine zt s rfl rfl rfl binI_lss_t binI_lss_f (fun s => ?_) fun s => ?_
 ·refine au 9 rfl ?_
  refine zg rfl (sem_convI .i64 .u64 (IntKind.wrap .i64 ((i18) + (i19))) rfl TF.int_3 TF.int_148 ?_)
  obtain ⟨hi0, s⟩ := s
  refine zg rfl (sem_shr .u64 .u64 (IntKind.wrap .u64 (IntKind.wrap .i64 ((i18) + (i19)))) (1) rfl rfl hi0 ?_)
  refine zg rfl (sem_convI .u64 .i64 (Int.fdiv (IntKind.wrap .u64 (IntKind.wrap .i64 ((i18) + (i19)))) (2 ^ (min (Int.toNat (1)) (IntKind.bits .u64)))) rfl TF.int_148 TF.int_3 ?_)
  refine au 7 rfl ?_
  obtain ⟨A25, e26, hi0, hi1, s⟩ := s
  refine zg rfl (sem_indexAddrS A25 n2 c3 .i64 (IntKind.wrap .i64 (Int.fdiv (IntKind.wrap .u64 (IntKind.wrap .i64 ((i18) + (i19)))) (2 ^ (min (Int.toNat (1)) (IntKind.bits .u64))))) (congrArg (fun a => Value.slice a n2 c3) e26) rfl TF.slc_87 hi0 hi1 ?_)
  obtain ⟨i27, b28, s29, hl, s⟩ := s
  refine zn hl rfl rfl TF.agg_141 TF.sz_141 rfl ?_
  refine au 1 rfl ?_
  refine zg rfl (sem_callV (v5) [(.agg #[(.int .i64 (i27)), (.bool b28), (.string s29)]), (.int .i64 (i4))] rfl rfl s (fun nx h' ha => ha.mono fun v h30 hv => ?_))
  obtain ⟨i31, rfl, s⟩ := hv
  refine zt s rfl rfl rfl binI_lss_t binI_lss_f (fun s => ?_) fun s => ?_
  ·refine au 8 rfl ?_
   exact Run.of_fin (s.imp fun h' ⟨m', hm, s⟩ => ih23 ((IntKind.wrap .i64 ((IntKind.wrap .i64 (Int.fdiv (IntKind.wrap .u64 (IntKind.wrap .i64 ((i18) + (i19)))) (2 ^ (min (Int.toNat (1)) (IntKind.bits .u64))))) + (1))), (i19), m') _ _ ⟨s, ⟨rfl, rfl, rfl, rfl, rfl, rfl, trivial⟩⟩ hm)
  ·refine au 7 rfl ?_
   exact Run.of_fin (s.imp fun h' ⟨m', hm, s⟩ => ih23 ((i18), (IntKind.wrap .i64 (Int.fdiv (IntKind.wrap .u64 (IntKind.wrap .i64 ((i18) + (i19)))) (2 ^ (min (Int.toNat (1)) (IntKind.bits .u64))))), m') _ _ ⟨s, ⟨rfl, rfl, rfl, rfl, rfl, rfl, trivial⟩⟩ hm)
 ·refine au 3 rfl ?_
  exact Run.of_fin (s.imp fun h' s => j8 _ _ ⟨(i18), ⟨rfl, rfl, rfl, rfl, rfl, trivial⟩, s⟩)
theorem C_draft_by_file_File.of {B : RO} {i1 : Int} {b2 : Bool} {s3 : ByteArray} {i4 : Int} {h : Heap} {Q : Int → Heap → Prop} (s : S_draft_by_file_File B i1 b2 s3 i4 h Q) : C_draft_by_file_File B i1 b2 s3 i4 h Q := by
 refine zspec Tryz.func80 [ResultVar.tmp 4] rfl rfl rfl rfl rfl ?_
 refine au 2 rfl ?_
 refine zbn s rfl rfl rfl fun k6 h7 s => ?_
 refine au 7 rfl ?_
 refine zl s rfl rfl TF.agg_3 fun i8 s => ?_
 refine au 1 rfl ?_
 refine zt s rfl rfl rfl binI_lss_t binI_lss_f (fun s => ?_) fun s => ?_
 ·refine au 7 rfl ?_
  exact zr (s.imp fun _ q => ⟨_, rfl, q⟩)
 ·refine au 6 rfl ?_
  refine zl s rfl rfl TF.agg_3 fun i9 s => ?_
  refine au 1 rfl ?_
  refine zt s rfl rfl rfl binI_gtr_t binI_gtr_f (fun s => ?_) fun s => ?_
  ·refine au 7 rfl ?_
   exact zr (s.imp fun _ q => ⟨_, rfl, q⟩)
  ·refine au 9 rfl ?_
   exact zr (s.imp fun _ q => ⟨_, rfl, q⟩)
theorem C_cell_Row_file_File_is.of {B : RO} {p1 : Option Addr} {i2 : Int} {h : Heap} {Q : Bool → Heap → Prop} (s : S_cell_Row_file_File_is B p1 i2 h Q) : C_cell_Row_file_File_is B p1 i2 h Q := by
 refine zspec Tryz.func83 [ResultVar.tmp 4] rfl rfl rfl rfl rfl ?_
 refine au 7 rfl ?_
 by_cases hb4 : p1 = none
 ·replace s := s.1 hb4
  refine zg rfl (sem_ptrNilT p1 (.inr rfl) false rfl rfl TF.ptr_149 hb4 rfl ?_)
  refine au 15 rfl ?_
  exact zr (s.imp fun _ q => ⟨_, rfl, q⟩)
 ·replace s := s.2 hb4
  refine zg rfl (sem_ptrNilF p1 (.inr rfl) true rfl rfl TF.ptr_149 hb4 rfl ?_)
  refine au 2 rfl ?_
  refine zt s rfl rfl rfl binI_geq_t binI_geq_f (fun s => ?_) fun s => ?_
  ·refine au 4 rfl ?_
   refine znil s rfl rfl fun A5 s => ?_
   refine au 1 rfl ?_
   refine Run.ldSl s fun a7 n8 c9 h10 hl s => ?_
   refine zg rfl (sem_load1 A5 ((.slice a7 n8 c9)) rfl TF.agg_178 hl ?_)
   refine zg rfl (sem_lenSl a7 n8 c9 rfl TF.sl_178 ?_)
   refine au 4 rfl ?_
   exact zr (s.imp fun _ q => ⟨_, rfl, q⟩)
  ·refine au 12 rfl ?_
   exact zr (s.imp fun _ q => ⟨_, rfl, q⟩)
theorem C_wafer_All.of {B : RO} {s1 : ByteArray} {h : Heap} {Q : Value → Heap → Prop} (s : S_wafer_All B s1 h Q) : C_wafer_All B s1 h Q := by
 refine zspec Tryz.func84 [ResultVar.tmp 2] rfl rfl rfl rfl rfl ?_
 refine au 2 rfl ?_
 refine zb1 s rfl rfl rfl rfl fun k3 h4 s => ?_
 refine au 7 rfl ?_
 exact zr (s.imp fun _ q => ⟨_, rfl, q⟩)
theorem C_wal_Log_All_1.of {B : RO} {v1 : Value} {A2 : Addr} {h : Heap} {Q : Heap → Prop} (s : S_wal_Log_All_1 B v1 A2 h Q) : C_wal_Log_All_1 B v1 A2 h Q := by
 refine zspec Tryz.func85 [] rfl rfl rfl rfl rfl ?_
 refine au 2 rfl ?_
 obtain ⟨hone, s⟩ := s
 refine zg rfl (sem_box1N (v1) rfl hone (fun k3 hb1 hb2 h4 hb3 => ?_))
 have s := s k3 hb1 hb2 h4 hb3
 refine au 4 rfl ?_
 refine zl s rfl rfl TF.agg_118 fun p5 s => ?_
 by_cases hb6 : p5 = none
 ·replace s := s.1 hb6
  refine zg rfl (sem_ptrNilT p5 (.inl rfl) true rfl rfl TF.ptr_118 hb6 rfl ?_)
  refine au 2 rfl ?_
  exact zr (s.imp fun _ q => ⟨rfl, q⟩)
 ·replace s := s.2 hb6
  refine zg rfl (sem_ptrNilF p5 (.inl rfl) false rfl rfl TF.ptr_118 hb6 rfl ?_)
  refine au 4 rfl ?_
  refine Run.drawM (fun h' => h' = h4) [8, 9] ⟨[0, 1, 2, 4, 0, 16, 32, 64, 136, 256], [1023, 1022, 1021, 1019, 1023, 1007, 991, 959, 887, 767], [0, 1, 3, 7, 0, 16, 48, 112, 255, 511], 768⟩ (.q 0 (.q 1 (.q 2 (.q 3 (.q 4 (.q 5 (.q 6 (.q 7 (.x 8 (.x 9 .nil .no) .no))))))))) TF.mixed (by kernel_rfl) rfl ?_
  obtain ⟨p7, hl, s⟩ := s
  refine zqe rfl (sem_load1 A2 ((.pointer p7)) rfl TF.agg_118 hl ⟨rfl, rfl⟩) ?_
  obtain ⟨A8, e9, s⟩ := s
  refine zqe rfl (sem_nilCheck A8 (congrArg Value.pointer e9) ⟨rfl, rfl⟩) ?_
  refine auT 1 rfl ?_
  obtain ⟨p10, hl, s⟩ := s
  refine zqe rfl (sem_load1 A8 ((.pointer p10)) rfl TF.agg_25 hl ⟨rfl, rfl⟩) ?_
  obtain ⟨p11, hl, s⟩ := s
  refine zqe rfl (sem_load1 A2 ((.pointer p11)) rfl TF.agg_118 hl ⟨rfl, rfl⟩) ?_
  obtain ⟨A12, e13, s⟩ := s
  refine zqe rfl (sem_nilCheck A12 (congrArg Value.pointer e13) ⟨rfl, rfl⟩) ?_
  refine auT 1 rfl ?_
  obtain ⟨i14, hl, s⟩ := s
  refine zqe rfl (sem_load1 (Addr.add A12 1) ((.int .i64 (i14))) rfl TF.agg_3 hl ⟨rfl, rfl⟩) ?_
  refine ⟨zo rfl (sem_callL [(.pointer p10), (.int .i64 (i14))] (TF.goes_20) rfl rfl (Spec.mono s fun v h15 hv => ?_)), trivial⟩
  obtain ⟨s16, rfl, s⟩ := hv
  refine ⟨fun hz => Bool.noConfusion hz, ?_⟩
  refine ⟨zo rfl (sem_callL [(.string s16)] (TF.goes_84) rfl rfl (Spec.mono s fun v18 h17 hv => ?_)), trivial⟩
  obtain ⟨_, rfl, s⟩ := hv
  refine ⟨fun hz => Bool.noConfusion hz, ?_⟩
  refine au 1 rfl ?_
  obtain ⟨xs24, G20, J23, hit, hins, hG, h0, s, hR⟩ := s
  refine Run.of_fin (h0.imp fun h' h0 => ?_)
  refine Run.range (v18) (xs24.map (fun x : ByteArray => [(.string x)])) G20 J23 rfl hit hins hG h0 rfl (fun a ha => by obtain ⟨x, _, rfl⟩ := List.mem_map.1 ha; rfl) ?_ ?_
  ·rintro q22 args h21 ha hJ
   obtain ⟨s19, hx, rfl⟩ := Option.map_eq_some_iff.1 ((List.getElem?_map ..).symm.trans ha)
   have s := s q22 h21 s19 hx hJ; clear hJ hx ha
   refine zput rfl ?_
   refine au 3 rfl ?_
   refine Run.begin ⟨rfl, ?_⟩
   refine au 3 rfl ?_
   refine zl s rfl rfl TF.agg_182 fun v25 s => ?_
   refine au 1 rfl ?_
   refine zg rfl (sem_callV (v25) [(.string s19)] rfl rfl s (fun nx h' ha => ha.mono fun v h26 hv => ?_))
   obtain ⟨b27, rfl, s⟩ := hv
   cases b27
   ·replace s := s.2 rfl
    refine au 3 rfl ?_
    refine Run.ret (.inr ⟨_, rfl, ?_⟩)
    exact zr (s.imp fun _ q => ⟨rfl, q⟩)
   ·replace s := s.1 rfl
    refine au 5 rfl ?_
    refine Run.of_fin (s.imp fun h' s => ?_)
    exact Run.fall (.inl ⟨rfl, s⟩)
  ·intro h21 hJ
   have s := hR h21 (by simpa using hJ); clear hJ hR
   refine au 1 rfl ?_
   exact zf (s.imp fun _ q => ⟨rfl, q⟩)
theorem C_wafer_foots.of {B : RO} {i1 : Int} {h : Heap} {Q : ByteArray → Heap → Prop} (s : S_wafer_foots B i1 h Q) : C_wafer_foots B i1 h Q := by
 refine zspec Tryz.func86 [ResultVar.tmp 2] rfl rfl rfl rfl rfl ?_
 refine au 7 rfl ?_
 refine zg rfl (sem_convI .u32 .u8 (i1) rfl TF.int_184 TF.int_5 ?_)
 refine au 1 rfl ?_
 obtain ⟨hi0, s⟩ := s
 refine zg rfl (sem_shr .u32 .u64 (i1) (8) rfl rfl hi0 ?_)
 refine zg rfl (sem_convI .u32 .u8 (Int.fdiv (i1) (2 ^ (min (Int.toNat (8)) (IntKind.bits .u32)))) rfl TF.int_184 TF.int_5 ?_)
 refine au 1 rfl ?_
 obtain ⟨hi0, s⟩ := s
 refine zg rfl (sem_shr .u32 .u64 (i1) (16) rfl rfl hi0 ?_)
 refine zg rfl (sem_convI .u32 .u8 (Int.fdiv (i1) (2 ^ (min (Int.toNat (16)) (IntKind.bits .u32)))) rfl TF.int_184 TF.int_5 ?_)
 refine au 1 rfl ?_
 obtain ⟨hi0, s⟩ := s
 refine zg rfl (sem_shr .u32 .u64 (i1) (24) rfl rfl hi0 ?_)
 refine zg rfl (sem_convI .u32 .u8 (Int.fdiv (i1) (2 ^ (min (Int.toNat (24)) (IntKind.bits .u32)))) rfl TF.int_184 TF.int_5 ?_)
 refine zg rfl (sem_buildSliceL [(0, (.int .u8 (IntKind.wrap .u8 (i1)))), (1, (.int .u8 (IntKind.wrap .u8 (Int.fdiv (i1) (2 ^ (min (Int.toNat (8)) (IntKind.bits .u32))))))), (2, (.int .u8 (IntKind.wrap .u8 (Int.fdiv (i1) (2 ^ (min (Int.toNat (16)) (IntKind.bits .u32))))))), (3, (.int .u8 (IntKind.wrap .u8 (Int.fdiv (i1) (2 ^ (min (Int.toNat (24)) (IntKind.bits .u32)))))))] [(.int .u8 (IntKind.wrap .u8 (i1))), (.int .u8 (IntKind.wrap .u8 (Int.fdiv (i1) (2 ^ (min (Int.toNat (8)) (IntKind.bits .u32)))))), (.int .u8 (IntKind.wrap .u8 (Int.fdiv (i1) (2 ^ (min (Int.toNat (16)) (IntKind.bits .u32)))))), (.int .u8 (IntKind.wrap .u8 (Int.fdiv (i1) (2 ^ (min (Int.toNat (24)) (IntKind.bits .u32))))))] TF.slc_104 TF.zero_5 rfl (by decide) (by decide) rfl rfl (fun k3 hb1 hb2 h4 hb3 => ?_))
 have s := s k3 hb1 hb2 h4 hb3
 refine zg rfl (sem_convW ((.slice (some ⟨k3, 0, none⟩) 4 4)) rfl (semH_mono (fun v h6 hv => ?_) s))
 obtain ⟨s5, rfl, s⟩ := hv
 refine au 2 rfl ?_
 exact zr (s.imp fun _ q => ⟨_, rfl, q⟩)
theorem C_wafer_Sum.of {B : RO} {s1 : ByteArray} {h : Heap} {Q : Int → Heap → Prop} (s : S_wafer_Sum B s1 h Q) : C_wafer_Sum B s1 h Q := by
 refine zspec Tryz.func87 [ResultVar.tmp 2] rfl rfl rfl rfl rfl ?_
 refine au 12 rfl ?_
 refine zg rfl (sem_lenStr s1 rfl TF.isStr_9 ?_)
 refine au 3 rfl ?_
 obtain ⟨J9, m7, h0, s⟩ := s
 refine Run.of_fin (h0.imp fun h' h0 => ?_)
 refine Run.loop (σ := Int × Int × Nat) (fun x e h => J9 x.1 x.2.1 x.2.2 h ∧ Agree [(0, (.string s1)), (3, (.int .u32 (x.1))), (6, (.int .i64 ((ByteArray.size s1 : Nat)))), (7, (.int .i64 (x.2.1)))] e) (fun x => x.2.2) ((4294967295), (0), m7) ⟨h0, ⟨rfl, rfl, rfl, rfl, trivial⟩⟩ ?_; clear h0
 rintro ⟨i3, i4, m6⟩ e h5 ⟨hJ, hag⟩ ih8
 have s := s i3 i4 m6 h5 hJ; clear hJ
 refine Run.env hag ?_; clear hag
 refine au 2 rfl ?_
 refine zt s rfl rfl rfl binI_lss_t binI_lss_f (fun s => ?_) fun s => ?_
 ·refine au 16 rfl ?_
  obtain ⟨hi0, hi1, s⟩ := s
  refine zg rfl (sem_indexStr' s1 .i64 (i4) rfl rfl TF.isStr_9 hi0 hi1 ?_)
  refine zg rfl (sem_convI .u8 .u32 (byteAt s1 (Int.toNat (i4))) rfl TF.int_5 TF.int_184 ?_)
  refine au 8 rfl ?_
  obtain ⟨J16, m14, h0, s⟩ := s
  refine Run.of_fin (h0.imp fun h' h0 => ?_)
  refine Run.loop (σ := Int × Int × Nat) (fun x e h => J16 x.1 x.2.1 x.2.2 h ∧ Agree [(0, (.string s1)), (3, (.int .u32 (x.1))), (6, (.int .i64 ((ByteArray.size s1 : Nat)))), (7, (.int .i64 (i4))), (16, (.int .i64 (x.2.1)))] e) (fun x => x.2.2) ((IntKind.wrap .u32 ((BitVec.ofInt (IntKind.bits .u32) (i3) ^^^ BitVec.ofInt (IntKind.bits .u32) (IntKind.wrap .u32 (byteAt s1 (Int.toNat (i4))))).toNat : Int)), (0), m14) ⟨h0, ⟨rfl, rfl, rfl, rfl, rfl, trivial⟩⟩ ?_; clear h0
  rintro ⟨i10, i11, m13⟩ e h12 ⟨hJ, hag⟩ ih15
  have s := s i10 i11 m13 h12 hJ; clear hJ
  refine Run.env hag ?_; clear hag
  refine au 2 rfl ?_
  refine zt s rfl rfl rfl binI_lss_t binI_lss_f (fun s => ?_) fun s => ?_
  ·refine au 8 rfl ?_
   obtain ⟨hi0, s⟩ := s
   refine zg rfl (sem_shr .u32 .u64 (i10) (1) rfl rfl hi0 ?_)
   refine au 2 rfl ?_
   refine zg rfl (sem_neg .u32 (IntKind.wrap .u32 ((BitVec.ofInt (IntKind.bits .u32) (i10) &&& BitVec.ofInt (IntKind.bits .u32) (1)).toNat : Int)) rfl ?_)
   refine au 9 rfl ?_
   exact Run.of_fin (s.imp fun h' ⟨m', hm, s⟩ => ih15 ((IntKind.wrap .u32 ((BitVec.ofInt (IntKind.bits .u32) (Int.fdiv (i10) (2 ^ (min (Int.toNat (1)) (IntKind.bits .u32)))) ^^^ BitVec.ofInt (IntKind.bits .u32) (IntKind.wrap .u32 ((BitVec.ofInt (IntKind.bits .u32) (2197175160) &&& BitVec.ofInt (IntKind.bits .u32) (IntKind.wrap .u32 (0 - (IntKind.wrap .u32 ((BitVec.ofInt (IntKind.bits .u32) (i10) &&& BitVec.ofInt (IntKind.bits .u32) (1)).toNat : Int))))).toNat : Int))).toNat : Int)), (IntKind.wrap .i64 ((i11) + (1))), m') _ _ ⟨s, ⟨rfl, rfl, rfl, rfl, rfl, trivial⟩⟩ hm)
  ·refine au 9 rfl ?_
   exact Run.of_fin (s.imp fun h' ⟨m', hm, s⟩ => ih8 ((i10), (IntKind.wrap .i64 ((i4) + (1))), m') _ _ ⟨s, ⟨rfl, rfl, rfl, rfl, trivial⟩⟩ hm)
 ·refine au 7 rfl ?_
  refine zg rfl (sem_xorU .u32 (i3) rfl (.int .u32 (IntKind.wrap .u32 (((BitVec.ofInt (IntKind.bits .u32) (if IntKind.signed .u32 then (-1 : Int) else IntKind.max .u32) ^^^ BitVec.ofInt (IntKind.bits .u32) (i3)).toNat : Int)))) ⟨rfl, rfl⟩ ?_)
  refine au 2 rfl ?_
  exact zr (s.imp fun _ q => ⟨_, rfl, q⟩)
theorem C_tome_Tome_All_1.of {B : RO} {v1 : Value} {A2 : Addr} {h : Heap} {Q : Heap → Prop} (s : S_tome_Tome_All_1 B v1 A2 h Q) : C_tome_Tome_All_1 B v1 A2 h Q := by
 refine zspec Tryz.func88 [] rfl rfl rfl rfl rfl ?_
 refine au 2 rfl ?_
 obtain ⟨hone, s⟩ := s
 refine zg rfl (sem_box1N (v1) rfl hone (fun k3 hb1 hb2 h4 hb3 => ?_))
 have s := s k3 hb1 hb2 h4 hb3
 refine au 4 rfl ?_
 refine zl s rfl rfl TF.agg_44 fun p5 s => ?_
 by_cases hb6 : p5 = none
 ·replace s := s.1 hb6
  refine zg rfl (sem_ptrNilT p5 (.inl rfl) true rfl rfl TF.ptr_44 hb6 rfl ?_)
  refine au 2 rfl ?_
  exact zr (s.imp fun _ q => ⟨rfl, q⟩)
 ·replace s := s.2 hb6
  refine zg rfl (sem_ptrNilF p5 (.inl rfl) false rfl rfl TF.ptr_44 hb6 rfl ?_)
  refine au 5 rfl ?_
  refine zl s rfl rfl TF.agg_44 fun p7 s => ?_
  refine znil s rfl rfl fun A8 s => ?_
  refine au 1 rfl ?_
  refine zl s rfl rfl TF.agg_149 fun p10 s => ?_
  refine zcall s rfl rfl TF.goes_89 ?_
  rintro v12 h11 ⟨_, rfl, s⟩
  refine au 2 rfl ?_
  obtain ⟨xs20, G16, J19, hit, hins, hG, h0, s, hR⟩ := s
  refine Run.of_fin (h0.imp fun h' h0 => ?_)
  refine Run.range (v12) (xs20.map (fun x : Int × Bool × ByteArray => [(.int .i64 (x.1)), (.agg #[(.bool x.2.1), (.string x.2.2)])])) G16 J19 rfl hit hins hG h0 rfl (fun a ha => by obtain ⟨x, _, rfl⟩ := List.mem_map.1 ha; rfl) ?_ ?_
  ·rintro q18 args h17 ha hJ
   obtain ⟨⟨i13, b14, s15⟩, hx, rfl⟩ := Option.map_eq_some_iff.1 ((List.getElem?_map ..).symm.trans ha)
   have s := s q18 h17 i13 b14 s15 hx hJ; clear hJ hx ha
   refine zput rfl ?_
   refine au 5 rfl ?_
   refine zal s rfl TF.zero_90 rfl fun k21 h22 s => ?_
   refine zsn s rfl rfl rfl TF.sz_90 rfl fun h23 s => ?_
   refine au 1 rfl ?_
   refine Run.begin ⟨rfl, ?_⟩
   refine au 4 rfl ?_
   refine zl s rfl rfl TF.agg_4 fun b24 s => ?_
   cases b24
   ·replace s := s.2 rfl
    refine au 11 rfl ?_
    refine Run.of_fin (s.imp fun h' s => ?_)
    exact Run.fall (.inl ⟨rfl, s⟩)
   ·replace s := s.1 rfl
    refine au 1 rfl ?_
    refine zl s rfl rfl TF.agg_94 fun v25 s => ?_
    refine au 1 rfl ?_
    obtain ⟨b26, s27, hl, s⟩ := s
    refine zn hl rfl rfl TF.agg_90 TF.sz_90 rfl ?_
    refine zg rfl (sem_callV (v25) [(.int .i64 (i13)), (.agg #[(.bool b26), (.string s27)])] rfl rfl s (fun nx h' ha => ha.mono fun v h28 hv => ?_))
    obtain ⟨b29, rfl, s⟩ := hv
    cases b29
    ·replace s := s.2 rfl
     refine au 4 rfl ?_
     refine Run.ret (.inr ⟨_, rfl, ?_⟩)
     exact zr (s.imp fun _ q => ⟨rfl, q⟩)
    ·replace s := s.1 rfl
     refine au 6 rfl ?_
     refine Run.of_fin (s.imp fun h' s => ?_)
     exact Run.fall (.inl ⟨rfl, s⟩)
  ·intro h17 hJ
   have s := hR h17 (by simpa using hJ); clear hJ hR
   refine au 1 rfl ?_
   exact zf (s.imp fun _ q => ⟨rfl, q⟩)
theorem C_cell_Row_file_File_All.of {B : RO} {p1 : Option Addr} {h : Heap} {Q : Value → Heap → Prop} (s : S_cell_Row_file_File_All B p1 h Q) : C_cell_Row_file_File_All B p1 h Q := by
 refine zspec Tryz.func89 [ResultVar.tmp 2] rfl rfl rfl rfl rfl ?_
 refine au 2 rfl ?_
 refine zb1 s rfl rfl rfl rfl fun k3 h4 s => ?_
 refine au 7 rfl ?_
 exact zr (s.imp fun _ q => ⟨_, rfl, q⟩)
theorem C_wafer_All_1.of {B : RO} {v1 : Value} {A2 : Addr} {h : Heap} {Q : Heap → Prop} (s : S_wafer_All_1 B v1 A2 h Q) : C_wafer_All_1 B v1 A2 h Q := by
 refine zspec Tryz.func91 [] rfl rfl rfl rfl rfl ?_
 refine au 2 rfl ?_
 refine zl s rfl rfl TF.agg_9 fun s3 s => ?_
 refine au 3 rfl ?_
 obtain ⟨J9, m7, h0, s⟩ := s
 refine Run.of_fin (h0.imp fun h' h0 => ?_)
 refine Run.loop (σ := ByteArray × Nat) (fun x e h => J9 x.1 x.2 h ∧ Agree [(0, v1), (3, (.string x.1))] e) (fun x => x.2) (s3, m7) ⟨h0, ⟨rfl, rfl, trivial⟩⟩ ?_; clear h0
 rintro ⟨s4, m6⟩ e h5 ⟨hJ, hag⟩ ih8
 have s := s s4 m6 h5 hJ; clear hJ
 refine Run.env hag ?_; clear hag
 refine au 4 rfl ?_
 refine zcall s rfl rfl TF.goes_92 ?_
 rintro _ h10 ⟨s11, i12, rfl, s⟩
 refine au 10 rfl ?_
 refine zt s rfl rfl rfl binI_eql_t binI_eql_f (fun s => ?_) fun s => ?_
 ·refine au 8 rfl ?_
  exact zr (s.imp fun _ q => ⟨rfl, q⟩)
 ·refine au 3 rfl ?_
  refine zg rfl (sem_callV (v1) [(.string s11)] rfl rfl s (fun nx h' ha => ha.mono fun v h13 hv => ?_))
  obtain ⟨b14, rfl, s⟩ := hv
  cases b14
  ·replace s := s.2 rfl
   refine au 4 rfl ?_
   exact zr (s.imp fun _ q => ⟨rfl, q⟩)
  ·replace s := s.1 rfl
   refine au 8 rfl ?_
   obtain ⟨hi0, hi1, hi2, s⟩ := s
   refine zg rfl (sem_sliceStrI s4 (i12) ((ByteArray.size s4 : Nat)) rfl TF.isStr_9 ⟨_, rfl⟩ rfl hi0 hi1 hi2 ?_)
   refine au 3 rfl ?_
   exact Run.of_fin (s.imp fun h' ⟨m', hm, s⟩ => ih8 ((ByteArray.extract s4 (Int.toNat (i12)) (Int.toNat ((ByteArray.size s4 : Nat)))), m') _ _ ⟨s, ⟨rfl, rfl, trivial⟩⟩ hm)
theorem C_wafer_Open.of {B : RO} {s1 : ByteArray} {h : Heap} {Q : ByteArray → Int → Heap → Prop} (s : S_wafer_Open B s1 h Q) : C_wafer_Open B s1 h Q := by
 refine zspec Tryz.func92 [ResultVar.tmp 2, ResultVar.tmp 3] rfl rfl rfl rfl rfl ?_
 refine au 9 rfl ?_
 refine zg rfl (sem_lenStr s1 rfl TF.isStr_9 ?_)
 refine zt s rfl rfl rfl binI_lss_t binI_lss_f (fun s => ?_) fun s => ?_
 ·refine au 7 rfl ?_
  exact zr (s.imp fun _ q => ⟨_, _, rfl, q⟩)
 ·refine au 4 rfl ?_
  refine Run.drawM (fun h' => h' = h) [] ⟨[0, 1, 2, 4, 0, 16, 32, 72, 255], [511, 510, 509, 507, 511, 495, 479, 439, 383], [0, 0, 0, 0, 0, 0, 0, 0, 0], 0⟩ (.q 0 (.q 1 (.q 2 (.q 3 (.q 4 (.q 5 (.q 6 (.q 7 (.q 8 .nil))))))))) TF.mixed (by kernel_rfl) rfl ?_
  refine auT 1 rfl ?_
  obtain ⟨hi0, hi1, s⟩ := s
  refine zqe rfl (sem_indexStr' s1 .i64 (0) rfl rfl TF.isStr_9 hi0 hi1 ⟨rfl, rfl⟩) ?_
  refine zqe rfl (sem_convI .u8 .i64 (byteAt s1 (Int.toNat (0))) rfl TF.int_5 TF.int_3 ⟨rfl, rfl⟩) ?_
  obtain ⟨hi0, s⟩ := s
  refine zqe rfl (sem_shl .i64 .u64 (IntKind.wrap .i64 (byteAt s1 (Int.toNat (0)))) (8) rfl rfl hi0 ⟨rfl, rfl⟩) ?_
  refine auT 1 rfl ?_
  obtain ⟨hi0, hi1, s⟩ := s
  refine zqe rfl (sem_indexStr' s1 .i64 (1) rfl rfl TF.isStr_9 hi0 hi1 ⟨rfl, rfl⟩) ?_
  refine zqe rfl (sem_convI .u8 .i64 (byteAt s1 (Int.toNat (1))) rfl TF.int_5 TF.int_3 ⟨rfl, rfl⟩) ?_
  refine auT 2 rfl ?_
  refine au 7 rfl ?_
  refine Run.seqJ (fun e h5 => Agree [(0, (.string s1)), (4, (.int .i64 (IntKind.wrap .i64 ((BitVec.ofInt (IntKind.bits .i64) (IntKind.wrap .i64 ((IntKind.wrap .i64 (byteAt s1 (Int.toNat (0)))) * 2 ^ (min (Int.toNat (8)) (IntKind.bits .i64)))) ||| BitVec.ofInt (IntKind.bits .i64) (IntKind.wrap .i64 (byteAt s1 (Int.toNat (1))))).toNat : Int)))), (5, (.int .i64 (IntKind.wrap .i64 ((IntKind.wrap .i64 ((2) + (IntKind.wrap .i64 ((BitVec.ofInt (IntKind.bits .i64) (IntKind.wrap .i64 ((IntKind.wrap .i64 (byteAt s1 (Int.toNat (0)))) * 2 ^ (min (Int.toNat (8)) (IntKind.bits .i64)))) ||| BitVec.ofInt (IntKind.bits .i64) (IntKind.wrap .i64 (byteAt s1 (Int.toNat (1))))).toNat : Int)))) + (4)))))] e ∧ S_wafer_Open_J1 B s1 h5 Q) ?_ fun j4 => ?_
  ·rintro e h5 ⟨hag, s⟩
   refine Run.env hag ?_; clear hag
   refine au 2 rfl ?_
   obtain ⟨hi0, hi1, hi2, s⟩ := s
   have f10 := hi0; have f11 := hi1; have f12 := hi2
   obtain ⟨hi0, hi1, hi2, s⟩ := s
   have f18 := hi0; have f19 := hi1; have f20 := hi2
   refine Run.drawM (fun h' => True) [] ⟨[0, 0, 2, 5, 8, 16, 0, 0, 128, 0, 832, 1056], [4095, 4095, 4093, 4090, 4087, 4079, 4095, 4095, 3967, 4095, 3263, 3039], [0, 0, 0, 0, 0, 0, 0, 0, 0, 0, 0, 0], 0⟩ (.q 0 (.q 1 (.q 2 (.q 3 (.q 6 (.q 7 (.q 8 (.q 9 (.q 10 (.x 4 (.x 5 (.q 11 .nil) .no) .no)))))))))) TF.mixed (by kernel_rfl) trivial ?_
   refine auT 3 rfl ?_
   refine zq rfl (fun _ hC => sem_sliceStrI s1 (0) (IntKind.wrap .i64 ((2) + (IntKind.wrap .i64 ((BitVec.ofInt (IntKind.bits .i64) (IntKind.wrap .i64 ((IntKind.wrap .i64 (byteAt s1 (Int.toNat (0)))) * 2 ^ (min (Int.toNat (8)) (IntKind.bits .i64)))) ||| BitVec.ofInt (IntKind.bits .i64) (IntKind.wrap .i64 (byteAt s1 (Int.toNat (1))))).toNat : Int)))) rfl TF.isStr_9 rfl ⟨_, rfl⟩ f10 f11 f12 ⟨rfl, rfl⟩) ?_
   refine auT 4 rfl ?_
   refine zq rfl (fun _ hC => sem_sliceStrI s1 (IntKind.wrap .i64 ((2) + (IntKind.wrap .i64 ((BitVec.ofInt (IntKind.bits .i64) (IntKind.wrap .i64 ((IntKind.wrap .i64 (byteAt s1 (Int.toNat (0)))) * 2 ^ (min (Int.toNat (8)) (IntKind.bits .i64)))) ||| BitVec.ofInt (IntKind.bits .i64) (IntKind.wrap .i64 (byteAt s1 (Int.toNat (1))))).toNat : Int)))) (IntKind.wrap .i64 ((IntKind.wrap .i64 ((2) + (IntKind.wrap .i64 ((BitVec.ofInt (IntKind.bits .i64) (IntKind.wrap .i64 ((IntKind.wrap .i64 (byteAt s1 (Int.toNat (0)))) * 2 ^ (min (Int.toNat (8)) (IntKind.bits .i64)))) ||| BitVec.ofInt (IntKind.bits .i64) (IntKind.wrap .i64 (byteAt s1 (Int.toNat (1))))).toNat : Int)))) + (4))) rfl TF.isStr_9 ⟨_, rfl⟩ ⟨_, rfl⟩ f18 f19 f20 ⟨rfl, rfl⟩) ?_
   refine ⟨zo rfl (sem_callL [(.string (ByteArray.extract s1 (Int.toNat (0)) (Int.toNat (IntKind.wrap .i64 ((2) + (IntKind.wrap .i64 ((BitVec.ofInt (IntKind.bits .i64) (IntKind.wrap .i64 ((IntKind.wrap .i64 (byteAt s1 (Int.toNat (0)))) * 2 ^ (min (Int.toNat (8)) (IntKind.bits .i64)))) ||| BitVec.ofInt (IntKind.bits .i64) (IntKind.wrap .i64 (byteAt s1 (Int.toNat (1))))).toNat : Int)))))))] (TF.goes_87) rfl rfl (Spec.mono s fun v h21 hv => ?_)), trivial⟩
   obtain ⟨i22, rfl, s⟩ := hv
   refine ⟨fun _ => trivial, ?_⟩
   refine ⟨zo rfl (sem_callL [(.int .u32 (i22))] (TF.goes_86) rfl rfl (Spec.mono s fun v h23 hv => ?_)), trivial⟩
   obtain ⟨s24, rfl, s⟩ := hv
   refine ⟨fun _ => trivial, ?_⟩
   by_cases hb25 : s24 = (ByteArray.extract s1 (Int.toNat (IntKind.wrap .i64 ((2) + (IntKind.wrap .i64 ((BitVec.ofInt (IntKind.bits .i64) (IntKind.wrap .i64 ((IntKind.wrap .i64 (byteAt s1 (Int.toNat (0)))) * 2 ^ (min (Int.toNat (8)) (IntKind.bits .i64)))) ||| BitVec.ofInt (IntKind.bits .i64) (IntKind.wrap .i64 (byteAt s1 (Int.toNat (1))))).toNat : Int))))) (Int.toNat (IntKind.wrap .i64 ((IntKind.wrap .i64 ((2) + (IntKind.wrap .i64 ((BitVec.ofInt (IntKind.bits .i64) (IntKind.wrap .i64 ((IntKind.wrap .i64 (byteAt s1 (Int.toNat (0)))) * 2 ^ (min (Int.toNat (8)) (IntKind.bits .i64)))) ||| BitVec.ofInt (IntKind.bits .i64) (IntKind.wrap .i64 (byteAt s1 (Int.toNat (1))))).toNat : Int)))) + (4)))))
   ·replace s := s.1 hb25
    refine zq rfl (fun _ _ => sem_strNeT s24 (ByteArray.extract s1 (Int.toNat (IntKind.wrap .i64 ((2) + (IntKind.wrap .i64 ((BitVec.ofInt (IntKind.bits .i64) (IntKind.wrap .i64 ((IntKind.wrap .i64 (byteAt s1 (Int.toNat (0)))) * 2 ^ (min (Int.toNat (8)) (IntKind.bits .i64)))) ||| BitVec.ofInt (IntKind.bits .i64) (IntKind.wrap .i64 (byteAt s1 (Int.toNat (1))))).toNat : Int))))) (Int.toNat (IntKind.wrap .i64 ((IntKind.wrap .i64 ((2) + (IntKind.wrap .i64 ((BitVec.ofInt (IntKind.bits .i64) (IntKind.wrap .i64 ((IntKind.wrap .i64 (byteAt s1 (Int.toNat (0)))) * 2 ^ (min (Int.toNat (8)) (IntKind.bits .i64)))) ||| BitVec.ofInt (IntKind.bits .i64) (IntKind.wrap .i64 (byteAt s1 (Int.toNat (1))))).toNat : Int)))) + (4))))) rfl rfl hb25 ⟨rfl, rfl⟩) ?_
    refine au 7 rfl ?_
    obtain ⟨hi0, hi1, hi2, s⟩ := s
    refine zg rfl (sem_sliceStrI s1 (2) (IntKind.wrap .i64 ((2) + (IntKind.wrap .i64 ((BitVec.ofInt (IntKind.bits .i64) (IntKind.wrap .i64 ((IntKind.wrap .i64 (byteAt s1 (Int.toNat (0)))) * 2 ^ (min (Int.toNat (8)) (IntKind.bits .i64)))) ||| BitVec.ofInt (IntKind.bits .i64) (IntKind.wrap .i64 (byteAt s1 (Int.toNat (1))))).toNat : Int)))) rfl TF.isStr_9 ⟨_, rfl⟩ ⟨_, rfl⟩ hi0 hi1 hi2 ?_)
    refine au 4 rfl ?_
    exact zr (s.imp fun _ q => ⟨_, _, rfl, q⟩)
   ·replace s := s.2 hb25
    refine zq rfl (fun _ _ => sem_strNeF s24 (ByteArray.extract s1 (Int.toNat (IntKind.wrap .i64 ((2) + (IntKind.wrap .i64 ((BitVec.ofInt (IntKind.bits .i64) (IntKind.wrap .i64 ((IntKind.wrap .i64 (byteAt s1 (Int.toNat (0)))) * 2 ^ (min (Int.toNat (8)) (IntKind.bits .i64)))) ||| BitVec.ofInt (IntKind.bits .i64) (IntKind.wrap .i64 (byteAt s1 (Int.toNat (1))))).toNat : Int))))) (Int.toNat (IntKind.wrap .i64 ((IntKind.wrap .i64 ((2) + (IntKind.wrap .i64 ((BitVec.ofInt (IntKind.bits .i64) (IntKind.wrap .i64 ((IntKind.wrap .i64 (byteAt s1 (Int.toNat (0)))) * 2 ^ (min (Int.toNat (8)) (IntKind.bits .i64)))) ||| BitVec.ofInt (IntKind.bits .i64) (IntKind.wrap .i64 (byteAt s1 (Int.toNat (1))))).toNat : Int)))) + (4))))) rfl rfl hb25 ⟨rfl, rfl⟩) ?_
    refine au 6 rfl ?_
    exact zr (s.imp fun _ q => ⟨_, _, rfl, q⟩)
  refine au 3 rfl ?_
  refine zt s rfl rfl rfl binI_gtr_t binI_gtr_f (fun s => ?_) fun s => ?_
  ·refine au 13 rfl ?_
   exact zr (s.imp fun _ q => ⟨_, _, rfl, q⟩)
  ·refine au 2 rfl ?_
   refine zg rfl (sem_lenStr s1 rfl TF.isStr_9 ?_)
   refine au 1 rfl ?_
   refine zt s rfl rfl rfl binI_lss_t binI_lss_f (fun s => ?_) fun s => ?_
   ·refine au 8 rfl ?_
    exact zr (s.imp fun _ q => ⟨_, _, rfl, q⟩)
   ·refine au 4 rfl ?_
    exact Run.of_fin (s.imp fun h' s => j4 _ _ ⟨⟨rfl, rfl, rfl, trivial⟩, s⟩)
theorem C_cell_Row_file_File_All_1.of {B : RO} {v1 : Value} {A2 : Addr} {h : Heap} {Q : Heap → Prop} (s : S_cell_Row_file_File_All_1 B v1 A2 h Q) : C_cell_Row_file_File_All_1 B v1 A2 h Q := by
 refine zspec Tryz.func93 [] rfl rfl rfl rfl rfl ?_
 refine au 3 rfl ?_
 refine zl s rfl rfl TF.agg_149 fun p3 s => ?_
 by_cases hb4 : p3 = none
 ·replace s := s.1 hb4
  refine zg rfl (sem_ptrNilT p3 (.inl rfl) true rfl rfl TF.ptr_149 hb4 rfl ?_)
  refine au 2 rfl ?_
  exact zr (s.imp fun _ q => ⟨rfl, q⟩)
 ·replace s := s.2 hb4
  refine zg rfl (sem_ptrNilF p3 (.inl rfl) false rfl rfl TF.ptr_149 hb4 rfl ?_)
  refine au 5 rfl ?_
  refine zl s rfl rfl TF.agg_149 fun p5 s => ?_
  refine znil s rfl rfl fun A6 s => ?_
  refine au 1 rfl ?_
  refine Run.ldSl s fun a8 n9 c10 h11 hl s => ?_
  refine zg rfl (sem_load1 A6 ((.slice a8 n9 c10)) rfl TF.agg_178 hl ?_)
  refine zg rfl (sem_lenSl a8 n9 c10 rfl TF.sl_178 ?_)
  refine au 3 rfl ?_
  obtain ⟨J17, m15, h0, s⟩ := s
  refine Run.of_fin (h0.imp fun h' h0 => ?_)
  refine Run.loop (σ := Int × Nat) (fun x e h => J17 x.1 x.2 h ∧ Agree [(0, v1), (10, (.slice a8 n9 c10)), (11, (.int .i64 ((n9 : Nat)))), (12, (.int .i64 (x.1)))] e) (fun x => x.2) ((0), m15) ⟨h0, ⟨rfl, rfl, rfl, rfl, trivial⟩⟩ ?_; clear h0
  rintro ⟨i12, m14⟩ e h13 ⟨hJ, hag⟩ ih16
  have s := s i12 m14 h13 hJ; clear hJ
  refine Run.env hag ?_; clear hag
  refine au 2 rfl ?_
  refine zt s rfl rfl rfl binI_lss_t binI_lss_f (fun s => ?_) fun s => ?_
  ·refine au 9 rfl ?_
   obtain ⟨A18, e19, hi0, hi1, s⟩ := s
   refine zg rfl (sem_indexAddrS A18 n9 c10 .i64 (i12) (congrArg (fun a => Value.slice a n9 c10) e19) rfl TF.slc_178 hi0 hi1 ?_)
   obtain ⟨b20, s21, i22, hl, s⟩ := s
   refine zn hl rfl rfl TF.agg_177 TF.sz_177 rfl ?_
   refine zal s rfl TF.zero_177 rfl fun k23 h24 s => ?_
   refine au 1 rfl ?_
   refine zsn s rfl rfl rfl TF.sz_177 rfl fun h25 s => ?_
   refine au 6 rfl ?_
   obtain ⟨b26, s27, hl, s⟩ := s
   refine zn hl rfl rfl TF.agg_90 TF.sz_90 rfl ?_
   refine zg rfl (sem_callV (v1) [(.int .i64 (i12)), (.agg #[(.bool b26), (.string s27)])] rfl rfl s (fun nx h' ha => ha.mono fun v h28 hv => ?_))
   obtain ⟨b29, rfl, s⟩ := hv
   cases b29
   ·replace s := s.2 rfl
    refine au 3 rfl ?_
    exact zr (s.imp fun _ q => ⟨rfl, q⟩)
   ·replace s := s.1 rfl
    refine au 9 rfl ?_
    exact Run.of_fin (s.imp fun h' ⟨m', hm, s⟩ => ih16 ((IntKind.wrap .i64 ((i12) + (1))), m') _ _ ⟨s, ⟨rfl, rfl, rfl, rfl, trivial⟩⟩ hm)
  ·refine au 4 rfl ?_
   exact zf (s.imp fun _ q => ⟨rfl, q⟩)
end Go.Proofs.YtlehephbflgblaaGreat.H
namespace Go.Proofs.YtlehephbflgblaaGreat.H
open Go
set_option linter.unusedVariables false
set_option maxRecDepth 100000
theorem byteAt_w {s : ByteArray} {i : Nat} (h : i < s.size) : ∃ b, (bl s)[i]? = some b ∧ byteAt s i = ((b.toNat : Nat) : Int) := by
  refine ⟨s[i], ?_, by unfold byteAt; rw [dif_pos h]⟩
  have h' : i < s.data.toList.length := by simpa using h
  show s.data.toList[i]? = some s[i]
  rw [List.getElem?_eq_getElem h']
  rfl
theorem bvIntU (n : Int) : BitVec.ofInt 32 (IntKind.wrap .u32 n) = BitVec.ofInt 32 n := by
  apply BitVec.eq_of_toNat_eq
  rw [BitVec.toNat_ofInt, BitVec.toNat_ofInt, wu32]
  congr 1
  show n % 4294967296 % 4294967296 = n % 4294967296
  omega
theorem progByte (c : BitVec 32) (b : UInt8) : IntKind.wrap .u32 (((BitVec.ofInt (IntKind.bits .u32) ((c.toNat : Nat) : Int) ^^^ BitVec.ofInt (IntKind.bits .u32) (IntKind.wrap .u32 ((b.toNat : Nat) : Int))).toNat : Nat) : Int) = (((c ^^^ BitVec.ofNat 32 b.toNat).toNat : Nat) : Int) := by
  show IntKind.wrap .u32 (((BitVec.ofInt 32 ((c.toNat : Nat) : Int) ^^^ BitVec.ofInt 32 (IntKind.wrap .u32 ((b.toNat : Nat) : Int))).toNat : Nat) : Int) = _
  rw [bvIntU, bvInt, BitVec.ofInt_natCast, wrapBv]
theorem progBit (c : BitVec 32) : IntKind.wrap .u32 (((BitVec.ofInt (IntKind.bits .u32) (Int.fdiv ((c.toNat : Nat) : Int) (2 ^ (min (Int.toNat (1)) (IntKind.bits .u32)))) ^^^ BitVec.ofInt (IntKind.bits .u32) (IntKind.wrap .u32 (((BitVec.ofInt (IntKind.bits .u32) (2197175160) &&& BitVec.ofInt (IntKind.bits .u32) (IntKind.wrap .u32 (0 - (IntKind.wrap .u32 (((BitVec.ofInt (IntKind.bits .u32) ((c.toNat : Nat) : Int) &&& BitVec.ofInt (IntKind.bits .u32) (1)).toNat : Nat) : Int))))).toNat : Nat) : Int))).toNat : Nat) : Int) = (((crcBit c).toNat : Nat) : Int) := by
  have e2 : (2 : Int) ^ (min (Int.toNat (1)) (IntKind.bits .u32)) = 2 := by decide
  rw [e2]
  show IntKind.wrap .u32 (((BitVec.ofInt 32 (Int.fdiv ((c.toNat : Nat) : Int) 2) ^^^ BitVec.ofInt 32 (IntKind.wrap .u32 (((BitVec.ofInt 32 (2197175160) &&& BitVec.ofInt 32 (IntKind.wrap .u32 (0 - (IntKind.wrap .u32 (((BitVec.ofInt 32 ((c.toNat : Nat) : Int) &&& BitVec.ofInt 32 (1)).toNat : Nat) : Int))))).toNat : Nat) : Int))).toNat : Nat) : Int) = _
  have e3 : BitVec.ofInt 32 1 = 1#32 := by decide
  have e4 : BitVec.ofInt 32 2197175160 = polyV := by decide
  have e5 : BitVec.ofInt 32 (Int.fdiv ((c.toNat : Nat) : Int) 2) = c >>> 1 := by
    rw [Int.fdiv_eq_ediv_of_nonneg _ (by omega)]
    show BitVec.ofInt 32 ((c.toNat / 2 : Nat) : Int) = _
    rw [← shr1_toNat, bvInt]
  have e6 : ∀ x : BitVec 32, BitVec.ofInt 32 (0 - ((x.toNat : Nat) : Int)) = -x := fun x => by
    apply BitVec.eq_of_toNat_eq
    rw [BitVec.toNat_ofInt, BitVec.toNat_neg]
    have := x.isLt
    show ((0 - ((x.toNat : Nat) : Int)) % ((4294967296 : Nat) : Int)).toNat = (4294967296 - x.toNat) % 4294967296
    omega
  rw [e3, e4, e5, bvInt, wrapBv (c &&& 1#32), bvIntU (0 - _), e6, bvIntU, bvInt, wrapBv]
  rfl
theorem crcRaw_take (l : List UInt8) (j : Nat) (b : UInt8) (h : l[j]? = some b) : crcRaw (l.take (j + 1)) = crcByte (crcRaw (l.take j)) b := by
  obtain ⟨hj, rfl⟩ := List.getElem?_eq_some_iff.1 h
  unfold crcRaw
  rw [List.take_succ_eq_append_getElem hj, List.foldl_append]; rfl
theorem le4_bytes {n : Nat} (h : n < 4294967296) : [(Value.int .u8 (IntKind.wrap .u8 ((n : Nat) : Int))), (Value.int .u8 (IntKind.wrap .u8 (Int.fdiv ((n : Nat) : Int) (2 ^ (min (Int.toNat (8)) (IntKind.bits .u32)))))), (Value.int .u8 (IntKind.wrap .u8 (Int.fdiv ((n : Nat) : Int) (2 ^ (min (Int.toNat (16)) (IntKind.bits .u32)))))), (Value.int .u8 (IntKind.wrap .u8 (Int.fdiv ((n : Nat) : Int) (2 ^ (min (Int.toNat (24)) (IntKind.bits .u32))))))] = (le4 n).map byteV := by
  have a1 : (2 : Int) ^ (min (Int.toNat (8)) (IntKind.bits .u32)) = 256 := by decide
  have a2 : (2 : Int) ^ (min (Int.toNat (16)) (IntKind.bits .u32)) = 65536 := by decide
  have a3 : (2 : Int) ^ (min (Int.toNat (24)) (IntKind.bits .u32)) = 16777216 := by decide
  rw [a1, a2, a3, Int.fdiv_eq_ediv_of_nonneg _ (by omega), Int.fdiv_eq_ediv_of_nonneg _ (by omega), Int.fdiv_eq_ediv_of_nonneg _ (by omega), wu8, wu8, wu8, wu8]
  unfold le4 byteV
  simp only [List.map_cons, List.map_nil, UInt8.toNat_ofNat']
  rfl
theorem hdr_bytes {n : Nat} (h : n ≤ 1024) : [(Value.int .u8 (IntKind.wrap .u8 (Int.fdiv ((n : Nat) : Int) (2 ^ (min (Int.toNat (8)) (IntKind.bits .i64)))))), (Value.int .u8 (IntKind.wrap .u8 ((n : Nat) : Int)))] = (hdrL n).map byteV := by
  have a1 : (2 : Int) ^ (min (Int.toNat (8)) (IntKind.bits .i64)) = 256 := by decide
  rw [a1, Int.fdiv_eq_ediv_of_nonneg _ (by omega), wu8, wu8]
  unfold hdrL byteV
  simp only [List.map_cons, List.map_nil, UInt8.toNat_ofNat']
  rfl
theorem TK.byteStr2 : byteStr PG TY.s_uint8 TY.string = true := by kernel_rfl
theorem TK.slc_strs : slcB PG TY.s_string = some (TY.string, 1, 16) := by kernel_rfl
theorem TK.zero_str : zeroB PG TY.string = some [.string ByteArray.empty] := by kernel_rfl
theorem TK.sl_strs : slT PG TY.s_string = true := by kernel_rfl
def strC (l : List UInt8) : List Value := [.string (ba l)]
theorem strC_len (l : List UInt8) : (strC l).length = 1 := rfl
section
variable {B : RO} {h h0 : Heap} {L : List (Option (Nat × AObj))}
theorem bytes_str {k n : Nat} {vs : List Value} {bs : List UInt8} {K : Value → Heap → Prop} (hk : h k = some (.vec TY.uint8 (plains vs) n)) (hv : vs = bs.map byteV) (hn : bs.length ≤ n) (hK : K (.string (ba bs)) h) :
    semH PG B (convert TY.s_uint8 TY.string (.slice (some ⟨k, 0, none⟩) bs.length bs.length)) h K := by
  subst hv
  refine semH_convB TK.byteStr2 (semH_bytesToString (e := TY.uint8) (bs := bs) (.inr ⟨k, bs.length, bs.length, n, [], rfl, by rw [List.append_nil]; exact hk, by simp, by omega, by omega⟩) hK)
theorem wsum_wp {s : ByteArray} {Q : Int → Heap → Prop} (hs : s.size ≤ 1099511627776) (hQ : Q ((crcL (bl s) : Nat) : Int) h) : C_wafer_Sum B s h Q := by
  refine C_wafer_Sum.of ?_
  unfold S_wafer_Sum
  refine ⟨fun a i m h' => ∃ j : Nat, j ≤ s.size ∧ i = j ∧ a = ((crcRaw ((bl s).take j)).toNat : Nat) ∧ m = s.size - j ∧ h' = h, s.size, Fin.of ⟨0, by omega, rfl, rfl, by omega, rfl⟩, ?_⟩
  rintro _ _ _ h5 ⟨j, hj, rfl, rfl, rfl, rfl⟩
  refine ⟨fun hlt => ⟨by omega, hlt, ?_⟩, fun hge => Fin.of ?_⟩
  · have hj' : j < s.size := by omega
    obtain ⟨b, hb1, hb2⟩ := byteAt_w hj'
    have e0 : Int.toNat (j : Int) = j := by omega
    rw [e0, hb2, progByte]
    refine ⟨fun a k m h' => ∃ (n : Nat) (c : BitVec 32), n ≤ 8 ∧ k = n ∧ a = (c.toNat : Nat) ∧ crcBits (8 - n) c = crcByte (crcRaw ((bl s).take j)) b ∧ m = 8 - n ∧ h' = h5, 8, Fin.of ⟨0, _, by omega, rfl, rfl, rfl, by omega, rfl⟩, ?_⟩
    rintro _ _ _ h13 ⟨n, c, hn, rfl, rfl, hc, rfl, rfl⟩
    refine ⟨fun h8 => ⟨by decide, Fin.of ?_⟩, fun h8 => Fin.of ?_⟩
    · rw [progBit]
      refine ⟨8 - (n + 1), by omega, n + 1, crcBit c, by omega, ?_, rfl, ?_, rfl, rfl⟩
      · rw [w64 (by omega) (by omega)]; omega
      · rw [← hc, show 8 - n = (8 - (n + 1)) + 1 by omega]; rfl
    · have : n = 8 := by omega
      subst this
      refine ⟨s.size - (j + 1), by omega, j + 1, by omega, ?_, ?_, rfl, rfl⟩
      · rw [w64 (by omega) (by omega)]; omega
      · rw [crcRaw_take _ _ _ hb1, ← hc]; rfl
  · have : j = s.size := by omega
    subst this
    rw [← bl_length, List.take_length]
    have e : IntKind.wrap .u32 (((BitVec.ofInt (IntKind.bits .u32) (if IntKind.signed .u32 then (-1 : Int) else IntKind.max .u32) ^^^ BitVec.ofInt (IntKind.bits .u32) (((crcRaw (bl s)).toNat : Nat) : Int)).toNat : Nat) : Int) = ((crcL (bl s) : Nat) : Int) := by
      have e1 : BitVec.ofInt (IntKind.bits .u32) (if IntKind.signed .u32 then (-1 : Int) else IntKind.max .u32) = (4294967295#32 : BitVec 32) := by
        show BitVec.ofInt 32 4294967295 = (4294967295#32 : BitVec 32)
        decide
      rw [e1]
      show IntKind.wrap .u32 (((4294967295#32 ^^^ BitVec.ofInt 32 (((crcRaw (bl s)).toNat : Nat) : Int)).toNat : Nat) : Int) = _
      rw [bvInt, wrapBv]; rfl
    rw [e]; exact hQ
theorem foots_wp {n : Nat} {Q : ByteArray → Heap → Prop} (hn : n < 4294967296) (hQ : Q (ba (le4 n)) h) : C_wafer_foots B ((n : Nat) : Int) h Q := by
  refine C_wafer_foots.of ?_
  unfold S_wafer_foots
  refine ⟨by decide, by decide, by decide, fun k a b h4 e4 => ?_⟩
  obtain ⟨g, l, -⟩ := Heap.made a e4
  exact bytes_str (bs := le4 n) g (le4_bytes hn) (by simp [le4]) ⟨_, rfl, Fin.ent (Ent.forget l) (Fin.of hQ)⟩
theorem wclose_wp {s : ByteArray} {Q : ByteArray → Heap → Prop} (hs : s.size ≤ 1099511627776) (hQ : Q (ba (closeL (bl s))) h) : C_wafer_Close B s h Q := by
  refine C_wafer_Close.of ?_
  unfold S_wafer_Close
  refine ⟨fun hgt => Fin.of ?_, fun hle => ⟨by decide, fun k a b h4 e4 => ?_⟩⟩
  · rw [closeL, if_pos (by rw [bl_length]; omega)] at hQ; exact hQ
  · obtain ⟨g, l, -⟩ := Heap.made a e4
    refine bytes_str (bs := hdrL s.size) g (hdr_bytes (by omega)) (by simp [hdrL]) ⟨_, rfl, ?_⟩
    have hz : (ba (hdrL s.size)).size = 2 := by rw [ba_size]; rfl
    refine ⟨by rw [hz]; omega, wsum_wp (by rw [ByteArray.size_append, hz]; omega) (foots_wp (crcL_lt _) ⟨by rw [ByteArray.size_append, hz, ba_size]; simp [le4]; omega, Fin.ent (Ent.forget l) (Fin.of ?_)⟩)⟩
    have : ba (closeL (bl s)) = ba (hdrL s.size) ++ s ++ ba (le4 (crcL (bl (ba (hdrL s.size) ++ s)))) := by
      apply bl_inj
      simp only [bl_ba, bl_append, closeL, bl_length]
      rw [if_neg (by omega)]
    rw [← this]; exact hQ
end
end Go.Proofs.YtlehephbflgblaaGreat.H
namespace Go.Proofs.YtlehephbflgblaaGreat.H
open Go
set_option linter.unusedVariables false
set_option maxRecDepth 100000
theorem orBytes (b0 b1 : UInt8) : IntKind.wrap .i64 (((BitVec.ofInt (IntKind.bits .i64) (IntKind.wrap .i64 ((IntKind.wrap .i64 ((b0.toNat : Nat) : Int)) * 2 ^ (min (Int.toNat (8)) (IntKind.bits .i64)))) ||| BitVec.ofInt (IntKind.bits .i64) (IntKind.wrap .i64 ((b1.toNat : Nat) : Int))).toNat : Nat) : Int) = ((b0.toNat * 256 + b1.toNat : Nat) : Int) := by
  have h0 := b0.toNat_lt
  have h1 := b1.toNat_lt
  have a1 : (2 : Int) ^ (min (Int.toNat (8)) (IntKind.bits .i64)) = 256 := by decide
  rw [a1, w64 (n := ((b0.toNat : Nat) : Int)) (by omega) (by omega), w64 (n := ((b1.toNat : Nat) : Int)) (by omega) (by omega), w64 (n := ((b0.toNat : Nat) : Int) * 256) (by omega) (by omega)]
  show IntKind.wrap .i64 (((BitVec.ofInt 64 (((b0.toNat : Nat) : Int) * 256) ||| BitVec.ofInt 64 ((b1.toNat : Nat) : Int)).toNat : Nat) : Int) = _
  have e : (BitVec.ofInt 64 (((b0.toNat : Nat) : Int) * 256) ||| BitVec.ofInt 64 ((b1.toNat : Nat) : Int)).toNat = b0.toNat * 256 + b1.toNat := by
    have e0 : (((b0.toNat : Nat) : Int) * 256) = ((b0.toNat * 256 : Nat) : Int) := by omega
    rw [e0, BitVec.ofInt_natCast, BitVec.ofInt_natCast, BitVec.toNat_or, BitVec.toNat_ofNat, BitVec.toNat_ofNat, Nat.mod_eq_of_lt (by omega), Nat.mod_eq_of_lt (by omega)]
    have := Nat.two_pow_add_eq_or_of_lt (i := 8) (b := b1.toNat) (by omega) b0.toNat
    rw [show b0.toNat * 256 = 2 ^ 8 * b0.toNat by omega, ← this]
  rw [e, w64 (by omega) (by omega)]
theorem two_bytes {s : ByteArray} (h : 2 ≤ s.size) : ∃ b0 b1 t, bl s = b0 :: b1 :: t ∧ byteAt s (Int.toNat 0) = ((b0.toNat : Nat) : Int) ∧ byteAt s (Int.toNat 1) = ((b1.toNat : Nat) : Int) ∧ t.length + 2 = s.size := by
  obtain ⟨b0, h0, e0⟩ := byteAt_w (s := s) (i := 0) (by omega)
  obtain ⟨b1, h1, e1⟩ := byteAt_w (s := s) (i := 1) (by omega)
  match hb : bl s, h0, h1 with
  | x :: y :: t, h0, h1 =>
    simp at h0 h1
    subst h0 h1
    refine ⟨_, _, t, rfl, e0, e1, ?_⟩
    rw [← bl_length, hb]; rfl
theorem openL_short {s : ByteArray} (h : s.size < 6) : openL (bl s) = none := by
  have hl := bl_length s
  unfold openL
  split
  · rename_i b0 b1 t e
    rw [e] at hl
    simp at hl
    simp only
    rw [if_pos (by omega)]
  · rfl
theorem openL_cons {b0 b1 : UInt8} {t : List UInt8} : openL (b0 :: b1 :: t) = if 1024 < b0.toNat * 256 + b1.toNat ∨ t.length < b0.toNat * 256 + b1.toNat + 4 then none
    else if le4 (crcL (b0 :: b1 :: t.take (b0.toNat * 256 + b1.toNat))) = (t.drop (b0.toNat * 256 + b1.toNat)).take 4 then some (t.take (b0.toNat * 256 + b1.toNat)) else none := rfl
theorem bl_cut {s : ByteArray} {b0 b1 : UInt8} {t : List UInt8} (e : bl s = b0 :: b1 :: t) (n : Nat) : bl (s.extract 2 (2 + n)) = t.take n ∧ bl (s.extract 0 (2 + n)) = b0 :: b1 :: t.take n ∧ bl (s.extract (2 + n) (2 + n + 4)) = (t.drop n).take 4 := by
  refine ⟨?_, ?_, ?_⟩
  · rw [bl_extract, e, Nat.add_sub_cancel_left]; rfl
  · rw [bl_extract, e, Nat.add_comm 2 n]; rfl
  · rw [bl_extract, e, Nat.add_sub_cancel_left, Nat.add_comm 2 n]; rfl
section
variable {B : RO} {h h0 : Heap} {L : List (Option (Nat × AObj))}
theorem wopen_wp {s : ByteArray} {Q : ByteArray → Int → Heap → Prop} (hs : s.size ≤ 1000000000) (hN : openL (bl s) = none → Q (ByteArray.mk #[]) 0 h) (hS : ∀ l : List UInt8, openL (bl s) = some l → Q (ba l) ((l.length + 6 : Nat) : Int) h) : C_wafer_Open B s h Q := by
  refine C_wafer_Open.of ?_
  unfold S_wafer_Open
  refine ⟨fun h2 => Fin.of (hN (openL_short (by omega))), fun h2 => ?_⟩
  obtain ⟨b0, b1, t, e, e0, e1, hl⟩ := two_bytes (s := s) (by omega)
  have g0 := b0.toNat_lt
  have g1 := b1.toNat_lt
  rw [e, openL_cons] at hN hS
  rw [e0, e1, orBytes]
  unfold S_wafer_Open_J1
  rw [e0, e1, orBytes]
  generalize hn : b0.toNat * 256 + b1.toNat = n at *
  have hw1 : IntKind.wrap .i64 (2 + (n : Int)) = ((2 + n : Nat) : Int) := by rw [w64 (by omega) (by omega)]; omega
  have hw2 : IntKind.wrap .i64 (((2 + n : Nat) : Int) + 4) = ((2 + n + 4 : Nat) : Int) := by rw [w64 (by omega) (by omega)]; omega
  rw [hw1, hw2]
  refine ⟨by omega, by omega, by decide, by omega, by omega, fun h1024 => Fin.of (hN (if_pos (.inl (by omega)))), fun h1024 => ⟨fun hsh => Fin.of (hN (if_pos (.inr (by omega)))), fun hlo => Fin.of ⟨by omega, by omega, by omega, by omega, by omega, by omega, ?_⟩⟩⟩
  have z0 : Int.toNat 0 = 0 := rfl
  have z2 : Int.toNat 2 = 2 := rfl
  rw [Int.toNat_natCast, Int.toNat_natCast, z0, z2]
  obtain ⟨c1, c2, c3⟩ := bl_cut e n
  have hz2 : (s.extract 0 (2 + n)).size = n + 2 := by
    rw [← bl_length, c2, List.length_cons, List.length_cons, List.length_take]; omega
  refine wsum_wp (by rw [hz2]; omega) (foots_wp (crcL_lt _) ?_)
  rw [if_neg (by omega)] at hN hS
  have ex : ∀ i j, s.extract i j = ba (bl (s.extract i j)) := fun i j => (ba_bl _).symm
  rw [c2, ex (2 + n) (2 + n + 4), c3, ex 2 (2 + n), c1]
  refine ⟨fun he => ⟨by omega, by omega, by omega, Fin.of ?_⟩, fun he => Fin.of ?_⟩
  · have := hS (t.take n) (if_pos (ba_inj he))
    rw [List.length_take, Nat.min_eq_left (by omega)] at this
    rw [show 2 + n + 4 = n + 6 by omega]; exact this
  · exact hN (if_neg fun z => he (by rw [z]))
def wallF (k3 : Nat) : Value := Value.func (.func FN.wafer_All_1) #[] #[(Value.pointer (some ⟨k3, 0, none⟩))]
def wG (k3 : Nat) (s : ByteArray) (h : Heap) : Prop := h k3 = some (.vec TY.string [.plain (.string s)] 1)
theorem wG_ins {k3 : Nat} {s : ByteArray} : Ins (wG k3 s) := Ins.blk
theorem wall_wp {s : ByteArray} {Q : Value → Heap → Prop} (hQ : ∀ k, h k = none → B k = none → Q (wallF k) (h.set k (.vec TY.string [.plain (.string s)] 1))) : C_wafer_All B s h Q := by
  refine C_wafer_All.of ?_
  unfold S_wafer_All
  intro k a1 b1 h4 e4
  subst e4
  exact Fin.of (hQ k a1 b1)
def encS (l : List UInt8) : List Value := [.string (ba l)]
theorem wall_iter {k3 : Nat} {s : ByteArray} (hs : s.size ≤ 1000000000) : Iter PG B (wallF k3) ((allL (bl s)).map encS) (wG k3 s) := by
  refine ⟨_, _, _, rfl, TG.wafer_All_1, fun y J X h hy hG h0 hcall => ?_⟩
  have main : C_wafer_All_1 B y ⟨k3, 0, none⟩ h (fun h' => Fin B h' (fun h'' => J ((allL (bl s)).map encS).length h'' ∨ X h'')) := by
    refine C_wafer_All_1.of ?_
    unfold S_wafer_All_1
    refine ⟨s, cellH_vec (hG 0 h h0) rfl, fun rest m h' => ∃ q : Nat, q ≤ (allL (bl s)).length ∧ (allL (bl s)).drop q = allL (bl rest) ∧ rest.size ≤ s.size ∧ m = rest.size ∧ J q h', s.size, Fin.of ⟨0, by omega, rfl, Nat.le_refl _, rfl, h0⟩, ?_⟩
    rintro rest _ h5 ⟨q, hq, hd, hz, rfl, hJ⟩
    refine wopen_wp (by omega) (fun hN => ⟨fun _ => Fin.of (Fin.of (.inl ?_)), fun hn => absurd rfl hn⟩) (fun l hS => ⟨fun hn => absurd hn (by omega), fun _ => ?_⟩)
    · rw [allL_none hN] at hd
      have := congrArg List.length hd
      rw [List.length_drop] at this
      have hq2 : q = (allL (bl s)).length := by simp at this; omega
      rw [List.length_map, ← hq2]; exact hJ
    · obtain ⟨f1, f2, f3⟩ := openL_some hS
      rw [bl_length] at f3
      rw [allL_some hS] at hd
      have hg : (allL (bl s))[q]? = some l := by
        have := congrArg (fun x => x[0]?) hd
        simpa [List.getElem?_drop] using this
      have hlt := (List.getElem?_eq_some_iff.1 hg).1
      refine CallV.mono ?_ (hcall q h5 (encS l) (by rw [List.getElem?_map, hg]; rfl) hJ)
      rintro v h27 ⟨h28, t1, hor⟩
      rcases hor with ⟨rfl, hJ'⟩ | ⟨rfl, hX⟩
      · refine ⟨true, rfl, fun _ => ⟨by omega, by omega, by omega, h28, t1, ?_⟩, fun e => by cases e⟩
        rw [Int.toNat_natCast, Int.toNat_natCast]
        have hbe : bl (rest.extract (l.length + 6) rest.size) = (bl rest).drop (l.length + 6) := by
          rw [bl_extract, List.take_of_length_le (by rw [List.length_drop, bl_length]; omega)]
        have hsz : (rest.extract (l.length + 6) rest.size).size = rest.size - (l.length + 6) := by rw [← bl_length, hbe, List.length_drop, bl_length]
        refine ⟨(rest.extract (l.length + 6) rest.size).size, by omega, q + 1, by omega, ?_, by omega, rfl, hJ'⟩
        rw [hbe, ← List.drop_drop, hd]; rfl
      · exact ⟨false, rfl, fun e => (by cases e), fun _ => ⟨h28, t1, Fin.of (.inr hX)⟩⟩
  exact Spec.mono main fun v h' q => q.2
theorem Short.take {ls : List (List UInt8)} (h : Short ls) (n : Nat) : Short (ls.take n) := fun l hl => h l (List.mem_of_mem_take hl)
theorem rowL_take (ls : List (List UInt8)) (q : Nat) (hq : q < ls.length) : rowL (ls.take (q + 1)) = rowL (ls.take q) ++ closeL ls[q] := by
  rw [List.take_succ_eq_append_getElem hq, rowL_append, rowL_one]
theorem rowL_take_le (ls : List (List UInt8)) (q : Nat) : (rowL (ls.take q)).length ≤ (rowL ls).length := by
  have : rowL ls = rowL (ls.take q) ++ rowL (ls.drop q) := by rw [← rowL_append, List.take_append_drop]
  rw [this, List.length_append]; omega
theorem whole_wp {s : ByteArray} {Q : Int → Heap → Prop} (hs : s.size ≤ 1000000000) (hQ : Q ((wholeL (bl s) : Nat) : Int) h) : C_wafer_Whole B s h Q := by
  refine C_wafer_Whole.of ?_
  unfold S_wafer_Whole
  intro k3 a3 b3 h4 e4
  have E := (Keep.nil B h).made a3 b3 e4
  obtain ⟨es, E1⟩ := E.store 0 0 (.int .i64 0) rfl rfl
  refine ⟨_, es, wall_wp fun k1 a1 b1 => ?_⟩
  have E2 := E1.new (o := .vec TY.string [.plain (.string s)] 1) a1 b1
  obtain ⟨hsh, r, hr, _⟩ := allL_spec (bl s)
  have hle := wholeL_le (bl s)
  rw [bl_length] at hle
  refine ⟨(allL (bl s)).map ba, wG k1 s, fun q h' => Keep B h [some (k3, .vec TY.int (plains [.int .i64 ((rowL ((allL (bl s)).take q)).length : Nat)]) 1), some (k1, .vec TY.string [.plain (.string s)] 1)] h', ?_, wG_ins, fun q h' E => E.at 1 rfl, Fin.of E2, ?_, ?_⟩
  · have := wall_iter (B := B) (k3 := k1) (s := s) hs
    rw [List.map_map]; exact this
  · rintro q h10 s8 hg E
    rw [List.getElem?_map] at hg
    obtain ⟨l, hl, rfl⟩ := Option.map_eq_some_iff.1 hg
    obtain ⟨hq, rfl⟩ := List.getElem?_eq_some_iff.1 hl
    have hc := closeL_len (hsh _ (List.getElem_mem hq))
    have ht := rowL_take _ q hq
    have htl := rowL_take_le (allL (bl s)) (q + 1)
    have hh : (rowL (allL (bl s))).length = wholeL (bl s) := rfl
    have hlen := congrArg List.length ht
    rw [List.length_append, hc] at hlen
    rw [ba_size]
    have hw : IntKind.wrap .i64 ((((rowL ((allL (bl s)).take q)).length : Nat) : Int) + (IntKind.wrap .i64 ((IntKind.wrap .i64 ((2) + (((allL (bl s))[q].length : Nat) : Int))) + (4)))) = (((rowL ((allL (bl s)).take (q + 1))).length : Nat) : Int) := by
      rw [w64 (n := 2 + (((allL (bl s))[q].length : Nat) : Int)) (by omega) (by omega), w64 (n := 2 + (((allL (bl s))[q].length : Nat) : Int) + 4) (by omega) (by omega), w64 (by omega) (by omega)]; omega
    obtain ⟨es, E1⟩ := E.store 0 0 (.int .i64 (((rowL ((allL (bl s)).take (q + 1))).length : Nat) : Int)) rfl rfl
    refine ⟨_, E.cell 0 rfl rfl, _, ?_, Fin.of E1⟩
    rw [hw]; exact es
  · rintro h10 E
    rw [List.length_map, List.take_length] at E
    exact ⟨_, E.cell 0 rfl rfl, Fin.ent E.back (Fin.of hQ)⟩
def SRow (r : Option (Nat × AObj)) (v : Value) (ls : List (List UInt8)) : Prop := Row r v TY.string 1 (ls.flatMap strC)
end
end Go.Proofs.YtlehephbflgblaaGreat.H
namespace Go.Proofs.YtlehephbflgblaaGreat.H
open Go
set_option linter.unusedVariables false
set_option maxRecDepth 100000
structure Chg where
  a : Int
  r : Bool
  s : ByteArray
def Chg.cells (c : Chg) : List Value := [.int .i64 c.a, .bool c.r, .string c.s]
theorem Chg.len (c : Chg) : c.cells.length = 3 := rfl
theorem Chg.one (c : Chg) : ∀ y ∈ c.cells, isOne y = true := fun y hy => by
  simp [Chg.cells] at hy; rcases hy with rfl | rfl | rfl <;> rfl
def chgD (a : Int) (s : ByteArray) (c : Chg) : ByteArray := if c.a = a then (if c.r = true then ByteArray.mk #[] else s ++ c.s) else s
def textF (a : Int) (s : ByteArray) (cs : List Chg) : ByteArray := cs.foldl (chgD a) s
def textD (a : Int) (cs : List Chg) : ByteArray := textF a (ByteArray.mk #[]) cs
theorem textF_append (a : Int) (s : ByteArray) (cs ds : List Chg) : textF a s (cs ++ ds) = textF a (textF a s cs) ds := List.foldl_append
theorem textD_append (a : Int) (cs ds : List Chg) : textD a (cs ++ ds) = textF a (textD a cs) ds := textF_append a _ cs ds
theorem textD_one (a : Int) (cs : List Chg) (c : Chg) : textD a (cs ++ [c]) = chgD a (textD a cs) c := textD_append a cs [c]
theorem textD_take (a : Int) (cs : List Chg) (j : Nat) (c : Chg) (h : cs[j]? = some c) : textD a (cs.take (j + 1)) = chgD a (textD a (cs.take j)) c := by
  obtain ⟨hj, rfl⟩ := List.getElem?_eq_some_iff.1 h
  rw [List.take_succ_eq_append_getElem hj, textD_one]
structure DOk (cs : List Chg) : Prop where
  ar : ∀ c ∈ cs, c.a = 0 ∨ c.a = 1
  sz : ∀ (a : Int) (j : Nat), (textD a (cs.take j)).size ≤ 16384
theorem DOk.nil : DOk [] := ⟨fun _ h => by simp at h, fun a j => by rw [List.take_nil]; exact (by decide : (ByteArray.mk #[]).size ≤ 16384)⟩
theorem DOk.size {cs : List Chg} (ok : DOk cs) (a : Int) : (textD a cs).size ≤ 16384 := by
  have := ok.sz a cs.length
  rwa [List.take_length] at this
theorem DOk.snoc {cs : List Chg} (ok : DOk cs) {c : Chg} (ha : c.a = 0 ∨ c.a = 1) (h : (textD c.a (cs ++ [c])).size ≤ 16384) : DOk (cs ++ [c]) := by
  refine ⟨fun x hx => ?_, fun a j => ?_⟩
  · rcases List.mem_append.1 hx with hx | hx
    · exact ok.ar x hx
    · rw [List.mem_singleton] at hx; subst hx; exact ha
  · rcases Nat.lt_or_ge cs.length j with hj | hj
    · rw [List.take_of_length_le (by simp; omega)]
      by_cases e : c.a = a
      · rw [← e]; exact h
      · rw [textD_one, chgD, if_neg e]; exact ok.size a
    · rw [List.take_append_of_le_length hj]; exact ok.sz a j
theorem DOk.take {cs : List Chg} (ok : DOk cs) (n : Nat) : DOk (cs.take n) := ⟨fun x hx => ok.ar x (List.mem_of_mem_take hx), fun a j => by rw [List.take_take]; exact ok.sz a _⟩
def cutB (part : Int) (s : ByteArray) : ByteArray := s.extract 0 (min s.size part.toNat)
def crashD (cs : List Chg) (k : Nat) (keep part : Int) : List Chg :=
  let n := min (cs.length - k) keep.toNat
  cs.take (k + n) ++ (match cs[k + n]? with
    | some c => if c.r = true then [] else [⟨c.a, false, cutB part c.s⟩]
    | none => [])
theorem cutB_le (part : Int) (s : ByteArray) : (cutB part s).size ≤ s.size := by
  rw [← bl_length, cutB, bl_extract, List.length_take, List.length_drop, bl_length]; omega
theorem TK.slc_chgs : slcB PG TY.s_disk_change = some (TY.disk_change, 3, 32) := by kernel_rfl
theorem TK.zero_chg : zeroB PG TY.disk_change = some [.int .i64 0, .bool false, .string ByteArray.empty] := by kernel_rfl
theorem TK.sl_chgs : slT PG TY.s_disk_change = true := by kernel_rfl
def dskV (n0 s0 n1 s1 : ByteArray) (v : Value) : AObj := .vec TY.disk_Disk (plains [.string n0, .string s0, .string n1, .string s1, v]) 5
def dskO (cs : List Chg) (k : Nat) (v : Value) : AObj := dskV (textD 0 cs) (textD 0 (cs.take k)) (textD 1 cs) (textD 1 (cs.take k)) v
def CRow (r : Option (Nat × AObj)) (v : Value) (cs : List Chg) : Prop := Row r v TY.disk_change 3 (cs.flatMap Chg.cells)
theorem set3 (L : List (Option (Nat × AObj))) (i : Nat) (x y r : Option (Nat × AObj)) : ((L.set i x).set (i + 1) r).set i y = (L.set i y).set (i + 1) r := by
  rw [List.set_comm _ _ (by omega), List.set_set]
structure DAt (L : List (Option (Nat × AObj))) (i kD : Nat) (cs : List Chg) (k : Nat) (v : Value) (r : Option (Nat × AObj)) : Prop where
  p : L[i]? = some (some (kD, dskO cs k v))
  q : L[i + 1]? = some r
theorem DAt.lt {L : List (Option (Nat × AObj))} {i kD k : Nat} {cs : List Chg} {v : Value} {r : Option (Nat × AObj)} (A : DAt L i kD cs k v r) : i < L.length ∧ i + 1 < L.length := ⟨(List.getElem?_eq_some_iff.1 A.p).1, (List.getElem?_eq_some_iff.1 A.q).1⟩
theorem DAt.app {L : List (Option (Nat × AObj))} {i kD k : Nat} {cs : List Chg} {v : Value} {r : Option (Nat × AObj)} (A : DAt L i kD cs k v r) (M : List (Option (Nat × AObj))) : DAt (L ++ M) i kD cs k v r := ⟨up_app M A.p, up_app M A.q⟩
def setD (L : List (Option (Nat × AObj))) (i kD : Nat) (cs : List Chg) (k : Nat) (v : Value) (r : Option (Nat × AObj)) : List (Option (Nat × AObj)) := (L.set i (some (kD, dskO cs k v))).set (i + 1) r
section
variable {B : RO} {h0 h h' : Heap} {L : List (Option (Nat × AObj))} {r : Option (Nat × AObj)} {i kD k : Nat} {v : Value} {cs : List Chg}
theorem Keep.cellA (E : Keep B h0 L h) (i : Nat) {b m j n : Nat} {t : TypeId} {fs : List Fld} {u : Value} (hi : L[i]? = some (some (b, .vec t fs n))) (hj : fs[m + j]? = some (.plain u)) : cellH B h (Addr.add ⟨b, m, none⟩ j) = some u := by
  rw [addr_more]; exact E.cell i hi hj
theorem Keep.storeA (E : Keep B h0 L h) (i m j : Nat) (u : Value) {b n : Nat} {t : TypeId} {fs : List Fld} {w : Value} (hi : L[i]? = some (some (b, .vec t fs n))) (hj : fs[m + j]? = some (.plain w)) :
    storeH h (Addr.add ⟨b, m, none⟩ j) u = some (h.set b (.vec t (fs.set (m + j) (.plain u)) n)) ∧ Keep B h0 (L.set i (some (b, .vec t (fs.set (m + j) (.plain u)) n))) (h.set b (.vec t (fs.set (m + j) (.plain u)) n)) := by
  rw [addr_more]; exact E.store i (m + j) u hi hj
theorem dnew_wp {Q : Option Addr → Heap → Prop} (hQ : ∀ k h', Keep B h [some (k, dskO [] 0 (.slice none 0 0)), none] h' → Q (some ⟨k, 0, none⟩) h') : C_disk_New B h Q := by
  refine C_disk_New.of ?_
  unfold S_disk_New
  intro k2 a2 b2 h3 e3
  exact Fin.of (hQ k2 h3 ((Keep.nil B h).made a2 b2 e3).gap)
theorem dgood_wp {a : Int} {Q : Bool → Heap → Prop} (hQ : Q (decide (a = 0 ∨ a = 1)) h) : C_disk_good B a h Q := by
  refine C_disk_good.of ?_
  unfold S_disk_good
  refine ⟨fun e => Fin.of ?_, fun e => Fin.of ?_⟩
  · rw [decide_eq_true (.inl e)] at hQ; exact hQ
  · have : (a == 1) = decide (a = 0 ∨ a = 1) := by
      rw [Bool.eq_iff_iff, beq_iff_eq, decide_eq_true_eq]
      exact ⟨.inr, fun h => h.resolve_left e⟩
    rw [this]; exact hQ
theorem dread_wp {a : Int} {Q : ByteArray → Heap → Prop} (E : Keep B h0 L h) (A : DAt L i kD cs k v r) (ha : a = 0 ∨ a = 1) (hQ : Q (textD a cs) h) : C_disk_Disk_Read B (some ⟨kD, 0, none⟩) a h Q := by
  refine C_disk_Disk_Read.of ?_
  unfold S_disk_Disk_Read
  refine ⟨fun e => (by cases e), fun _ => dgood_wp ⟨fun _ => Fin.of ?_, fun e => absurd ha (by simpa using e)⟩⟩
  unfold S_disk_Disk_Read_J1
  rcases ha with rfl | rfl
  · exact ⟨_, rfl, by omega, by omega, _, E.cellA i (m := 0) A.p rfl, Fin.of hQ⟩
  · exact ⟨_, rfl, by omega, by omega, _, E.cellA i (m := 0) A.p rfl, Fin.of hQ⟩
theorem dwait {c : Chg} {n0 n1 : ByteArray} {h6 : Heap} (E : Keep B h0 (L.set i (some (kD, dskV n0 (textD 0 (cs.take k)) n1 (textD 1 (cs.take k)) v))) h6) (A : DAt L i kD cs k v r) (R : CRow r v (cs.drop k)) (hk : k ≤ cs.length) (hl : cs.length ≤ 100000) (h0' : n0 = textD 0 (cs ++ [c])) (h1' : n1 = textD 1 (cs ++ [c]))
    {Q : Heap → Prop} (hQ : ∀ v' r' h', CRow r' v' ((cs ++ [c]).drop k) → Keep B h0 (setD L i kD (cs ++ [c]) k v' r') h' → Q h') :
    LdSl B h6 (Addr.add ⟨kD, 0, none⟩ 4) fun a34 n35 c36 h37 => ∀ k38 : Nat, h37 k38 = none → B k38 = none → ∀ h39 : Heap, h39 = Heap.set h37 k38 (.vec TY.disk_change (plains c.cells) 3) →
      semH PG B (Builtin.append_ #[TY.s_disk_change, TY.s_disk_change] TY.s_disk_change #[(Value.slice a34 n35 c36), (Value.slice (some ⟨k38, 0, none⟩) 1 1)]) h39 (fun v h40 => ∃ a41 : Option Addr, ∃ n42 : Nat, ∃ c43 : Nat, v = (Value.slice a41 n42 c43) ∧
        ∃ A44 : Addr, (some ⟨kD, 0, none⟩ : Option Addr) = some A44 ∧ ∃ h46 : Heap, storeH h40 (Addr.add A44 4) (Value.slice a41 n42 c43) = some h46 ∧ Fin B h46 Q) := by
  obtain ⟨a, m, cc, rfl⟩ := Row.slice R
  have hi : (L.set i (some (kD, dskV n0 (textD 0 (cs.take k)) n1 (textD 1 (cs.take k)) (.slice a m cc))))[i]? = some (some (kD, dskV n0 (textD 0 (cs.take k)) n1 (textD 1 (cs.take k)) (.slice a m cc))) := by rw [List.getElem?_set_self A.lt.1]
  have hq : (L.set i (some (kD, dskV n0 (textD 0 (cs.take k)) n1 (textD 1 (cs.take k)) (.slice a m cc))))[i + 1]? = some r := by rw [List.getElem?_set_ne (by omega)]; exact A.q
  refine .inl ⟨a, m, cc, E.cellA i (m := 0) hi rfl, fun k38 a38 b38 h39 e39 => ?_⟩
  have hfl := flatMap_length Chg.len (cs.drop k)
  rw [List.length_drop] at hfl
  refine E.push1 (i + 1) hq R TK.slc_chgs TK.zero_chg rfl (by omega) (by omega) TK.sl_chgs rfl c.one (by rw [hfl, Chg.len]; omega) a38 b38 e39 fun a' m' c' r' h' R' E' => ?_
  have hi' : ((L.set i (some (kD, dskV n0 (textD 0 (cs.take k)) n1 (textD 1 (cs.take k)) (.slice a m cc)))).set (i + 1) r')[i]? = some (some (kD, dskV n0 (textD 0 (cs.take k)) n1 (textD 1 (cs.take k)) (.slice a m cc))) := by rw [List.getElem?_set_ne (by omega)]; exact hi
  obtain ⟨es, E2⟩ := E'.storeA i 0 4 (.slice a' m' c') hi' rfl
  rw [set3] at E2
  refine ⟨a', m', c', rfl, _, rfl, _, es, Fin.of (hQ (.slice a' m' c') r' _ ?_ ?_)⟩
  · unfold CRow
    rw [List.drop_append_of_le_length hk, List.flatMap_append]
    simp only [List.flatMap_cons, List.flatMap_nil, List.append_nil]
    exact R'
  · have e : dskO (cs ++ [c]) k (.slice a' m' c') = dskV n0 (textD 0 (cs.take k)) n1 (textD 1 (cs.take k)) (.slice a' m' c') := by
      unfold dskO; rw [List.take_append_of_le_length hk, h0', h1']
    unfold setD
    rw [e]
    exact E2
theorem dappend_wp {a : Int} {s : ByteArray} {Q : Int → Heap → Prop} (E : Keep B h0 L h) (A : DAt L i kD cs k v r) (R : CRow r v (cs.drop k)) (hk : k ≤ cs.length) (ok : DOk cs) (hl : cs.length ≤ 100000) (hs : s.size ≤ 1000000000)
    (hA : ¬ (a = 0 ∨ a = 1) → Q 1 h) (hF : (a = 0 ∨ a = 1) → 16384 < (textD a cs).size + s.size → Q 6 h)
    (hQ : (a = 0 ∨ a = 1) → (textD a cs).size + s.size ≤ 16384 → ∀ v' r' h', CRow r' v' ((cs ++ [Chg.mk a false s]).drop k) → Keep B h0 (setD L i kD (cs ++ [Chg.mk a false s]) k v' r') h' → Q 0 h') : C_disk_Disk_Append B (some ⟨kD, 0, none⟩) a s h Q := by
  refine C_disk_Disk_Append.of ?_
  unfold S_disk_Disk_Append
  refine ⟨fun e => (by cases e), fun _ => dgood_wp ?_⟩
  refine ⟨fun hg => ?_, fun e => Fin.of (hA (by simpa using e))⟩
  have ha : a = 0 ∨ a = 1 := by simpa using hg
  have hz := ok.size a
  have hw : IntKind.wrap .i64 (16384 - (((textD a cs).size : Nat) : Int)) = 16384 - (((textD a cs).size : Nat) : Int) := w64 (by omega) (by omega)
  unfold S_disk_Disk_Append_J1
  have n01 : ¬ ((1 : Int) = 0) := by decide
  have n10 : ¬ ((0 : Int) = 1) := by decide
  rcases ha with rfl | rfl
  · refine ⟨_, rfl, by omega, by omega, textD 0 cs, E.cellA i (m := 0) A.p rfl, fun hgt => Fin.of (hF (.inl rfl) (by rw [hw] at hgt; omega)), fun hle => Fin.of ?_⟩
    rw [hw] at hle
    refine ⟨_, rfl, by omega, by omega, textD 0 cs, E.cellA i (m := 0) A.p rfl, by omega, _, rfl, by omega, by omega, ?_⟩
    obtain ⟨es, E1⟩ := E.storeA i 0 (Int.toNat 0 * 2) (.string (textD 0 cs ++ s)) A.p rfl
    refine ⟨_, es, _, rfl, ?_⟩
    exact dwait (c := ⟨0, false, s⟩) E1 A R hk hl (by rw [textD_one]; rfl) (by rw [textD_one]; rfl) (hQ (.inl rfl) (by omega))
  · refine ⟨_, rfl, by omega, by omega, textD 1 cs, E.cellA i (m := 0) A.p rfl, fun hgt => Fin.of (hF (.inr rfl) (by rw [hw] at hgt; omega)), fun hle => Fin.of ?_⟩
    rw [hw] at hle
    refine ⟨_, rfl, by omega, by omega, textD 1 cs, E.cellA i (m := 0) A.p rfl, by omega, _, rfl, by omega, by omega, ?_⟩
    obtain ⟨es, E1⟩ := E.storeA i 0 (Int.toNat 1 * 2) (.string (textD 1 cs ++ s)) A.p rfl
    refine ⟨_, es, _, rfl, ?_⟩
    exact dwait (c := ⟨1, false, s⟩) E1 A R hk hl (by rw [textD_one]; rfl) (by rw [textD_one]; rfl) (hQ (.inr rfl) (by omega))
theorem dreset_wp {a : Int} {Q : Int → Heap → Prop} (E : Keep B h0 L h) (A : DAt L i kD cs k v r) (R : CRow r v (cs.drop k)) (hk : k ≤ cs.length) (hl : cs.length ≤ 100000) (ha : a = 0 ∨ a = 1)
    (hQ : ∀ v' r' h', CRow r' v' ((cs ++ [Chg.mk a true ByteArray.empty]).drop k) → Keep B h0 (setD L i kD (cs ++ [Chg.mk a true ByteArray.empty]) k v' r') h' → Q 0 h') : C_disk_Disk_Reset B (some ⟨kD, 0, none⟩) a h Q := by
  refine C_disk_Disk_Reset.of ?_
  unfold S_disk_Disk_Reset
  refine ⟨fun e => (by cases e), fun _ => dgood_wp ?_⟩
  refine ⟨fun hg => Fin.of ?_, fun e => absurd ha (by simpa using e)⟩
  unfold S_disk_Disk_Reset_J1
  rcases ha with rfl | rfl
  · obtain ⟨es, E1⟩ := E.storeA i 0 (Int.toNat 0 * 2) (.string (ByteArray.mk #[])) A.p rfl
    refine ⟨_, rfl, by omega, by omega, _, es, _, rfl, ?_⟩
    exact dwait (c := ⟨0, true, ByteArray.empty⟩) E1 A R hk hl (by rw [textD_one]; rfl) (by rw [textD_one]; rfl) hQ
  · obtain ⟨es, E1⟩ := E.storeA i 0 (Int.toNat 1 * 2) (.string (ByteArray.mk #[])) A.p rfl
    refine ⟨_, rfl, by omega, by omega, _, es, _, rfl, ?_⟩
    exact dwait (c := ⟨1, true, ByteArray.empty⟩) E1 A R hk hl (by rw [textD_one]; rfl) (by rw [textD_one]; rfl) hQ
theorem land_wp {n0 s0 n1 s1 : ByteArray} {c : Chg} {Q : Heap → Prop} (E : Keep B h0 L h) (hi : L[i]? = some (some (kD, dskV n0 s0 n1 s1 v))) (ha : c.a = 0 ∨ c.a = 1) (hz : c.r = false → s0.size + c.s.size ≤ 4611686018427387904 ∧ s1.size + c.s.size ≤ 4611686018427387904)
    (hQ : ∀ h', Keep B h0 (L.set i (some (kD, dskV n0 (chgD 0 s0 c) n1 (chgD 1 s1 c) v))) h' → Q h') : C_disk_Disk_land B (some ⟨kD, 0, none⟩) c.a c.r c.s h Q := by
  refine C_disk_Disk_land.of ?_
  unfold S_disk_Disk_land
  intro k5 a5 b5 h6 e6
  have E1 := E.made a5 b5 e6
  have g := E1.last
  have hi1 := up_app [some (k5, AObj.vec TY.disk_change (plains [.int .i64 c.a, .bool c.r, .string c.s]) 3)] hi
  have il := (List.getElem?_eq_some_iff.1 hi).1
  have n01 : ¬ ((1 : Int) = 0) := by decide
  have n10 : ¬ ((0 : Int) = 1) := by decide
  have key : ∀ (x0 x1 : ByteArray) (h' : Heap), Keep B h0 ((L ++ [some (k5, AObj.vec TY.disk_change (plains [.int .i64 c.a, .bool c.r, .string c.s]) 3)]).set i (some (kD, dskV n0 x0 n1 x1 v))) h' → x0 = chgD 0 s0 c → x1 = chgD 1 s1 c → Fin B h' Q := fun x0 x1 h' E' e0 e1 => by
    subst e0 e1
    rw [List.set_append_left _ _ il] at E'
    exact Fin.of (hQ h' E'.pop)
  have z00 : (0 : Int) ≤ 0 := by decide
  have z02 : (0 : Int) < (2 : Nat) := by decide
  have z01 : (0 : Int) ≤ 1 := by decide
  have z12 : (1 : Int) < (2 : Nat) := by decide
  obtain ⟨ca, cr, s⟩ := c
  simp only at ha hz
  refine ⟨cr, cellH_vec g rfl, fun hr => ?_, fun hr => ?_⟩
  · subst hr
    rcases ha with rfl | rfl
    · obtain ⟨es, E2⟩ := E1.storeA i (0 + Int.toNat 0 * 2) 1 (.string (ByteArray.mk #[])) hi1 rfl
      refine ⟨_, cellH_vec g rfl, _, rfl, z00, z02, _, by rw [addr_more]; exact es, key _ _ _ E2 rfl rfl⟩
    · obtain ⟨es, E2⟩ := E1.storeA i (0 + Int.toNat 1 * 2) 1 (.string (ByteArray.mk #[])) hi1 rfl
      refine ⟨_, cellH_vec g rfl, _, rfl, z01, z12, _, by rw [addr_more]; exact es, key _ _ _ E2 rfl rfl⟩
  · subst hr
    rcases ha with rfl | rfl
    · obtain ⟨es, E2⟩ := E1.storeA i (0 + Int.toNat 0 * 2) 1 (.string (s0 ++ s)) hi1 rfl
      refine ⟨_, cellH_vec g rfl, _, rfl, z00, z02, s0, by rw [addr_more]; exact E1.cellA i hi1 rfl, _, cellH_vec g rfl, (hz rfl).1, _, rfl, z00, z02, _, by rw [addr_more]; exact es, key _ _ _ E2 rfl rfl⟩
    · obtain ⟨es, E2⟩ := E1.storeA i (0 + Int.toNat 1 * 2) 1 (.string (s1 ++ s)) hi1 rfl
      refine ⟨_, cellH_vec g rfl, _, rfl, z01, z12, s1, by rw [addr_more]; exact E1.cellA i hi1 rfl, _, cellH_vec g rfl, (hz rfl).2, _, rfl, z01, z12, _, by rw [addr_more]; exact es, key _ _ _ E2 rfl rfl⟩
end
end Go.Proofs.YtlehephbflgblaaGreat.H
namespace Go.Proofs.YtlehephbflgblaaGreat.H
open Go
set_option linter.unusedVariables false
set_option maxRecDepth 100000
theorem minW (m : Nat) (i : Int) : (if (m : Int) < (if (0 : Int) > i then (0 : Int) else i) then (m : Int) else (if (0 : Int) > i then (0 : Int) else i)) = ((min m i.toNat : Nat) : Int) := by
  split <;> split <;> omega
theorem drop_get {α : Type} {l : List α} {k j : Nat} {x : α} (h : (l.drop k)[j]? = some x) : l[k + j]? = some x := by rwa [List.getElem?_drop] at h
theorem atLast {L : List (Option (Nat × AObj))} {x : Option (Nat × AObj)} : (L ++ [x])[L.length]? = some x := by
  rw [List.getElem?_append_right (Nat.le_refl _), Nat.sub_self]; rfl
theorem setLast {L : List (Option (Nat × AObj))} {x y : Option (Nat × AObj)} : (L ++ [x]).set L.length y = L ++ [y] := by
  rw [List.set_append_right _ _ (Nat.le_refl _), Nat.sub_self]; rfl
theorem land_size {cs : List Chg} (ok : DOk cs) {j : Nat} {x : Chg} (hg : cs[j]? = some x) (hr : x.r = false) : (textD 0 (cs.take j)).size + x.s.size ≤ 4611686018427387904 ∧ (textD 1 (cs.take j)).size + x.s.size ≤ 4611686018427387904 := by
  have z0 := ok.sz 0 j
  have z1 := ok.sz 1 j
  have := ok.sz x.a (j + 1)
  rw [textD_take _ _ _ _ hg, chgD, if_pos rfl, hr, if_neg (by simp), ByteArray.size_append] at this
  omega
section
variable {B : RO} {h0 h h' : Heap} {L : List (Option (Nat × AObj))} {r : Option (Nat × AObj)} {i kD kR k : Nat} {v : Value} {cs : List Chg}
theorem Keep.rowAt {α : Type} {cells : α → List Value} {l : List α} {a : Option Addr} {sz q : Nat} (E : Keep B h0 L h) (hq : L[q]? = some r) (hrd : RowRd B r a sz cells l) (j : Nat) (x : α) (hj : l[j]? = some x) : ∃ A, a = some A ∧ CellsAt B h (Addr.add A (j * sz)) 0 (cells x) := by
  obtain ⟨A, e1, _, e3⟩ := hrd h (fun k o e => E.at q (by rw [hq, e])) j x hj
  exact ⟨A, e1, e3⟩
theorem dsync_wp {Q : Heap → Prop} (E : Keep B h0 L h) (A : DAt L i kD cs k v r) (R : CRow r v (cs.drop k)) (hk : k ≤ cs.length) (ok : DOk cs) (hl : cs.length ≤ 100000)
    (hQ : ∀ h', Keep B h0 (setD L i kD cs cs.length (.slice none 0 0) none) h' → Q h') : C_disk_Disk_Sync B (some ⟨kD, 0, none⟩) h Q := by
  refine C_disk_Disk_Sync.of ?_
  unfold S_disk_Disk_Sync
  obtain ⟨a, m, c, rfl⟩ := Row.slice R
  obtain ⟨rfl, hrd⟩ := Row.rd (B := B) R Chg.len (by omega)
  have il := A.lt
  refine ⟨fun e => (by cases e), fun _ => ⟨_, rfl, .inl ⟨a, _, c, E.cellA i (m := 0) A.p rfl, ?_⟩⟩⟩
  let st : Nat → AObj := fun j => dskV (textD 0 cs) (textD 0 (cs.take (k + j))) (textD 1 cs) (textD 1 (cs.take (k + j))) (.slice a (cs.drop k).length c)
  refine ⟨fun i' m h' => ∃ j : Nat, j ≤ (cs.drop k).length ∧ i' = j ∧ m = (cs.drop k).length - j ∧ Keep B h0 (L.set i (some (kD, st j))) h', (cs.drop k).length, Fin.of ⟨0, by omega, rfl, by omega, ?_⟩, ?_⟩
  · have e : L.set i (some (kD, st 0)) = L := by
      obtain ⟨h1, h2⟩ := List.getElem?_eq_some_iff.1 A.p
      have : (some (kD, st 0)) = L[i] := h2.symm
      rw [this]; exact List.set_getElem_self h1
    rw [e]; exact E
  clear E
  rintro _ _ h10 ⟨j, hj, rfl, rfl, E⟩
  have hi : (L.set i (some (kD, st j)))[i]? = some (some (kD, st j)) := List.getElem?_set_self il.1
  have hq : (L.set i (some (kD, st j)))[i + 1]? = some r := by rw [List.getElem?_set_ne (by omega)]; exact A.q
  refine ⟨fun hlt => ?_, fun hge => ?_⟩
  · have hj' : j < (cs.drop k).length := by omega
    have hg := List.getElem?_eq_getElem hj'
    have hg' := drop_get hg
    generalize (cs.drop k)[j] = x at hg hg'
    obtain ⟨A1, e1, e3⟩ := E.rowAt hq hrd j x hg
    have hax := ok.ar x (List.mem_of_getElem? hg')
    refine ⟨A1, e1, by omega, hlt, x.a, x.r, x.s, by rw [Int.toNat_natCast]; exact e3, fun k21 a21 b21 h22 e22 => ?_⟩
    have E1 := E.made a21 b21 e22
    refine ⟨_, stores_whole E1.last rfl (by simp) (by simp [isOne]) (by simp), ?_⟩
    have E2 := E1.putLast (.vec TY.disk_change (plains x.cells) 3)
    refine ⟨x.a, x.r, x.s, ⟨cellH_vec E2.last rfl, cellH_vec E2.last rfl, cellH_vec E2.last rfl, trivial⟩, ?_⟩
    refine land_wp (i := i) E2 (up_app _ hi) hax (land_size ok hg') fun h27 E3 => Fin.of ⟨(cs.drop k).length - (j + 1), by omega, j + 1, by omega, ?_, rfl, ?_⟩
    · have := List.length_drop (i := k) (l := cs)
      rw [w64 (by omega) (by omega)]; omega
    · rw [List.set_append_left _ _ (by rw [List.length_set]; exact il.1), List.set_set] at E3
      have e : st (j + 1) = dskV (textD 0 cs) (chgD 0 (textD 0 (cs.take (k + j))) x) (textD 1 cs) (chgD 1 (textD 1 (cs.take (k + j))) x) (.slice a (cs.drop k).length c) := by
        show dskV _ (textD 0 (cs.take (k + j + 1))) _ (textD 1 (cs.take (k + j + 1))) _ = _
        rw [textD_take _ _ _ _ hg', textD_take _ _ _ _ hg']
      rw [e]; exact E3.pop
  · have : j = (cs.drop k).length := by omega
    subst this
    obtain ⟨es, E1⟩ := E.storeA i 0 4 (.slice none 0 0) hi rfl
    refine ⟨_, rfl, _, es, Fin.of (hQ _ ?_)⟩
    have E2 := E1.lose (i + 1)
    unfold setD
    have e : dskO cs cs.length (.slice none 0 0) = .vec TY.disk_Disk ((plains [.string (textD 0 cs), .string (textD 0 (cs.take (k + (cs.drop k).length))), .string (textD 1 cs), .string (textD 1 (cs.take (k + (cs.drop k).length))), .slice a (cs.drop k).length c]).set (0 + 4) (.plain (.slice none 0 0))) 5 := by
      have : k + (cs.drop k).length = cs.length := by rw [List.length_drop]; omega
      rw [this]; rfl
    rw [e]
    rw [List.set_set] at E2
    exact E2
theorem crash_J1 {n0 s0 n1 s1 : ByteArray} {cs' : List Chg} {Q : Heap → Prop} {w : Value} (E : Keep B h0 (L.set i (some (kD, dskV n0 s0 n1 s1 w))) h) (il : i < L.length) (e0 : s0 = textD 0 cs') (e1 : s1 = textD 1 cs')
    (hQ : ∀ h', Keep B h0 (setD L i kD cs' cs'.length (.slice none 0 0) none) h' → Q h') : S_disk_Disk_Crash_J1 B (some ⟨kD, 0, none⟩) h Q := by
  unfold S_disk_Disk_Crash_J1
  have hi : ∀ o, (L.set i (some (kD, o)))[i]? = some (some (kD, o)) := fun o => List.getElem?_set_self il
  obtain ⟨es, E1⟩ := E.storeA i 0 4 (.slice none 0 0) (hi _) rfl
  rw [List.set_set] at E1
  let st : Nat → AObj := fun j => dskV (if 0 < j then s0 else n0) s0 (if 1 < j then s1 else n1) s1 (.slice none 0 0)
  refine ⟨_, rfl, _, es, fun i' m h' => ∃ j : Nat, j ≤ 2 ∧ i' = j ∧ m = 2 - j ∧ Keep B h0 (L.set i (some (kD, st j))) h', 2, Fin.of ⟨0, by omega, rfl, by omega, E1⟩, ?_⟩
  clear E1 es E
  rintro _ _ h10 ⟨j, hj, rfl, rfl, E⟩
  refine ⟨fun hlt => ?_, fun hge => ?_⟩
  · have hw : IntKind.wrap .i64 ((j : Int) + 1) = ((j + 1 : Nat) : Int) := by rw [w64 (by omega) (by omega)]; omega
    refine ⟨_, rfl, by omega, hlt, ?_⟩
    match j, hlt, E, hw with
    | 0, _, E, hw =>
      obtain ⟨es, E2⟩ := E.storeA i 0 (Int.toNat ((0 : Nat) : Int) * 2) (.string s0) (hi _) rfl
      rw [List.set_set] at E2
      refine ⟨s0, by rw [addr_more]; exact E.cellA i (hi _) rfl, _, rfl, by omega, by decide, _, es, Fin.of ⟨1, by omega, 1, by omega, hw, rfl, E2⟩⟩
    | 1, _, E, hw =>
      obtain ⟨es, E2⟩ := E.storeA i 0 (Int.toNat ((1 : Nat) : Int) * 2) (.string s1) (hi _) rfl
      rw [List.set_set] at E2
      refine ⟨s1, by rw [addr_more]; exact E.cellA i (hi _) rfl, _, rfl, by omega, by decide, _, es, Fin.of ⟨0, by omega, 2, by omega, hw, rfl, E2⟩⟩
    | j + 2, hlt, _, _ => omega
  · have : j = 2 := by omega
    subst this
    refine Fin.of (hQ _ ?_)
    have E2 := E.lose (i + 1)
    unfold setD dskO
    rw [List.take_length, ← e0, ← e1]
    exact E2
theorem dcrash_wp {keep part : Int} {Q : Heap → Prop} (E : Keep B h0 L h) (A : DAt L i kD cs k v r) (R : CRow r v (cs.drop k)) (hk : k ≤ cs.length) (ok : DOk cs) (hl : cs.length ≤ 100000)
    (hQ : ∀ h', Keep B h0 (setD L i kD (crashD cs k keep part) (crashD cs k keep part).length (.slice none 0 0) none) h' → Q h') : C_disk_Disk_Crash B (some ⟨kD, 0, none⟩) keep part h Q := by
  refine C_disk_Disk_Crash.of ?_
  unfold S_disk_Disk_Crash
  obtain ⟨a, m, c, rfl⟩ := Row.slice R
  obtain ⟨rfl, hrd⟩ := Row.rd (B := B) R Chg.len (by omega)
  have il := A.lt
  have hld := List.length_drop (i := k) (l := cs)
  refine ⟨fun e => (by cases e), fun _ => ⟨_, rfl, .inl ⟨a, _, c, E.cellA i (m := 0) A.p rfl, ?_⟩⟩⟩
  let st : Nat → AObj := fun j => dskV (textD 0 cs) (textD 0 (cs.take (k + j))) (textD 1 cs) (textD 1 (cs.take (k + j))) (.slice a (cs.drop k).length c)
  refine ⟨fun i' m h' => ∃ j : Nat, j ≤ (cs.drop k).length ∧ j ≤ keep.toNat ∧ i' = j ∧ m = (cs.drop k).length - j ∧ Keep B h0 (L.set i (some (kD, st j))) h', (cs.drop k).length, Fin.of ⟨0, by omega, by omega, rfl, by omega, ?_⟩, ?_⟩
  · have e : L.set i (some (kD, st 0)) = L := by
      obtain ⟨h1, h2⟩ := List.getElem?_eq_some_iff.1 A.p
      have : (some (kD, st 0)) = L[i] := h2.symm
      rw [this]; exact List.set_getElem_self h1
    rw [e]; exact E
  clear E
  rintro _ _ h10 ⟨j, hj, hjk, rfl, rfl, E⟩
  have hi : (L.set i (some (kD, st j)))[i]? = some (some (kD, st j)) := List.getElem?_set_self il.1
  have hq : (L.set i (some (kD, st j)))[i + 1]? = some r := by rw [List.getElem?_set_ne (by omega)]; exact A.q
  refine ⟨fun hlt => ?_, fun hge => Fin.of ?_⟩
  · have hj' : j < (cs.drop k).length := by omega
    have hg := List.getElem?_eq_getElem hj'
    have hg' := drop_get hg
    generalize (cs.drop k)[j] = x at hg hg'
    obtain ⟨A1, e1, e3⟩ := E.rowAt hq hrd j x hg
    have hax := ok.ar x (List.mem_of_getElem? hg')
    refine ⟨A1, e1, by omega, hlt, x.a, x.r, x.s, by rw [Int.toNat_natCast]; exact e3, fun k21 a21 b21 h22 e22 => ?_⟩
    have E1 := E.made a21 b21 e22
    refine ⟨_, stores_whole E1.last rfl (by simp) (by simp [isOne]) (by simp), ?_⟩
    have E2 := E1.putLast (.vec TY.disk_change (plains x.cells) 3)
    have g2 := E2.last
    have lands : ∀ {y : Chg} {h' : Heap}, y.a = x.a → (y.r = false → (textD 0 (cs.take (k + j))).size + y.s.size ≤ 4611686018427387904 ∧ (textD 1 (cs.take (k + j))).size + y.s.size ≤ 4611686018427387904) → ∀ {Q' : Heap → Prop} (o : AObj), Keep B h0 (L.set i (some (kD, st j)) ++ [some (k21, o)]) h' →
        (∀ h', Keep B h0 (L.set i (some (kD, dskV (textD 0 cs) (chgD 0 (textD 0 (cs.take (k + j))) y) (textD 1 cs) (chgD 1 (textD 1 (cs.take (k + j))) y) (.slice a (cs.drop k).length c)))) h' → Q' h') → C_disk_Disk_land B (some ⟨kD, 0, none⟩) y.a y.r y.s h' Q' := fun {y h'} ey hz {Q'} o E' hQ' =>
      land_wp (i := i) E' (up_app _ hi) (by rw [ey]; exact hax) hz fun h27 E3 => hQ' _ (by
        rw [List.set_append_left _ _ (by rw [List.length_set]; exact il.1), List.set_set] at E3
        exact E3.pop)
    refine ⟨fun hgt => ?_, fun hlt2 => ?_⟩
    · have hn : min (cs.length - k) keep.toNat = j := by omega
      have hc : ∀ ys, (if x.r = true then [] else [Chg.mk x.a false (cutB part x.s)]) = ys → crashD cs k keep part = cs.take (k + j) ++ ys := fun ys hy => by
        unfold crashD
        simp only [hn, hg']
        rw [← hy]
      refine ⟨x.r, cellH_vec g2 rfl, fun hr => Fin.of ?_, fun hr => ?_⟩
      · have hcr := hc [] (if_pos hr)
        rw [List.append_nil] at hcr
        exact crash_J1 (cs' := crashD cs k keep part) E2.pop il.1 (by rw [hcr]) (by rw [hcr]) hQ
      · have hcr := hc _ (if_neg (by rw [hr]; simp))
        have z0 : Int.toNat 0 = 0 := rfl
        have hcut : x.s.extract (Int.toNat 0) (Int.toNat ((min x.s.size part.toNat : Nat) : Int)) = cutB part x.s := by rw [Int.toNat_natCast]; rfl
        obtain ⟨es, E3⟩ := E2.store (L.set i (some (kD, st j))).length 2 (.string (cutB part x.s)) atLast rfl
        rw [setLast] at E3
        refine ⟨x.s, cellH_vec g2 rfl, x.s, cellH_vec g2 rfl, by omega, by rw [minW]; omega, by rw [minW]; omega, _, by rw [minW, hcut]; exact es, x.a, false, cutB part x.s, ⟨cellH_vec E3.last rfl, by rw [← hr]; exact cellH_vec E3.last rfl, cellH_vec E3.last rfl, trivial⟩, ?_⟩
        refine lands (y := ⟨x.a, false, cutB part x.s⟩) rfl (fun _ => ?_) _ E3 fun h' E4 => Fin.of ?_
        · have := land_size ok hg' hr
          have hle := cutB_le part x.s
          exact ⟨by show _ + (cutB part x.s).size ≤ _; omega, by show _ + (cutB part x.s).size ≤ _; omega⟩
        · refine crash_J1 (cs' := crashD cs k keep part) E4 il.1 ?_ ?_ hQ <;> rw [hcr, textD_one]
    · refine ⟨x.a, x.r, x.s, ⟨cellH_vec g2 rfl, cellH_vec g2 rfl, cellH_vec g2 rfl, trivial⟩, lands rfl (land_size ok hg') _ E2 fun h' E4 => Fin.of ⟨(cs.drop k).length - (j + 1), by omega, j + 1, by omega, by omega, ?_, rfl, ?_⟩⟩
      · rw [w64 (by omega) (by omega)]; omega
      · have e : st (j + 1) = dskV (textD 0 cs) (chgD 0 (textD 0 (cs.take (k + j))) x) (textD 1 cs) (chgD 1 (textD 1 (cs.take (k + j))) x) (.slice a (cs.drop k).length c) := by
          show dskV _ (textD 0 (cs.take (k + j + 1))) _ (textD 1 (cs.take (k + j + 1))) _ = _
          rw [textD_take _ _ _ _ hg', textD_take _ _ _ _ hg']
        rw [e]; exact E4
  · have hj2 : j = (cs.drop k).length := by omega
    have hn : min (cs.length - k) keep.toNat = cs.length - k := by omega
    have hcr : crashD cs k keep part = cs.take (k + j) := by
      unfold crashD
      simp only [hn]
      rw [List.getElem?_eq_none (by omega), List.append_nil, hj2, hld]
    exact crash_J1 (cs' := crashD cs k keep part) E il.1 (by rw [hcr]) (by rw [hcr]) hQ
end
end Go.Proofs.YtlehephbflgblaaGreat.H
