/- What the law's proof stands on, part 4. No condition. -/
import Derived.Test.YtlehephbflgblaaG3
namespace Go.Proofs.Ytlehephbflgblaa.H
open Go
set_option linter.unusedVariables false
set_option maxRecDepth 100000
set_option maxHeartbeats 4000000
theorem C_countermandlaw21_WorldOpens.of {B : RO} {s1 : ByteArray} {s2 : ByteArray} {h : Heap} {Q : Bool → Heap → Prop} (s : S_countermandlaw21_WorldOpens B s1 s2 h Q) : C_countermandlaw21_WorldOpens B s1 s2 h Q := by
 refine zspec Try.func3 [ResultVar.tmp 4] rfl rfl rfl rfl rfl ?_
 refine au 7 rfl ?_
 refine zcall s rfl rfl TF.goes_5 ?_
 rintro _ h4 ⟨b5, rfl, s⟩
 cases b5
 ·replace s := s.2 rfl
  refine au 7 rfl ?_
  exact zr (s.imp fun _ q => ⟨_, rfl, q⟩)
 ·replace s := s.1 rfl
  refine au 4 rfl ?_
  refine Run.seqJ (fun e h7 => Agree [(0, (.string s1)), (1, (.string s2))] e ∧ S_countermandlaw21_WorldOpens_J1 B s1 s2 h7 Q) ?_ fun j6 => ?_
  ·rintro e h7 ⟨hag, s⟩
   refine Run.env hag ?_; clear hag
   refine au 2 rfl ?_
   refine zcall s rfl rfl TF.goes_6 ?_
   rintro _ h8 ⟨p9, rfl, s⟩
   refine au 6 rfl ?_
   refine zcall s rfl rfl TF.goes_7 ?_
   rintro _ h10 ⟨i11, rfl, s⟩
   refine au 5 rfl ?_
   refine zcall s rfl rfl TF.goes_7 ?_
   rintro _ h12 ⟨i13, rfl, s⟩
   refine au 5 rfl ?_
   refine zcall s rfl rfl TF.goes_8 ?_
   rintro _ h14 ⟨l15, i16, b17, rfl, s⟩
   refine au 3 rfl ?_
   cases b17
   ·replace s := s.2 rfl
    refine au 1 rfl ?_
    refine zal s rfl TF.zero_29 rfl fun k18 h19 s => ?_
    obtain ⟨hln, h20, hst, s⟩ := s
    refine zg0 rfl (sem_storeN ⟨k18, 0, none⟩ l15 h20 rfl rfl (TF.sz_29.trans (congrArg some hln.symm)) hst ?_)
    refine au 6 rfl ?_
    refine zcall s rfl rfl TF.goes_9 ?_
    rintro _ h21 ⟨p22, i23, rfl, s⟩
    refine au 16 rfl ?_
    refine zt s rfl rfl rfl binI_eql_t binI_eql_f (fun s => ?_) fun s => ?_
    ·refine au 2 rfl ?_
     refine zg rfl (sem_ptrNilV p22 (.inl rfl) ((decide (p22 = none))) rfl rfl TF.ptr_32 (by cases p22 <;> rfl) ?_)
     refine au 3 rfl ?_
     exact zr (s.imp fun _ q => ⟨_, rfl, q⟩)
    ·refine au 6 rfl ?_
     exact zr (s.imp fun _ q => ⟨_, rfl, q⟩)
   ·replace s := s.1 rfl
    refine au 1 rfl ?_
    refine zal s rfl TF.zero_29 rfl fun k24 h25 s => ?_
    obtain ⟨hln, h26, hst, s⟩ := s
    refine zg0 rfl (sem_storeN ⟨k24, 0, none⟩ l15 h26 rfl rfl (TF.sz_29.trans (congrArg some hln.symm)) hst ?_)
    refine au 6 rfl ?_
    refine zcall s rfl rfl TF.goes_9 ?_
    rintro _ h27 ⟨p28, i29, rfl, s⟩
    refine au 18 rfl ?_
    refine zcall s rfl rfl TF.goes_10 ?_
    rintro _ h30 ⟨i31, s32, a33, n34, c35, rfl, s⟩
    refine au 12 rfl ?_
    refine zt s rfl rfl rfl binI_eql_t binI_eql_f (fun s => ?_) fun s => ?_
    ·refine au 5 rfl ?_
     refine zt s rfl rfl rfl binI_eql_t binI_eql_f (fun s => ?_) fun s => ?_
     ·refine au 2 rfl ?_
      refine zg rfl (sem_ptrNilV p28 (.inl rfl) ((decide (p28 = none))) rfl rfl TF.ptr_32 (by cases p28 <;> rfl) ?_)
      refine au 3 rfl ?_
      exact zr (s.imp fun _ q => ⟨_, rfl, q⟩)
     ·refine au 6 rfl ?_
      exact zr (s.imp fun _ q => ⟨_, rfl, q⟩)
    ·refine au 3 rfl ?_
     refine Run.seqJ (fun e h37 => Agree [(5, (.pointer p9)), (6, (.pointer (some ⟨k24, 0, none⟩))), (7, (.int .i64 (i16))), (11, (.int .i64 (i31)))] e ∧ S_countermandlaw21_WorldOpens_J2 B p9 i16 k24 i31 h37 Q) ?_ fun j36 => ?_
     ·rintro e h37 ⟨hag, s⟩
      refine Run.env hag ?_; clear hag
      refine au 3 rfl ?_
      refine zcall s rfl rfl TF.goes_17 ?_
      rintro _ h38 ⟨rfl, s⟩
      refine au 4 rfl ?_
      refine zcall s rfl rfl TF.goes_9 ?_
      rintro _ h39 ⟨p40, i41, rfl, s⟩
      refine au 10 rfl ?_
      refine zt s rfl rfl rfl binI_eql_t binI_eql_f (fun s => ?_) fun s => ?_
      ·refine au 5 rfl ?_
       refine zt s rfl rfl rfl binI_eql_t binI_eql_f (fun s => ?_) fun s => ?_
       ·refine au 2 rfl ?_
        refine zg rfl (sem_ptrNilV p40 (.inl rfl) ((decide (p40 = none))) rfl rfl TF.ptr_32 (by cases p40 <;> rfl) ?_)
        refine au 3 rfl ?_
        exact zr (s.imp fun _ q => ⟨_, rfl, q⟩)
       ·refine au 6 rfl ?_
        exact zr (s.imp fun _ q => ⟨_, rfl, q⟩)
      ·refine au 6 rfl ?_
       refine zt s rfl rfl rfl binI_eql_t binI_eql_f (fun s => ?_) fun s => ?_
       ·refine au 2 rfl ?_
        obtain ⟨l42, nl42, hl, s⟩ := s
        refine zg rfl (sem_loadN ⟨k24, 0, none⟩ l42 rfl TF.agg_29 (TF.sz_29.trans (congrArg some nl42.symm)) hl ?_)
        refine zcall s rfl rfl TF.goes_11 ?_
        rintro _ h43 ⟨b44, rfl, s⟩
        cases b44
        ·replace s := s.2 rfl
         refine au 9 rfl ?_
         exact zr (s.imp fun _ q => ⟨_, rfl, q⟩)
        ·replace s := s.1 rfl
         refine au 3 rfl ?_
         refine zcall s rfl rfl TF.goes_12 ?_
         rintro _ h45 ⟨i46, rfl, s⟩
         refine au 5 rfl ?_
         exact zr (s.imp fun _ q => ⟨_, rfl, q⟩)
       ·refine au 13 rfl ?_
        exact zr (s.imp fun _ q => ⟨_, rfl, q⟩)
     refine au 3 rfl ?_
     refine zu s rfl rfl rfl binI_neq_t binI_neq_f (fun s => ?_) fun s => ?_
     ·refine au 2 rfl ?_
      obtain ⟨l47, nl47, hl, s⟩ := s
      refine zg rfl (sem_loadN ⟨k24, 0, none⟩ l47 rfl TF.agg_29 (TF.sz_29.trans (congrArg some nl47.symm)) hl ?_)
      refine zcall s rfl rfl TF.goes_11 ?_
      rintro _ h48 ⟨b49, rfl, s⟩
      cases b49
      ·replace s := s.2 rfl
       refine au 40 rfl ?_
       exact zr (s.imp fun _ q => ⟨_, rfl, q⟩)
      ·replace s := s.1 rfl
       refine au 4 rfl ?_
       refine zcall s rfl rfl TF.goes_12 ?_
       rintro _ h50 ⟨i51, rfl, s⟩
       refine au 1 rfl ?_
       refine zu s rfl rfl rfl binI_neq_t binI_neq_f (fun s => ?_) fun s => ?_
       ·refine au 3 rfl ?_
        refine zcall s rfl rfl TF.goes_13 ?_
        rintro _ h52 ⟨p53, rfl, s⟩
        refine znil s rfl rfl fun A54 s => ?_
        refine au 1 rfl ?_
        refine zl s rfl rfl TF.agg_3 fun i56 s => ?_
        refine zu s rfl rfl rfl binI_neq_t binI_neq_f (fun s => ?_) fun s => ?_
        ·refine au 3 rfl ?_
         refine zcall s rfl rfl TF.goes_14 ?_
         rintro _ h57 ⟨i58, i59, i60, i61, rfl, s⟩
         refine zg rfl (sem_buildAL [] [(.int .i64 (0)), (.int .i64 (0)), (.int .i64 (0)), (.int .i64 (0))] TF.zero_47 TF.arr_47 rfl rfl ?_)
         by_cases hb62 : eqL [(.int .i64 (i58)), (.int .i64 (i59)), (.int .i64 (i60)), (.int .i64 (i61))] [(.int .i64 (0)), (.int .i64 (0)), (.int .i64 (0)), (.int .i64 (0))] = true
         ·replace s := s.1 hb62
          refine zg rfl (sem_aggEq [(.int .i64 (i58)), (.int .i64 (i59)), (.int .i64 (i60)), (.int .i64 (i61))] [(.int .i64 (0)), (.int .i64 (0)), (.int .i64 (0)), (.int .i64 (0))] _ (false) (.inr rfl) rfl rfl TF.agg_47 TF.flat_47 TF.eqg_47 ⟨⟨_, rfl⟩, ⟨_, rfl⟩, ⟨_, rfl⟩, ⟨_, rfl⟩, trivial⟩ ⟨⟨_, rfl⟩, ⟨_, rfl⟩, ⟨_, rfl⟩, ⟨_, rfl⟩, trivial⟩ (eqLT_neq hb62) ?_)
          refine au 3 rfl ?_
          refine zcall s rfl rfl TF.goes_15 ?_
          rintro _ h63 ⟨a64, n65, c66, rfl, s⟩
          refine zg rfl (sem_lenSl a64 n65 c66 rfl TF.sl_49 ?_)
          refine zu s rfl rfl rfl binI_neq_t binI_neq_f (fun s => ?_) fun s => ?_
          ·refine au 3 rfl ?_
           refine zcall s rfl rfl TF.goes_16 ?_
           rintro _ h67 ⟨p68, rfl, s⟩
           refine au 1 rfl ?_
           refine zg rfl (sem_eqW ((.pointer p68)) ((.pointer p9)) rfl rfl (semH_mono (fun v h70 hv => ?_) s))
           obtain ⟨b69, rfl, s⟩ := hv
           cases b69
           ·replace s := s.2 rfl
            refine au 4 rfl ?_
            exact Run.of_fin (s.imp fun h' s => j36 _ _ ⟨⟨rfl, rfl, rfl, rfl, trivial⟩, s⟩)
           ·replace s := s.1 rfl
            refine au 7 rfl ?_
            exact zr (s.imp fun _ q => ⟨_, rfl, q⟩)
          ·refine au 13 rfl ?_
           exact zr (s.imp fun _ q => ⟨_, rfl, q⟩)
         ·replace s := s.2 hb62
          refine zg rfl (sem_aggEq [(.int .i64 (i58)), (.int .i64 (i59)), (.int .i64 (i60)), (.int .i64 (i61))] [(.int .i64 (0)), (.int .i64 (0)), (.int .i64 (0)), (.int .i64 (0))] _ (true) (.inr rfl) rfl rfl TF.agg_47 TF.flat_47 TF.eqg_47 ⟨⟨_, rfl⟩, ⟨_, rfl⟩, ⟨_, rfl⟩, ⟨_, rfl⟩, trivial⟩ ⟨⟨_, rfl⟩, ⟨_, rfl⟩, ⟨_, rfl⟩, ⟨_, rfl⟩, trivial⟩ (eqLF_neq hb62) ?_)
          refine au 19 rfl ?_
          exact zr (s.imp fun _ q => ⟨_, rfl, q⟩)
        ·refine au 25 rfl ?_
         exact zr (s.imp fun _ q => ⟨_, rfl, q⟩)
       ·refine au 33 rfl ?_
        exact zr (s.imp fun _ q => ⟨_, rfl, q⟩)
     ·refine au 44 rfl ?_
      exact zr (s.imp fun _ q => ⟨_, rfl, q⟩)
  refine au 3 rfl ?_
  refine zg rfl (sem_lenStr s1 rfl TF.isStr_9 ?_)
  refine zt s rfl rfl rfl binI_gtr_t binI_gtr_f (fun s => ?_) fun s => ?_
  ·refine au 11 rfl ?_
   exact zr (s.imp fun _ q => ⟨_, rfl, q⟩)
  ·refine au 2 rfl ?_
   refine zg rfl (sem_lenStr s2 rfl TF.isStr_9 ?_)
   refine zt s rfl rfl rfl binI_gtr_t binI_gtr_f (fun s => ?_) fun s => ?_
   ·refine au 7 rfl ?_
    exact zr (s.imp fun _ q => ⟨_, rfl, q⟩)
   ·refine au 4 rfl ?_
    exact Run.of_fin (s.imp fun h' s => j6 _ _ ⟨⟨rfl, rfl, trivial⟩, s⟩)
theorem C_countermandlaw21_alive.of {B : RO} {h : Heap} {Q : Bool → Heap → Prop} (s : S_countermandlaw21_alive B h Q) : C_countermandlaw21_alive B h Q := by
 refine zspec Try.func5 [ResultVar.tmp 0] rfl rfl rfl rfl rfl ?_
 refine au 6 rfl ?_
 refine zcall s rfl rfl TF.goes_6 ?_
 rintro _ h2 ⟨p3, rfl, s⟩
 refine zcall s rfl rfl TF.goes_9 ?_
 rintro _ h4 ⟨p5, i6, rfl, s⟩
 refine au 10 rfl ?_
 refine zu s rfl rfl rfl binI_neq_t binI_neq_f (fun s => ?_) fun s => ?_
 ·refine au 6 rfl ?_
  refine zg rfl (sem_buildSL [(0, (.int .i64 (1))), (1, (.int .i64 (5)))] [(.int .i64 (1)), (.int .i64 (5))] TF.zero_59 TF.places_59 rfl rfl ?_)
  refine zg rfl (sem_buildSliceL [(0, (.agg #[(.int .i64 (1)), (.int .i64 (5))]))] [(.int .i64 (1)), (.int .i64 (5))] TF.slc_116 TF.zero_59 rfl (by decide) (by decide) rfl rfl (fun k7 hb1 hb2 h8 hb3 => ?_))
  have s := s k7 hb1 hb2 h8 hb3
  refine zcall s rfl rfl TF.goes_18 ?_
  rintro _ h9 ⟨rfl, s⟩
  refine au 4 rfl ?_
  refine zcall s rfl rfl TF.goes_23 ?_
  rintro _ h10 ⟨rfl, s⟩
  refine au 4 rfl ?_
  refine zcall s rfl rfl TF.goes_14 ?_
  rintro _ h11 ⟨i12, i13, i14, i15, rfl, s⟩
  obtain ⟨hi0, hi1, i16, hix, s⟩ := s
  refine zg rfl (sem_indexArr #[(.int .i64 (i12)), (.int .i64 (i13)), (.int .i64 (i14)), (.int .i64 (i15))] (.int .i64 (i16)) .i64 (1) rfl rfl TF.arr_47 hi0 hi1 hix ?_)
  refine zt s rfl rfl rfl binI_eql_t binI_eql_f (fun s => ?_) fun s => ?_
  ·refine au 2 rfl ?_
   refine zcall s rfl rfl TF.goes_12 ?_
   rintro _ h17 ⟨i18, rfl, s⟩
   refine zt s rfl rfl rfl binI_eql_t binI_eql_f (fun s => ?_) fun s => ?_
   ·refine au 3 rfl ?_
    refine zcall s rfl rfl TF.goes_13 ?_
    rintro _ h19 ⟨p20, rfl, s⟩
    refine znil s rfl rfl fun A21 s => ?_
    refine au 1 rfl ?_
    refine zl s rfl rfl TF.agg_3 fun i23 s => ?_
    refine au 4 rfl ?_
    exact zr (s.imp fun _ q => ⟨_, rfl, q⟩)
   ·refine au 11 rfl ?_
    exact zr (s.imp fun _ q => ⟨_, rfl, q⟩)
  ·refine au 15 rfl ?_
   exact zr (s.imp fun _ q => ⟨_, rfl, q⟩)
 ·refine au 6 rfl ?_
  exact zr (s.imp fun _ q => ⟨_, rfl, q⟩)
theorem C_disk_New.of {B : RO} {h : Heap} {Q : Option Addr → Heap → Prop} (s : S_disk_New B h Q) : C_disk_New B h Q := by
 refine zspec Try.func6 [ResultVar.tmp 0] rfl rfl rfl rfl rfl ?_
 refine au 6 rfl ?_
 refine zg rfl (sem_buildSL [] [(.string ByteArray.empty), (.string ByteArray.empty), (.string ByteArray.empty), (.string ByteArray.empty), (.slice none 0 0)] TF.zero_85 TF.places_85 rfl rfl ?_)
 refine zbn s rfl rfl rfl fun k2 h3 s => ?_
 refine au 2 rfl ?_
 exact zr (s.imp fun _ q => ⟨_, rfl, q⟩)
theorem C_disk_Disk_Append.of {B : RO} {p1 : Option Addr} {i2 : Int} {s3 : ByteArray} {h : Heap} {Q : Int → Heap → Prop} (s : S_disk_Disk_Append B p1 i2 s3 h Q) : C_disk_Disk_Append B p1 i2 s3 h Q := by
 refine zspec Try.func7 [ResultVar.tmp 6] rfl rfl rfl rfl rfl ?_
 refine au 4 rfl ?_
 refine Run.seqJ (fun e h6 => Agree [(0, (.pointer p1)), (1, (.int .i64 (i2))), (2, (.string s3))] e ∧ S_disk_Disk_Append_J1 B p1 i2 s3 h6 Q) ?_ fun j5 => ?_
 ·rintro e h6 ⟨hag, s⟩
  refine Run.env hag ?_; clear hag
  refine au 1 rfl ?_
  refine Run.drawM (fun h' => h' = h6) [13] ⟨[0, 0, 1, 4, 10, 16, 32, 0, 192, 1, 512, 1535, 2559, 4607], [16383, 16383, 16382, 16379, 16373, 16367, 16351, 16383, 16191, 16382, 15871, 15357, 14335, 12031], [0, 0, 1, 5, 15, 31, 63, 0, 255, 1, 513, 2047, 4095, 8191], 8192⟩ (.q 0 (.q 1 (.q 2 (.q 3 (.q 4 (.q 5 (.q 6 (.q 7 (.q 8 (.q 9 (.q 10 (.q 11 (.q 12 (.x 13 .nil .no)))))))))))))) TF.mixed (by kernel_rfl) rfl ?_
  refine auT 2 rfl ?_
  obtain ⟨A7, e8, s⟩ := s
  refine zqe rfl (sem_nilCheck A7 (congrArg Value.pointer e8) ⟨rfl, rfl⟩) ?_
  refine auT 1 rfl ?_
  obtain ⟨hi0, hi1, s⟩ := s
  refine zqe rfl (sem_indexAddrA A7 .i64 (i2) rfl rfl TF.arr_82 hi0 hi1 ⟨rfl, rfl⟩) ?_
  refine auT 1 rfl ?_
  obtain ⟨s9, hl, s⟩ := s
  refine zqe rfl (sem_load1 (Addr.add A7 (Int.toNat (i2) * 2)) ((.string s9)) rfl TF.agg_9 hl ⟨rfl, rfl⟩) ?_
  refine auT 1 rfl ?_
  obtain ⟨hi0, s⟩ := s
  refine zqe rfl (sem_strAdd s9 s3 rfl rfl hi0 ⟨rfl, rfl⟩) ?_
  obtain ⟨A10, e11, s⟩ := s
  refine zqe rfl (sem_nilCheck A10 (congrArg Value.pointer e11) ⟨rfl, rfl⟩) ?_
  refine auT 1 rfl ?_
  obtain ⟨hi0, hi1, s⟩ := s
  refine zqe rfl (sem_indexAddrA A10 .i64 (i2) rfl rfl TF.arr_82 hi0 hi1 ⟨rfl, rfl⟩) ?_
  refine auT 1 rfl ?_
  obtain ⟨h12, hst, s⟩ := s
  refine ⟨zo0 rfl (sem_store1 (Addr.add A10 (Int.toNat (i2) * 2)) ((.string (s9 ++ s3))) h12 rfl rfl rfl TF.sz_9 hst ?_), trivial⟩
  refine ⟨fun hz => Bool.noConfusion hz, ?_⟩
  refine au 4 rfl ?_
  refine znil s rfl rfl fun A13 s => ?_
  refine au 1 rfl ?_
  refine Run.ldSl s fun a15 n16 c17 h18 hl s => ?_
  refine zg rfl (sem_load1 (Addr.add A13 4) ((.slice a15 n16 c17)) rfl TF.agg_83 hl ?_)
  refine au 2 rfl ?_
  refine zg rfl (sem_buildSL [(0, (.int .i64 (i2))), (2, (.string s3))] [(.int .i64 (i2)), (.bool false), (.string s3)] TF.zero_87 TF.places_87 rfl rfl ?_)
  refine zg rfl (sem_buildSliceL [(0, (.agg #[(.int .i64 (i2)), (.bool false), (.string s3)]))] [(.int .i64 (i2)), (.bool false), (.string s3)] TF.slc_83 TF.zero_87 rfl (by decide) (by decide) rfl rfl (fun k19 hb1 hb2 h20 hb3 => ?_))
  have s := s k19 hb1 hb2 h20 hb3
  refine zg rfl (sem_appendL [(.slice a15 n16 c17), (.slice (some ⟨k19, 0, none⟩) 1 1)] rfl (semH_mono (fun v h21 hv => ?_) s))
  obtain ⟨a22, n23, c24, rfl, s⟩ := hv
  refine znil s rfl rfl fun A25 s => ?_
  refine au 1 rfl ?_
  refine zs1 s rfl rfl rfl rfl TF.sz_83 fun h27 s => ?_
  refine au 5 rfl ?_
  exact zr (s.imp fun _ q => ⟨_, rfl, q⟩)
 refine au 4 rfl ?_
 by_cases hb28 : p1 = none
 ·replace s := s.1 hb28
  refine zg rfl (sem_ptrNilT p1 (.inl rfl) true rfl rfl TF.ptr_23 hb28 rfl ?_)
  refine au 7 rfl ?_
  exact zr (s.imp fun _ q => ⟨_, rfl, q⟩)
 ·replace s := s.2 hb28
  refine zg rfl (sem_ptrNilF p1 (.inl rfl) false rfl rfl TF.ptr_23 hb28 rfl ?_)
  refine au 6 rfl ?_
  refine zcall s rfl rfl TF.goes_29 ?_
  rintro _ h29 ⟨b30, rfl, s⟩
  cases b30
  ·replace s := s.2 rfl
   refine au 8 rfl ?_
   exact zr (s.imp fun _ q => ⟨_, rfl, q⟩)
  ·replace s := s.1 rfl
   refine au 7 rfl ?_
   refine zg rfl (sem_lenStr s3 rfl TF.isStr_9 ?_)
   refine au 2 rfl ?_
   refine znil s rfl rfl fun A31 s => ?_
   refine au 1 rfl ?_
   obtain ⟨hi0, hi1, s⟩ := s
   refine zg rfl (sem_indexAddrA A31 .i64 (i2) rfl rfl TF.arr_82 hi0 hi1 ?_)
   refine au 1 rfl ?_
   refine zl s rfl rfl TF.agg_9 fun s33 s => ?_
   refine zg rfl (sem_lenStr s33 rfl TF.isStr_9 ?_)
   refine au 1 rfl ?_
   refine zt s rfl rfl rfl binI_gtr_t binI_gtr_f (fun s => ?_) fun s => ?_
   ·refine au 7 rfl ?_
    exact zr (s.imp fun _ q => ⟨_, rfl, q⟩)
   ·refine au 5 rfl ?_
    exact Run.of_fin (s.imp fun h' s => j5 _ _ ⟨⟨rfl, rfl, rfl, trivial⟩, s⟩)
theorem C_countermandref21_Opened.of {B : RO} {s1 : ByteArray} {s2 : ByteArray} {h : Heap} {Q : List Value → Int → Bool → Heap → Prop} (s : S_countermandref21_Opened B s1 s2 h Q) : C_countermandref21_Opened B s1 s2 h Q := by
 refine zspec Try.func8 [ResultVar.cell 4 29, ResultVar.tmp 5, ResultVar.tmp 6] rfl rfl rfl rfl rfl ?_
 refine au 2 rfl ?_
 refine zal s rfl TF.zero_29 rfl fun k6 h7 s => ?_
 refine au 7 rfl ?_
 refine zcall s rfl rfl TF.goes_10 ?_
 rintro _ h8 ⟨i9, s10, a11, n12, c13, rfl, s⟩
 refine au 10 rfl ?_
 refine zal s rfl TF.zero_29 rfl fun k14 h15 s => ?_
 refine au 5 rfl ?_
 refine Run.seqJ (fun e h18 => ∃ i17 : Int, Agree [(4, (.pointer (some ⟨k6, 0, none⟩))), (9, (.slice a11 n12 c13)), (10, (.pointer (some ⟨k14, 0, none⟩))), (11, (.int .i64 (i17)))] e ∧ S_countermandref21_Opened_J1 B k6 a11 n12 c13 k14 i17 h18 Q) ?_ fun j16 => ?_
 ·rintro e h18 ⟨i17, hag, s⟩
  refine Run.env hag ?_; clear hag
  refine au 4 rfl ?_
  refine zg rfl (sem_lenSl a11 n12 c13 rfl TF.sl_35 ?_)
  refine au 3 rfl ?_
  obtain ⟨J25, m23, h0, s⟩ := s
  refine Run.of_fin (h0.imp fun h' h0 => ?_)
  refine Run.loop (σ := Int × Int × Nat) (fun x e h => J25 x.1 x.2.1 x.2.2 h ∧ Agree [(4, (.pointer (some ⟨k6, 0, none⟩))), (10, (.pointer (some ⟨k14, 0, none⟩))), (11, (.int .i64 (x.1))), (55, (.slice a11 n12 c13)), (56, (.int .i64 ((n12 : Nat)))), (57, (.int .i64 (x.2.1)))] e) (fun x => x.2.2) ((i17), (0), m23) ⟨h0, ⟨rfl, rfl, rfl, rfl, rfl, rfl, trivial⟩⟩ ?_; clear h0
  rintro ⟨i19, i20, m22⟩ e h21 ⟨hJ, hag⟩ ih24
  have s := s i19 i20 m22 h21 hJ; clear hJ
  refine Run.env hag ?_; clear hag
  refine au 2 rfl ?_
  refine zt s rfl rfl rfl binI_lss_t binI_lss_f (fun s => ?_) fun s => ?_
  ·refine au 8 rfl ?_
   obtain ⟨A26, e27, hi0, hi1, s⟩ := s
   refine zg rfl (sem_indexAddrS A26 n12 c13 .i64 (i20) (congrArg (fun a => Value.slice a n12 c13) e27) rfl TF.slc_35 hi0 hi1 ?_)
   refine zl s rfl rfl TF.agg_9 fun s28 s => ?_
   refine au 5 rfl ?_
   refine zcall s rfl rfl TF.goes_32 ?_
   rintro _ h29 ⟨i30, a31, n32, c33, b34, rfl, s⟩
   refine au 3 rfl ?_
   cases b34
   ·replace s := s.2 rfl
    refine au 1 rfl ?_
    refine au 13 rfl ?_
    obtain ⟨l35, nl35, hl, s⟩ := s
    refine zg rfl (sem_loadN ⟨k14, 0, none⟩ l35 rfl TF.agg_29 (TF.sz_29.trans (congrArg some nl35.symm)) hl ?_)
    obtain ⟨hln, h36, hst, s⟩ := s
    refine zg0 rfl (sem_storeN ⟨k6, 0, none⟩ l35 h36 rfl rfl (TF.sz_29.trans (congrArg some hln.symm)) hst ?_)
    refine au 3 rfl ?_
    obtain ⟨l37, hln0, hl0, s⟩ := s
    exact zr (⟨⟨k6, 0, none⟩, (.agg (List.toArray l37)), rfl, loadHN TF.agg_29 (TF.sz_29.trans (congrArg some hln0.symm)) hl0, s.imp fun _ q => ⟨_, _, _, rfl, q⟩⟩)
   ·replace s := s.1 rfl
    refine au 1 rfl ?_
    refine au 14 rfl ?_
    obtain ⟨l38, nl38, hl, s⟩ := s
    refine zg rfl (sem_loadN ⟨k14, 0, none⟩ l38 rfl TF.agg_29 (TF.sz_29.trans (congrArg some nl38.symm)) hl ?_)
    refine au 1 rfl ?_
    refine zcall s rfl rfl TF.goes_33 ?_
    rintro _ h39 ⟨l40, rfl, s⟩
    obtain ⟨hln, h41, hst, s⟩ := s
    refine zg0 rfl (sem_storeN ⟨k14, 0, none⟩ l40 h41 rfl rfl (TF.sz_29.trans (congrArg some hln.symm)) hst ?_)
    refine au 4 rfl ?_
    refine zg rfl (sem_max .i64 (i19) (i30) rfl rfl ?_)
    refine au 7 rfl ?_
    exact Run.of_fin (s.imp fun h' ⟨m', hm, s⟩ => ih24 ((if (i30 : Int) > (i19) then (i30 : Int) else (i19)), (IntKind.wrap .i64 ((i20) + (1))), m') _ _ ⟨s, ⟨rfl, rfl, rfl, rfl, rfl, rfl, trivial⟩⟩ hm)
  ·refine au 6 rfl ?_
   obtain ⟨l42, nl42, hl, s⟩ := s
   refine zg rfl (sem_loadN ⟨k14, 0, none⟩ l42 rfl TF.agg_29 (TF.sz_29.trans (congrArg some nl42.symm)) hl ?_)
   refine au 1 rfl ?_
   obtain ⟨hln, h43, hst, s⟩ := s
   refine zg0 rfl (sem_storeN ⟨k6, 0, none⟩ l42 h43 rfl rfl (TF.sz_29.trans (congrArg some hln.symm)) hst ?_)
   refine au 3 rfl ?_
   obtain ⟨l44, hln0, hl0, s⟩ := s
   exact zr (⟨⟨k6, 0, none⟩, (.agg (List.toArray l44)), rfl, loadHN TF.agg_29 (TF.sz_29.trans (congrArg some hln0.symm)) hl0, s.imp fun _ q => ⟨_, _, _, rfl, q⟩⟩)
 refine au 3 rfl ?_
 by_cases hb45 : s10 = (ByteArray.mk #[])
 ·replace s := s.1 hb45
  refine zg rfl (sem_strNeT s10 (ByteArray.mk #[]) rfl rfl hb45 ?_)
  refine au 3 rfl ?_
  exact Run.of_fin (s.imp fun h' s => j16 _ _ ⟨(0), ⟨rfl, rfl, rfl, rfl, trivial⟩, s⟩)
 ·replace s := s.2 hb45
  refine zg rfl (sem_strNeF s10 (ByteArray.mk #[]) rfl rfl hb45 ?_)
  refine au 5 rfl ?_
  refine zcall s rfl rfl TF.goes_30 ?_
  rintro _ h46 ⟨i47, i48, rfl, s⟩
  refine au 6 rfl ?_
  refine Run.seqJ (fun e h50 => Agree [(4, (.pointer (some ⟨k6, 0, none⟩))), (8, (.string s10)), (9, (.slice a11 n12 c13)), (10, (.pointer (some ⟨k14, 0, none⟩))), (12, (.int .u64 (i47))), (13, (.int .i64 (i48)))] e ∧ S_countermandref21_Opened_J2 B k6 s10 a11 n12 c13 k14 i47 i48 h50 Q) ?_ fun j49 => ?_
  ·rintro e h50 ⟨hag, s⟩
   refine Run.env hag ?_; clear hag
   refine au 4 rfl ?_
   obtain ⟨hi0, hi1, hi2, s⟩ := s
   refine zg rfl (sem_sliceStrI s10 (i48) ((ByteArray.size s10 : Nat)) rfl TF.isStr_9 ⟨_, rfl⟩ rfl hi0 hi1 hi2 ?_)
   refine zcall s rfl rfl TF.goes_31 ?_
   rintro _ h51 ⟨l52, b53, rfl, s⟩
   refine au 2 rfl ?_
   cases b53
   ·replace s := s.2 rfl
    refine au 1 rfl ?_
    refine zal s rfl TF.zero_29 rfl fun k54 h55 s => ?_
    obtain ⟨hln, h56, hst, s⟩ := s
    refine zg0 rfl (sem_storeN ⟨k54, 0, none⟩ l52 h56 rfl rfl (TF.sz_29.trans (congrArg some hln.symm)) hst ?_)
    refine au 11 rfl ?_
    obtain ⟨l57, nl57, hl, s⟩ := s
    refine zg rfl (sem_loadN ⟨k14, 0, none⟩ l57 rfl TF.agg_29 (TF.sz_29.trans (congrArg some nl57.symm)) hl ?_)
    obtain ⟨hln, h58, hst, s⟩ := s
    refine zg0 rfl (sem_storeN ⟨k6, 0, none⟩ l57 h58 rfl rfl (TF.sz_29.trans (congrArg some hln.symm)) hst ?_)
    refine au 3 rfl ?_
    obtain ⟨l59, hln0, hl0, s⟩ := s
    exact zr (⟨⟨k6, 0, none⟩, (.agg (List.toArray l59)), rfl, loadHN TF.agg_29 (TF.sz_29.trans (congrArg some hln0.symm)) hl0, s.imp fun _ q => ⟨_, _, _, rfl, q⟩⟩)
   ·replace s := s.1 rfl
    refine au 1 rfl ?_
    refine zal s rfl TF.zero_29 rfl fun k60 h61 s => ?_
    obtain ⟨hln, h62, hst, s⟩ := s
    refine zg0 rfl (sem_storeN ⟨k60, 0, none⟩ l52 h62 rfl rfl (TF.sz_29.trans (congrArg some hln.symm)) hst ?_)
    refine au 12 rfl ?_
    obtain ⟨l63, nl63, hl, s⟩ := s
    refine zg rfl (sem_loadN ⟨k60, 0, none⟩ l63 rfl TF.agg_29 (TF.sz_29.trans (congrArg some nl63.symm)) hl ?_)
    obtain ⟨hln, h64, hst, s⟩ := s
    refine zg0 rfl (sem_storeN ⟨k14, 0, none⟩ l63 h64 rfl rfl (TF.sz_29.trans (congrArg some hln.symm)) hst ?_)
    refine au 3 rfl ?_
    refine zg rfl (sem_convI .u64 .i64 (i47) rfl TF.int_88 TF.int_3 ?_)
    refine au 2 rfl ?_
    exact Run.of_fin (s.imp fun h' s => j16 _ _ ⟨(IntKind.wrap .i64 (i47)), ⟨rfl, rfl, rfl, rfl, trivial⟩, s⟩)
  refine au 3 rfl ?_
  refine zt s rfl rfl rfl binI_eql_t binI_eql_f (fun s => ?_) fun s => ?_
  ·refine au 8 rfl ?_
   obtain ⟨l65, nl65, hl, s⟩ := s
   refine zg rfl (sem_loadN ⟨k14, 0, none⟩ l65 rfl TF.agg_29 (TF.sz_29.trans (congrArg some nl65.symm)) hl ?_)
   obtain ⟨hln, h66, hst, s⟩ := s
   refine zg0 rfl (sem_storeN ⟨k6, 0, none⟩ l65 h66 rfl rfl (TF.sz_29.trans (congrArg some hln.symm)) hst ?_)
   refine au 3 rfl ?_
   obtain ⟨l67, hln0, hl0, s⟩ := s
   exact zr (⟨⟨k6, 0, none⟩, (.agg (List.toArray l67)), rfl, loadHN TF.agg_29 (TF.sz_29.trans (congrArg some hln0.symm)) hl0, s.imp fun _ q => ⟨_, _, _, rfl, q⟩⟩)
  ·refine au 2 rfl ?_
   refine zt s rfl rfl rfl binI_gtr_t binI_gtr_f (fun s => ?_) fun s => ?_
   ·refine au 5 rfl ?_
    obtain ⟨l68, nl68, hl, s⟩ := s
    refine zg rfl (sem_loadN ⟨k14, 0, none⟩ l68 rfl TF.agg_29 (TF.sz_29.trans (congrArg some nl68.symm)) hl ?_)
    obtain ⟨hln, h69, hst, s⟩ := s
    refine zg0 rfl (sem_storeN ⟨k6, 0, none⟩ l68 h69 rfl rfl (TF.sz_29.trans (congrArg some hln.symm)) hst ?_)
    refine au 3 rfl ?_
    obtain ⟨l70, hln0, hl0, s⟩ := s
    exact zr (⟨⟨k6, 0, none⟩, (.agg (List.toArray l70)), rfl, loadHN TF.agg_29 (TF.sz_29.trans (congrArg some hln0.symm)) hl0, s.imp fun _ q => ⟨_, _, _, rfl, q⟩⟩)
   ·refine au 4 rfl ?_
    exact Run.of_fin (s.imp fun h' s => j49 _ _ ⟨⟨rfl, rfl, rfl, rfl, rfl, rfl, trivial⟩, s⟩)
theorem C_world_Open.of {B : RO} {p1 : Option Addr} {h : Heap} {Q : Option Addr → Int → Heap → Prop} (s : S_world_Open B p1 h Q) : C_world_Open B p1 h Q := by
 refine zspec Try.func9 [ResultVar.tmp 2, ResultVar.tmp 3] rfl rfl rfl rfl rfl ?_
 refine au 8 rfl ?_
 refine zcall s rfl rfl TF.goes_34 ?_
 rintro _ h4 ⟨p5, s6, a7, n8, c9, i10, rfl, s⟩
 refine au 4 rfl ?_
 refine zal s rfl TF.zero_99 rfl fun k11 h12 s => ?_
 refine au 1 rfl ?_
 refine zsn s rfl rfl rfl TF.sz_99 rfl fun h13 s => ?_
 refine au 6 rfl ?_
 refine zu s rfl rfl rfl binI_neq_t binI_neq_f (fun s => ?_) fun s => ?_
 ·refine au 6 rfl ?_
  refine zl s rfl rfl TF.agg_9 fun s14 s => ?_
  refine zcall s rfl rfl TF.goes_35 ?_
  rintro _ h15 ⟨i16, p17, b18, rfl, s⟩
  refine au 3 rfl ?_
  cases b18
  ·replace s := s.2 rfl
   refine au 1 rfl ?_
   refine au 16 rfl ?_
   exact zr (s.imp fun _ q => ⟨_, _, rfl, q⟩)
  ·replace s := s.1 rfl
   refine au 1 rfl ?_
   refine au 16 rfl ?_
   refine Run.ldSl s fun a19 n20 c21 h22 hl s => ?_
   refine zg rfl (sem_load1 ⟨k11, 1, none⟩ ((.slice a19 n20 c21)) rfl TF.agg_35 hl ?_)
   refine zcall s rfl rfl TF.goes_36 ?_
   rintro _ h23 ⟨i24, i25, rfl, s⟩
   refine au 11 rfl ?_
   refine Run.ldSl s fun a26 n27 c28 h29 hl s => ?_
   refine zg rfl (sem_load1 ⟨k11, 1, none⟩ ((.slice a26 n27 c28)) rfl TF.agg_35 hl ?_)
   refine zg rfl (sem_lenSl a26 n27 c28 rfl TF.sl_35 ?_)
   refine zt s rfl rfl rfl binI_lss_t binI_lss_f (fun s => ?_) fun s => ?_
   ·refine au 7 rfl ?_
    exact zr (s.imp fun _ q => ⟨_, _, rfl, q⟩)
   ·refine au 7 rfl ?_
    refine zg rfl (sem_max .i64 (i16) (i24) rfl rfl ?_)
    refine au 8 rfl ?_
    refine zcall s rfl rfl TF.goes_38 ?_
    rintro _ h30 ⟨s31, rfl, s⟩
    refine zcall s rfl rfl TF.goes_37 ?_
    rintro _ h32 ⟨i33, rfl, s⟩
    refine au 5 rfl ?_
    refine zu s rfl rfl rfl binI_neq_t binI_neq_f (fun s => ?_) fun s => ?_
    ·refine au 5 rfl ?_
     refine zcall s rfl rfl TF.goes_39 ?_
     rintro _ h34 ⟨p35, rfl, s⟩
     refine zcall s rfl rfl TF.goes_40 ?_
     rintro _ h36 ⟨p37, rfl, s⟩
     refine zcall s rfl rfl TF.goes_41 ?_
     rintro _ h38 ⟨p39, rfl, s⟩
     refine au 3 rfl ?_
     refine zg rfl (sem_buildSL [(0, (.pointer p35)), (1, (.pointer p37)), (2, (.pointer p39)), (3, (.pointer p1)), (4, (.pointer p5)), (7, (.int .i64 (if (i24 : Int) > (i16) then (i24 : Int) else (i16))))] [(.pointer p35), (.pointer p37), (.pointer p39), (.pointer p1), (.pointer p5), (.int .i64 (0)), (.int .i64 (0)), (.int .i64 (0)), (.int .i64 (0)), (.slice none 0 0), (.int .i64 (if (i24 : Int) > (i16) then (i24 : Int) else (i16))), (.int .i64 (0))] TF.zero_109 TF.places_109 rfl rfl ?_)
     refine zbn s rfl rfl rfl fun k40 h41 s => ?_
     refine au 7 rfl ?_
     refine zl s rfl rfl TF.agg_45 fun p42 s => ?_
     refine au 1 rfl ?_
     refine znil s rfl rfl fun A43 s => ?_
     refine au 1 rfl ?_
     refine zs1 s rfl rfl rfl rfl TF.sz_41 fun h45 s => ?_
     refine au 7 rfl ?_
     exact zr (s.imp fun _ q => ⟨_, _, rfl, q⟩)
    ·refine au 8 rfl ?_
     exact zr (s.imp fun _ q => ⟨_, _, rfl, q⟩)
 ·refine au 8 rfl ?_
  exact zr (s.imp fun _ q => ⟨_, _, rfl, q⟩)
theorem C_countermandref05_Found.of {B : RO} {s1 : ByteArray} {s2 : ByteArray} {h : Heap} {Q : Int → ByteArray → Option Addr → Nat → Nat → Heap → Prop} (s : S_countermandref05_Found B s1 s2 h Q) : C_countermandref05_Found B s1 s2 h Q := by
 refine zspec Try.func10 [ResultVar.tmp 4, ResultVar.tmp 5, ResultVar.tmp 6] rfl rfl rfl rfl rfl ?_
 refine au 9 rfl ?_
 refine zcall s rfl rfl TF.goes_42 ?_
 rintro _ h8 ⟨i9, s10, a11, n12, c13, rfl, s⟩
 refine au 11 rfl ?_
 refine zcall s rfl rfl TF.goes_42 ?_
 rintro _ h14 ⟨i15, s16, a17, n18, c19, rfl, s⟩
 refine au 13 rfl ?_
 refine zt s rfl rfl rfl binI_gtr_t binI_gtr_f (fun s => ?_) fun s => ?_
 ·refine au 11 rfl ?_
  exact zr (s.imp fun _ q => ⟨_, _, _, _, _, rfl, q⟩)
 ·refine au 12 rfl ?_
  exact zr (s.imp fun _ q => ⟨_, _, _, _, _, rfl, q⟩)
theorem C_countermandlaw21_are.of {B : RO} {p1 : Option Addr} {l2 : List Value} {h : Heap} {Q : Bool → Heap → Prop} (s : S_countermandlaw21_are B p1 l2 h Q) : C_countermandlaw21_are B p1 l2 h Q := by
 refine zspec Try.func11 [ResultVar.tmp 4] rfl rfl rfl rfl rfl ?_
 refine au 2 rfl ?_
 refine zg rfl (sem_boxNN l2 rfl (fun k4 hb1 hb2 h5 hb3 => ?_))
 have s := s k4 hb1 hb2 h5 hb3
 refine au 5 rfl ?_
 obtain ⟨l6, nl6, hl, s⟩ := s
 refine zg rfl (sem_loadN ⟨k4, 0, none⟩ l6 rfl TF.agg_29 (TF.sz_29.trans (congrArg some nl6.symm)) hl ?_)
 refine au 3 rfl ?_
 obtain ⟨J12, m10, h0, s⟩ := s
 refine Run.of_fin (h0.imp fun h' h0 => ?_)
 refine Run.loop (σ := Int × Nat) (fun x e h => J12 x.1 x.2 h ∧ Agree [(0, (.pointer p1)), (9, (.agg (List.toArray l6))), (10, (.int .i64 (x.1)))] e) (fun x => x.2) ((0), m10) ⟨h0, ⟨rfl, rfl, rfl, trivial⟩⟩ ?_; clear h0
 rintro ⟨i7, m9⟩ e h8 ⟨hJ, hag⟩ ih11
 have s := s i7 m9 h8 hJ; clear hJ
 refine Run.env hag ?_; clear hag
 refine au 2 rfl ?_
 refine zt s rfl rfl rfl binI_lss_t binI_lss_f (fun s => ?_) fun s => ?_
 ·refine au 9 rfl ?_
  obtain ⟨hi0, hi1, b13, s14, hix, s⟩ := s
  refine zg rfl (sem_indexArr (List.toArray l6) (.agg #[(.bool b13), (.string s14)]) .i64 (i7) rfl rfl TF.arr_29 hi0 hi1 (congrArg (fun a => some (Value.agg a)) hix) ?_)
  refine zal s rfl TF.zero_28 rfl fun k15 h16 s => ?_
  refine au 1 rfl ?_
  refine zsn s rfl rfl rfl TF.sz_28 rfl fun h17 s => ?_
  refine au 4 rfl ?_
  refine zcall s rfl rfl TF.goes_13 ?_
  rintro _ h18 ⟨p19, rfl, s⟩
  refine znil s rfl rfl fun A20 s => ?_
  refine au 1 rfl ?_
  refine zl s rfl rfl TF.agg_41 fun p22 s => ?_
  refine au 1 rfl ?_
  refine zcall s rfl rfl TF.goes_43 ?_
  rintro _ h23 ⟨b24, s25, i26, rfl, s⟩
  refine au 3 rfl ?_
  refine zal s rfl TF.zero_111 rfl fun k27 h28 s => ?_
  refine zsn s rfl rfl rfl TF.sz_111 rfl fun h29 s => ?_
  refine au 4 rfl ?_
  obtain ⟨b30, s31, hl, s⟩ := s
  refine zn hl rfl rfl TF.agg_111 TF.sz_111 rfl ?_
  obtain ⟨b32, s33, hl, s⟩ := s
  refine zn hl rfl rfl TF.agg_28 TF.sz_28 rfl ?_
  by_cases hb34 : eqL [(.bool b30), (.string s31)] [(.bool b32), (.string s33)] = true
  ·replace s := s.1 hb34
   refine zg rfl (sem_aggEq [(.bool b30), (.string s31)] [(.bool b32), (.string s33)] _ (false) (.inr rfl) rfl rfl TF.agg_28 TF.flat_28 TF.eqg_28 ⟨⟨_, rfl⟩, ⟨_, rfl⟩, trivial⟩ ⟨⟨_, rfl⟩, ⟨_, rfl⟩, trivial⟩ (eqLT_neq hb34) ?_)
   refine au 8 rfl ?_
   exact Run.of_fin (s.imp fun h' ⟨m', hm, s⟩ => ih11 ((IntKind.wrap .i64 ((i7) + (1))), m') _ _ ⟨s, ⟨rfl, rfl, rfl, trivial⟩⟩ hm)
  ·replace s := s.2 hb34
   refine zg rfl (sem_aggEq [(.bool b30), (.string s31)] [(.bool b32), (.string s33)] _ (true) (.inr rfl) rfl rfl TF.agg_28 TF.flat_28 TF.eqg_28 ⟨⟨_, rfl⟩, ⟨_, rfl⟩, trivial⟩ ⟨⟨_, rfl⟩, ⟨_, rfl⟩, trivial⟩ (eqLF_neq hb34) ?_)
   refine au 6 rfl ?_
   exact zr (s.imp fun _ q => ⟨_, rfl, q⟩)
 ·refine au 8 rfl ?_
  exact zr (s.imp fun _ q => ⟨_, rfl, q⟩)
theorem C_world_World_Blocks.of {B : RO} {p1 : Option Addr} {h : Heap} {Q : Int → Heap → Prop} (s : S_world_World_Blocks B p1 h Q) : C_world_World_Blocks B p1 h Q := by
 refine zspec Try.func12 [ResultVar.tmp 2] rfl rfl rfl rfl rfl ?_
 refine au 8 rfl ?_
 by_cases hb3 : p1 = none
 ·replace s := s.1 hb3
  refine zg rfl (sem_ptrNilT p1 (.inl rfl) true rfl rfl TF.ptr_32 hb3 rfl ?_)
  refine au 6 rfl ?_
  exact zr (s.imp fun _ q => ⟨_, rfl, q⟩)
 ·replace s := s.2 hb3
  refine zg rfl (sem_ptrNilF p1 (.inl rfl) false rfl rfl TF.ptr_32 hb3 rfl ?_)
  refine au 6 rfl ?_
  refine znil s rfl rfl fun A4 s => ?_
  refine au 1 rfl ?_
  refine zl s rfl rfl TF.agg_3 fun i6 s => ?_
  refine au 2 rfl ?_
  exact zr (s.imp fun _ q => ⟨_, rfl, q⟩)
theorem C_world_World_View.of {B : RO} {p1 : Option Addr} {h : Heap} {Q : Option Addr → Heap → Prop} (s : S_world_World_View B p1 h Q) : C_world_World_View B p1 h Q := by
 refine zspec Try.func13 [ResultVar.tmp 2] rfl rfl rfl rfl rfl ?_
 refine au 8 rfl ?_
 by_cases hb3 : p1 = none
 ·replace s := s.1 hb3
  refine zg rfl (sem_ptrNilT p1 (.inl rfl) true rfl rfl TF.ptr_32 hb3 rfl ?_)
  refine au 6 rfl ?_
  exact zr (s.imp fun _ q => ⟨_, rfl, q⟩)
 ·replace s := s.2 hb3
  refine zg rfl (sem_ptrNilF p1 (.inl rfl) false rfl rfl TF.ptr_32 hb3 rfl ?_)
  refine au 6 rfl ?_
  refine znil s rfl rfl fun A4 s => ?_
  refine au 1 rfl ?_
  refine zl s rfl rfl TF.agg_45 fun p6 s => ?_
  refine au 2 rfl ?_
  exact zr (s.imp fun _ q => ⟨_, rfl, q⟩)
theorem C_world_World_Tallies.of {B : RO} {p1 : Option Addr} {h : Heap} {Q : Int → Int → Int → Int → Heap → Prop} (s : S_world_World_Tallies B p1 h Q) : C_world_World_Tallies B p1 h Q := by
 refine zspec Try.func14 [ResultVar.cell 2 47] rfl rfl rfl rfl rfl ?_
 refine au 2 rfl ?_
 refine zal s rfl TF.zero_47 rfl fun k6 h7 s => ?_
 refine au 5 rfl ?_
 by_cases hb8 : p1 = none
 ·replace s := s.1 hb8
  refine zg rfl (sem_ptrNilT p1 (.inl rfl) true rfl rfl TF.ptr_32 hb8 rfl ?_)
  refine au 4 rfl ?_
  refine zg rfl (sem_buildAL [] [(.int .i64 (0)), (.int .i64 (0)), (.int .i64 (0)), (.int .i64 (0))] TF.zero_47 TF.arr_47 rfl rfl ?_)
  refine zsn s rfl rfl rfl TF.sz_47 rfl fun h9 s => ?_
  refine au 1 rfl ?_
  obtain ⟨i10, i11, i12, i13, hl0, s⟩ := s
  exact zr (⟨⟨k6, 0, none⟩, (.agg #[(.int .i64 (i10)), (.int .i64 (i11)), (.int .i64 (i12)), (.int .i64 (i13))]), rfl, loadHN TF.agg_47 TF.sz_47 hl0, s.imp fun _ q => ⟨_, _, _, _, rfl, q⟩⟩)
 ·replace s := s.2 hb8
  refine zg rfl (sem_ptrNilF p1 (.inl rfl) false rfl rfl TF.ptr_32 hb8 rfl ?_)
  refine au 6 rfl ?_
  refine znil s rfl rfl fun A14 s => ?_
  refine au 1 rfl ?_
  obtain ⟨i16, i17, i18, i19, hl, s⟩ := s
  refine zn hl rfl rfl TF.agg_47 TF.sz_47 rfl ?_
  refine zsn s rfl rfl rfl TF.sz_47 rfl fun h20 s => ?_
  refine au 1 rfl ?_
  obtain ⟨i21, i22, i23, i24, hl0, s⟩ := s
  exact zr (⟨⟨k6, 0, none⟩, (.agg #[(.int .i64 (i21)), (.int .i64 (i22)), (.int .i64 (i23)), (.int .i64 (i24))]), rfl, loadHN TF.agg_47 TF.sz_47 hl0, s.imp fun _ q => ⟨_, _, _, _, rfl, q⟩⟩)
theorem C_world_World_Notes.of {B : RO} {p1 : Option Addr} {h : Heap} {Q : Option Addr → Nat → Nat → Heap → Prop} (s : S_world_World_Notes B p1 h Q) : C_world_World_Notes B p1 h Q := by
 refine zspec Try.func15 [ResultVar.tmp 2] rfl rfl rfl rfl rfl ?_
 refine au 8 rfl ?_
 by_cases hb5 : p1 = none
 ·replace s := s.1 hb5
  refine zg rfl (sem_ptrNilT p1 (.inl rfl) true rfl rfl TF.ptr_32 hb5 rfl ?_)
  refine au 6 rfl ?_
  exact zr (s.imp fun _ q => ⟨_, _, _, rfl, q⟩)
 ·replace s := s.2 hb5
  refine zg rfl (sem_ptrNilF p1 (.inl rfl) false rfl rfl TF.ptr_32 hb5 rfl ?_)
  refine au 6 rfl ?_
  refine znil s rfl rfl fun A6 s => ?_
  refine au 1 rfl ?_
  refine Run.ldSl s fun a8 n9 c10 h11 hl s => ?_
  refine zg rfl (sem_load1 (Addr.add A6 9) ((.slice a8 n9 c10)) rfl TF.agg_49 hl ?_)
  refine zcall s rfl rfl TF.goes_44 ?_
  rintro _ h12 ⟨a13, n14, c15, rfl, s⟩
  refine au 2 rfl ?_
  exact zr (s.imp fun _ q => ⟨_, _, _, rfl, q⟩)
theorem C_world_World_Disk.of {B : RO} {p1 : Option Addr} {h : Heap} {Q : Option Addr → Heap → Prop} (s : S_world_World_Disk B p1 h Q) : C_world_World_Disk B p1 h Q := by
 refine zspec Try.func16 [ResultVar.tmp 2] rfl rfl rfl rfl rfl ?_
 refine au 8 rfl ?_
 by_cases hb3 : p1 = none
 ·replace s := s.1 hb3
  refine zg rfl (sem_ptrNilT p1 (.inl rfl) true rfl rfl TF.ptr_32 hb3 rfl ?_)
  refine au 6 rfl ?_
  exact zr (s.imp fun _ q => ⟨_, rfl, q⟩)
 ·replace s := s.2 hb3
  refine zg rfl (sem_ptrNilF p1 (.inl rfl) false rfl rfl TF.ptr_32 hb3 rfl ?_)
  refine au 6 rfl ?_
  refine znil s rfl rfl fun A4 s => ?_
  refine au 1 rfl ?_
  refine zl s rfl rfl TF.agg_23 fun p6 s => ?_
  refine au 2 rfl ?_
  exact zr (s.imp fun _ q => ⟨_, rfl, q⟩)
theorem C_disk_Disk_Crash.of {B : RO} {p1 : Option Addr} {i2 : Int} {i3 : Int} {h : Heap} {Q : Heap → Prop} (s : S_disk_Disk_Crash B p1 i2 i3 h Q) : C_disk_Disk_Crash B p1 i2 i3 h Q := by
 refine zspec Try.func17 [] rfl rfl rfl rfl rfl ?_
 refine au 4 rfl ?_
 by_cases hb4 : p1 = none
 ·replace s := s.1 hb4
  refine zg rfl (sem_ptrNilT p1 (.inl rfl) true rfl rfl TF.ptr_23 hb4 rfl ?_)
  refine au 2 rfl ?_
  exact zr (s.imp fun _ q => ⟨rfl, q⟩)
 ·replace s := s.2 hb4
  refine zg rfl (sem_ptrNilF p1 (.inl rfl) false rfl rfl TF.ptr_23 hb4 rfl ?_)
  refine au 3 rfl ?_
  refine Run.seqJ (fun e h6 => Agree [(0, (.pointer p1))] e ∧ S_disk_Disk_Crash_J1 B p1 h6 Q) ?_ fun j5 => ?_
  ·rintro e h6 ⟨hag, s⟩
   refine Run.env hag ?_; clear hag
   refine au 3 rfl ?_
   refine znil s rfl rfl fun A7 s => ?_
   refine au 1 rfl ?_
   refine zs1 s rfl rfl rfl rfl TF.sz_83 fun h9 s => ?_
   refine au 6 rfl ?_
   obtain ⟨J15, m13, h0, s⟩ := s
   refine Run.of_fin (h0.imp fun h' h0 => ?_)
   refine Run.loop (σ := Int × Nat) (fun x e h => J15 x.1 x.2 h ∧ Agree [(0, (.pointer p1)), (47, (.int .i64 (x.1)))] e) (fun x => x.2) ((0), m13) ⟨h0, ⟨rfl, rfl, trivial⟩⟩ ?_; clear h0
   rintro ⟨i10, m12⟩ e h11 ⟨hJ, hag⟩ ih14
   have s := s i10 m12 h11 hJ; clear hJ
   refine Run.env hag ?_; clear hag
   refine au 2 rfl ?_
   refine zt s rfl rfl rfl binI_lss_t binI_lss_f (fun s => ?_) fun s => ?_
   ·refine au 11 rfl ?_
    refine Run.drawM (fun h' => h' = h11) [13] ⟨[0, 0, 0, 0, 4, 16, 40, 64, 128, 1, 512, 1535, 2559, 4607], [16383, 16383, 16383, 16383, 16379, 16367, 16343, 16319, 16255, 16382, 15871, 15357, 14335, 12031], [0, 0, 0, 0, 4, 20, 60, 124, 252, 1, 513, 2047, 4095, 8191], 8192⟩ (.q 0 (.q 1 (.q 2 (.q 3 (.q 4 (.q 5 (.q 6 (.q 7 (.q 8 (.q 9 (.q 10 (.q 11 (.q 12 (.x 13 .nil .no)))))))))))))) TF.mixed (by kernel_rfl) rfl ?_
    refine auT 4 rfl ?_
    obtain ⟨A16, e17, s⟩ := s
    refine zqe rfl (sem_nilCheck A16 (congrArg Value.pointer e17) ⟨rfl, rfl⟩) ?_
    refine auT 1 rfl ?_
    obtain ⟨hi0, hi1, s⟩ := s
    refine zqe rfl (sem_indexAddrA A16 .i64 (i10) rfl rfl TF.arr_82 hi0 hi1 ⟨rfl, rfl⟩) ?_
    refine auT 1 rfl ?_
    obtain ⟨s18, hl, s⟩ := s
    refine zqe rfl (sem_load1 (Addr.add (Addr.add A16 (Int.toNat (i10) * 2)) 1) ((.string s18)) rfl TF.agg_9 hl ⟨rfl, rfl⟩) ?_
    obtain ⟨A19, e20, s⟩ := s
    refine zqe rfl (sem_nilCheck A19 (congrArg Value.pointer e20) ⟨rfl, rfl⟩) ?_
    refine auT 1 rfl ?_
    obtain ⟨hi0, hi1, s⟩ := s
    refine zqe rfl (sem_indexAddrA A19 .i64 (i10) rfl rfl TF.arr_82 hi0 hi1 ⟨rfl, rfl⟩) ?_
    refine auT 1 rfl ?_
    obtain ⟨h21, hst, s⟩ := s
    refine ⟨zo0 rfl (sem_store1 (Addr.add A19 (Int.toNat (i10) * 2)) ((.string s18)) h21 rfl rfl rfl TF.sz_9 hst ?_), trivial⟩
    refine ⟨fun hz => Bool.noConfusion hz, ?_⟩
    refine au 5 rfl ?_
    exact Run.of_fin (s.imp fun h' ⟨m', hm, s⟩ => ih14 ((IntKind.wrap .i64 ((i10) + (1))), m') _ _ ⟨s, ⟨rfl, rfl, trivial⟩⟩ hm)
   ·refine au 4 rfl ?_
    exact zf (s.imp fun _ q => ⟨rfl, q⟩)
  refine au 3 rfl ?_
  refine znil s rfl rfl fun A22 s => ?_
  refine au 1 rfl ?_
  refine Run.ldSl s fun a24 n25 c26 h27 hl s => ?_
  refine zg rfl (sem_load1 (Addr.add A22 4) ((.slice a24 n25 c26)) rfl TF.agg_83 hl ?_)
  refine zg rfl (sem_lenSl a24 n25 c26 rfl TF.sl_83 ?_)
  refine au 3 rfl ?_
  obtain ⟨J33, m31, h0, s⟩ := s
  refine Run.of_fin (h0.imp fun h' h0 => ?_)
  refine Run.loop (σ := Int × Nat) (fun x e h => J33 x.1 x.2 h ∧ Agree [(0, (.pointer p1)), (1, (.int .i64 (i2))), (2, (.int .i64 (i3))), (14, (.slice a24 n25 c26)), (15, (.int .i64 ((n25 : Nat)))), (16, (.int .i64 (x.1)))] e) (fun x => x.2) ((0), m31) ⟨h0, ⟨rfl, rfl, rfl, rfl, rfl, rfl, trivial⟩⟩ ?_; clear h0
  rintro ⟨i28, m30⟩ e h29 ⟨hJ, hag⟩ ih32
  have s := s i28 m30 h29 hJ; clear hJ
  refine Run.env hag ?_; clear hag
  refine au 2 rfl ?_
  refine zt s rfl rfl rfl binI_lss_t binI_lss_f (fun s => ?_) fun s => ?_
  ·refine au 9 rfl ?_
   obtain ⟨A34, e35, hi0, hi1, s⟩ := s
   refine zg rfl (sem_indexAddrS A34 n25 c26 .i64 (i28) (congrArg (fun a => Value.slice a n25 c26) e35) rfl TF.slc_83 hi0 hi1 ?_)
   obtain ⟨i36, b37, s38, hl, s⟩ := s
   refine zn hl rfl rfl TF.agg_87 TF.sz_87 rfl ?_
   refine zal s rfl TF.zero_87 rfl fun k39 h40 s => ?_
   refine au 1 rfl ?_
   refine zsn s rfl rfl rfl TF.sz_87 rfl fun h41 s => ?_
   refine au 6 rfl ?_
   refine zt s rfl rfl rfl binI_geq_t binI_geq_f (fun s => ?_) fun s => ?_
   ·refine au 6 rfl ?_
    refine zl s rfl rfl TF.agg_4 fun b42 s => ?_
    cases b42
    ·replace s := s.2 rfl
     refine au 6 rfl ?_
     refine zl s rfl rfl TF.agg_9 fun s43 s => ?_
     refine au 1 rfl ?_
     refine zg rfl (sem_max .i64 (i3) (0) rfl rfl ?_)
     refine au 1 rfl ?_
     refine zl s rfl rfl TF.agg_9 fun s44 s => ?_
     refine zg rfl (sem_lenStr s44 rfl TF.isStr_9 ?_)
     refine zg rfl (sem_min .i64 (if (0 : Int) > (i3) then (0 : Int) else (i3)) ((ByteArray.size s44 : Nat)) rfl rfl ?_)
     obtain ⟨hi0, hi1, hi2, s⟩ := s
     refine zg rfl (sem_sliceStrI s43 (0) (if ((ByteArray.size s44 : Nat) : Int) < (if (0 : Int) > (i3) then (0 : Int) else (i3)) then ((ByteArray.size s44 : Nat) : Int) else (if (0 : Int) > (i3) then (0 : Int) else (i3))) rfl TF.isStr_9 rfl ⟨_, rfl⟩ hi0 hi1 hi2 ?_)
     refine au 1 rfl ?_
     refine zs1 s rfl rfl rfl rfl TF.sz_9 fun h45 s => ?_
     refine au 3 rfl ?_
     obtain ⟨i46, b47, s48, hl, s⟩ := s
     refine zn hl rfl rfl TF.agg_87 TF.sz_87 rfl ?_
     refine zcall s rfl rfl TF.goes_45 ?_
     rintro _ h49 ⟨rfl, s⟩
     refine au 2 rfl ?_
     exact Run.of_fin (s.imp fun h' s => j5 _ _ ⟨⟨rfl, trivial⟩, s⟩)
    ·replace s := s.1 rfl
     refine au 5 rfl ?_
     exact Run.of_fin (s.imp fun h' s => j5 _ _ ⟨⟨rfl, trivial⟩, s⟩)
   ·refine au 5 rfl ?_
    obtain ⟨i50, b51, s52, hl, s⟩ := s
    refine zn hl rfl rfl TF.agg_87 TF.sz_87 rfl ?_
    refine zcall s rfl rfl TF.goes_45 ?_
    rintro _ h53 ⟨rfl, s⟩
    refine au 6 rfl ?_
    exact Run.of_fin (s.imp fun h' ⟨m', hm, s⟩ => ih32 ((IntKind.wrap .i64 ((i28) + (1))), m') _ _ ⟨s, ⟨rfl, rfl, rfl, rfl, rfl, rfl, trivial⟩⟩ hm)
  ·refine au 4 rfl ?_
   exact Run.of_fin (s.imp fun h' s => j5 _ _ ⟨⟨rfl, trivial⟩, s⟩)
theorem C_world_World_Add.of {B : RO} {p1 : Option Addr} {a2 : Option Addr} {n3 : Nat} {c4 : Nat} {h : Heap} {Q : Heap → Prop} (s : S_world_World_Add B p1 a2 n3 c4 h Q) : C_world_World_Add B p1 a2 n3 c4 h Q := by
 refine zspec Try.func18 [] rfl rfl rfl rfl rfl ?_
 refine au 4 rfl ?_
 by_cases hb5 : p1 = none
 ·replace s := s.1 hb5
  refine zg rfl (sem_ptrNilT p1 (.inl rfl) true rfl rfl TF.ptr_32 hb5 rfl ?_)
  refine au 2 rfl ?_
  exact zr (s.imp fun _ q => ⟨rfl, q⟩)
 ·replace s := s.2 hb5
  refine zg rfl (sem_ptrNilF p1 (.inl rfl) false rfl rfl TF.ptr_32 hb5 rfl ?_)
  refine au 6 rfl ?_
  refine zg rfl (sem_lenSl a2 n3 c4 rfl TF.sl_116 ?_)
  refine au 3 rfl ?_
  obtain ⟨J11, m9, h0, s⟩ := s
  refine Run.of_fin (h0.imp fun h' h0 => ?_)
  refine Run.loop (σ := Int × Nat) (fun x e h => J11 x.1 x.2 h ∧ Agree [(0, (.pointer p1)), (8, (.slice a2 n3 c4)), (9, (.int .i64 ((n3 : Nat)))), (10, (.int .i64 (x.1)))] e) (fun x => x.2) ((0), m9) ⟨h0, ⟨rfl, rfl, rfl, rfl, trivial⟩⟩ ?_; clear h0
  rintro ⟨i6, m8⟩ e h7 ⟨hJ, hag⟩ ih10
  have s := s i6 m8 h7 hJ; clear hJ
  refine Run.env hag ?_; clear hag
  refine au 2 rfl ?_
  refine zt s rfl rfl rfl binI_lss_t binI_lss_f (fun s => ?_) fun s => ?_
  ·refine au 8 rfl ?_
   obtain ⟨A12, e13, hi0, hi1, s⟩ := s
   refine zg rfl (sem_indexAddrS A12 n3 c4 .i64 (i6) (congrArg (fun a => Value.slice a n3 c4) e13) rfl TF.slc_116 hi0 hi1 ?_)
   obtain ⟨i14, i15, hl, s⟩ := s
   refine zn hl rfl rfl TF.agg_59 TF.sz_59 rfl ?_
   refine zal s rfl TF.zero_59 rfl fun k16 h17 s => ?_
   refine zsn s rfl rfl rfl TF.sz_59 rfl fun h18 s => ?_
   refine au 1 rfl ?_
   refine Run.seqJ (fun e h21 => ∃ b20 : Bool, Agree [(0, (.pointer p1)), (5, (.pointer (some ⟨k16, 0, none⟩))), (8, (.slice a2 n3 c4)), (9, (.int .i64 ((n3 : Nat)))), (10, (.int .i64 (i6))), (21, (.bool b20))] e ∧ S_world_World_Add_J1 B p1 a2 n3 c4 i6 m8 J11 k16 b20 h21 Q) ?_ fun j19 => ?_
   ·rintro e h21 ⟨b20, hag, s⟩
    refine Run.env hag ?_; clear hag
    cases b20
    ·replace s := s.2 rfl
     refine au 7 rfl ?_
     exact Run.of_fin (s.imp fun h' ⟨m', hm, s⟩ => ih10 ((IntKind.wrap .i64 ((i6) + (1))), m') _ _ ⟨s, ⟨rfl, rfl, rfl, rfl, trivial⟩⟩ hm)
    ·replace s := s.1 rfl
     refine au 1 rfl ?_
     refine Run.drawM (fun h' => h' = h21) [13] ⟨[0, 0, 2, 1, 8, 20, 32, 0, 128, 320, 1, 1024, 3071, 5119], [16383, 16383, 16381, 16382, 16375, 16363, 16351, 16383, 16255, 16063, 16382, 15359, 14331, 11775], [0, 0, 2, 1, 9, 31, 63, 0, 128, 511, 1, 1025, 4095, 8191], 8192⟩ (.q 0 (.q 1 (.q 2 (.q 3 (.q 4 (.q 5 (.q 6 (.q 7 (.q 8 (.q 9 (.q 10 (.q 11 (.q 12 (.x 13 .nil .no)))))))))))))) TF.mixed (by kernel_rfl) rfl ?_
     refine auT 2 rfl ?_
     obtain ⟨i22, hl, s⟩ := s
     refine zqe rfl (sem_load1 ⟨k16, 0, none⟩ ((.int .i64 (i22))) rfl TF.agg_3 hl ⟨rfl, rfl⟩) ?_
     obtain ⟨A23, e24, s⟩ := s
     refine zqe rfl (sem_nilCheck A23 (congrArg Value.pointer e24) ⟨rfl, rfl⟩) ?_
     refine auT 1 rfl ?_
     obtain ⟨hi0, hi1, s⟩ := s
     refine zqe rfl (sem_indexAddrA (Addr.add A23 5) .i64 (i22) rfl rfl TF.arr_47 hi0 hi1 ⟨rfl, rfl⟩) ?_
     obtain ⟨i25, hl, s⟩ := s
     refine zqe rfl (sem_load1 (Addr.add (Addr.add A23 5) (Int.toNat (i22) * 1)) ((.int .i64 (i25))) rfl TF.agg_3 hl ⟨rfl, rfl⟩) ?_
     refine auT 1 rfl ?_
     obtain ⟨i26, hl, s⟩ := s
     refine zqe rfl (sem_load1 ⟨k16, 1, none⟩ ((.int .i64 (i26))) rfl TF.agg_3 hl ⟨rfl, rfl⟩) ?_
     refine auT 1 rfl ?_
     obtain ⟨A27, e28, s⟩ := s
     refine zqe rfl (sem_nilCheck A27 (congrArg Value.pointer e28) ⟨rfl, rfl⟩) ?_
     refine auT 1 rfl ?_
     obtain ⟨hi0, hi1, s⟩ := s
     refine zqe rfl (sem_indexAddrA (Addr.add A27 5) .i64 (i22) rfl rfl TF.arr_47 hi0 hi1 ⟨rfl, rfl⟩) ?_
     obtain ⟨h29, hst, s⟩ := s
     refine ⟨zo0 rfl (sem_store1 (Addr.add (Addr.add A27 5) (Int.toNat (i22) * 1)) ((.int .i64 (IntKind.wrap .i64 ((i25) + (i26))))) h29 rfl rfl rfl TF.sz_3 hst ?_), trivial⟩
     refine ⟨fun hz => Bool.noConfusion hz, ?_⟩
     refine au 5 rfl ?_
     exact Run.of_fin (s.imp fun h' ⟨m', hm, s⟩ => ih10 ((IntKind.wrap .i64 ((i6) + (1))), m') _ _ ⟨s, ⟨rfl, rfl, rfl, rfl, trivial⟩⟩ hm)
   refine au 2 rfl ?_
   refine zl s rfl rfl TF.agg_3 fun i30 s => ?_
   refine zt s rfl rfl rfl binI_geq_t binI_geq_f (fun s => ?_) fun s => ?_
   ·refine au 2 rfl ?_
    refine zl s rfl rfl TF.agg_3 fun i31 s => ?_
    refine zt s rfl rfl rfl binI_lss_t binI_lss_f (fun s => ?_) fun s => ?_
    ·refine au 2 rfl ?_
     exact Run.of_fin (s.imp fun h' s => j19 _ _ ⟨(true), ⟨rfl, rfl, rfl, rfl, rfl, rfl, trivial⟩, s⟩)
    ·refine au 2 rfl ?_
     exact Run.of_fin (s.imp fun h' s => j19 _ _ ⟨(false), ⟨rfl, rfl, rfl, rfl, rfl, rfl, trivial⟩, s⟩)
   ·refine au 6 rfl ?_
    exact Run.of_fin (s.imp fun h' s => j19 _ _ ⟨(false), ⟨rfl, rfl, rfl, rfl, rfl, rfl, trivial⟩, s⟩)
  ·refine au 4 rfl ?_
   exact zf (s.imp fun _ q => ⟨rfl, q⟩)
theorem C_world_World_Done.of {B : RO} {p1 : Option Addr} {h : Heap} {Q : Heap → Prop} (s : S_world_World_Done B p1 h Q) : C_world_World_Done B p1 h Q := by
 refine zspec Try.func23 [] rfl rfl rfl rfl rfl ?_
 refine au 3 rfl ?_
 by_cases hb2 : p1 = none
 ·replace s := s.1 hb2
  refine zg rfl (sem_ptrNilT p1 (.inr rfl) false rfl rfl TF.ptr_32 hb2 rfl ?_)
  refine au 3 rfl ?_
  exact zf (s.imp fun _ q => ⟨rfl, q⟩)
 ·replace s := s.2 hb2
  refine zg rfl (sem_ptrNilF p1 (.inr rfl) true rfl rfl TF.ptr_32 hb2 rfl ?_)
  refine au 4 rfl ?_
  refine znil s rfl rfl fun A3 s => ?_
  refine au 1 rfl ?_
  refine zl s rfl rfl TF.agg_3 fun i5 s => ?_
  refine au 1 rfl ?_
  refine znil s rfl rfl fun A6 s => ?_
  refine au 1 rfl ?_
  refine zs1 s rfl rfl rfl rfl TF.sz_3 fun h8 s => ?_
  refine au 1 rfl ?_
  exact zf (s.imp fun _ q => ⟨rfl, q⟩)
theorem C_disk_good.of {B : RO} {i1 : Int} {h : Heap} {Q : Bool → Heap → Prop} (s : S_disk_good B i1 h Q) : C_disk_good B i1 h Q := by
 refine zspec Try.func29 [ResultVar.tmp 2] rfl rfl rfl rfl rfl ?_
 refine au 7 rfl ?_
 refine zt s rfl rfl rfl binI_eql_t binI_eql_f (fun s => ?_) fun s => ?_
 ·refine au 6 rfl ?_
  exact zr (s.imp fun _ q => ⟨_, rfl, q⟩)
 ·refine au 6 rfl ?_
  exact zr (s.imp fun _ q => ⟨_, rfl, q⟩)
theorem C_countermandref01_Taken.of {B : RO} {s1 : ByteArray} {h : Heap} {Q : Int → Int → Heap → Prop} (s : S_countermandref01_Taken B s1 h Q) : C_countermandref01_Taken B s1 h Q := by
 refine zspec Try.func30 [ResultVar.tmp 2, ResultVar.tmp 3] rfl rfl rfl rfl rfl ?_
 refine au 11 rfl ?_
 obtain ⟨J9, m7, h0, s⟩ := s
 refine Run.of_fin (h0.imp fun h' h0 => ?_)
 refine Run.loop (σ := Int × Nat) (fun x e h => J9 x.1 x.2 h ∧ Agree [(0, (.string s1)), (4, (.int .i64 (x.1)))] e) (fun x => x.2) ((1), m7) ⟨h0, ⟨rfl, rfl, trivial⟩⟩ ?_; clear h0
 rintro ⟨i4, m6⟩ e h5 ⟨hJ, hag⟩ ih8
 have s := s i4 m6 h5 hJ; clear hJ
 refine Run.env hag ?_; clear hag
 refine Run.seqJ (fun e h11 => Agree [(0, (.string s1)), (4, (.int .i64 (i4)))] e ∧ S_countermandref01_Taken_J1 B s1 i4 m6 J9 h11 Q) ?_ fun j10 => ?_
 ·rintro e h11 ⟨hag, s⟩
  refine Run.env hag ?_; clear hag
  refine au 8 rfl ?_
  obtain ⟨hi0, hi1, s⟩ := s
  refine zg rfl (sem_indexStr' s1 .i64 (IntKind.wrap .i64 ((i4) - (1))) rfl rfl TF.isStr_9 hi0 hi1 ?_)
  refine zt s rfl rfl rfl binI_gtr_t binI_gtr_f (fun s => ?_) fun s => ?_
  ·refine au 8 rfl ?_
   exact Run.of_fin (s.imp fun h' ⟨m', hm, s⟩ => ih8 ((IntKind.wrap .i64 ((i4) + (1))), m') _ _ ⟨s, ⟨rfl, rfl, trivial⟩⟩ hm)
  ·refine au 7 rfl ?_
   refine Run.seqJ (fun e h14 => ∃ i13 : Int, Agree [(0, (.string s1)), (4, (.int .i64 (i4))), (5, (.int .u64 (i13)))] e ∧ S_countermandref01_Taken_J2 B s1 i4 i13 h14 Q) ?_ fun j12 => ?_
   ·rintro e h14 ⟨i13, hag, s⟩
    refine Run.env hag ?_; clear hag
    refine au 2 rfl ?_
    obtain ⟨hi0, hi1, hi2, s⟩ := s
    have f19 := hi0; have f20 := hi1; have f21 := hi2
    refine Run.drawM (fun h' => True) [] ⟨[0, 1, 0, 0, 12, 18], [63, 62, 63, 63, 51, 45], [0, 0, 0, 0, 0, 0], 0⟩ (.q 0 (.q 2 (.q 3 (.q 4 (.x 1 (.q 5 .nil) .no))))) TF.mixed (by kernel_rfl) trivial ?_
    refine auT 3 rfl ?_
    refine zq rfl (fun _ hC => sem_sliceStrI s1 (0) (i4) rfl TF.isStr_9 rfl ⟨_, rfl⟩ f19 f20 f21 ⟨rfl, rfl⟩) ?_
    refine ⟨zo rfl (sem_callL [(.int .u64 (i13))] (TF.goes_52) rfl rfl (Spec.mono s fun v h22 hv => ?_)), trivial⟩
    obtain ⟨s23, rfl, s⟩ := hv
    refine ⟨fun _ => trivial, ?_⟩
    by_cases hb24 : s23 = (ByteArray.extract s1 (Int.toNat (0)) (Int.toNat (i4)))
    ·replace s := s.1 hb24
     refine zq rfl (fun _ _ => sem_strNeT s23 (ByteArray.extract s1 (Int.toNat (0)) (Int.toNat (i4))) rfl rfl hb24 ⟨rfl, rfl⟩) ?_
     refine au 9 rfl ?_
     exact zr (s.imp fun _ q => ⟨_, _, rfl, q⟩)
    ·replace s := s.2 hb24
     refine zq rfl (fun _ _ => sem_strNeF s23 (ByteArray.extract s1 (Int.toNat (0)) (Int.toNat (i4))) rfl rfl hb24 ⟨rfl, rfl⟩) ?_
     refine au 6 rfl ?_
     exact zr (s.imp fun _ q => ⟨_, _, rfl, q⟩)
   refine au 7 rfl ?_
   obtain ⟨J31, m29, h0, s⟩ := s
   refine Run.of_fin (h0.imp fun h' h0 => ?_)
   refine Run.loop (σ := Int × Int × Nat) (fun x e h => J31 x.1 x.2.1 x.2.2 h ∧ Agree [(0, (.string s1)), (4, (.int .i64 (i4))), (5, (.int .u64 (x.1))), (6, (.int .i64 (x.2.1)))] e) (fun x => x.2.2) ((0), (IntKind.wrap .i64 ((i4) - (1))), m29) ⟨h0, ⟨rfl, rfl, rfl, rfl, trivial⟩⟩ ?_; clear h0
   rintro ⟨i25, i26, m28⟩ e h27 ⟨hJ, hag⟩ ih30
   have s := s i25 i26 m28 h27 hJ; clear hJ
   refine Run.env hag ?_; clear hag
   refine au 4 rfl ?_
   refine zt s rfl rfl rfl binI_geq_t binI_geq_f (fun s => ?_) fun s => ?_
   ·refine au 10 rfl ?_
    obtain ⟨hi0, hi1, s⟩ := s
    refine zg rfl (sem_indexStr' s1 .i64 (i26) rfl rfl TF.isStr_9 hi0 hi1 ?_)
    refine zg rfl (sem_convI .u8 .u64 (byteAt s1 (Int.toNat (i26))) rfl TF.int_5 TF.int_88 ?_)
    obtain ⟨hi0, s⟩ := s
    refine zg rfl (sem_binI .u64 (IntKind.wrap .u64 (byteAt s1 (Int.toNat (i26)))) (128) ((.int .u64 (Int.tmod (IntKind.wrap .u64 (byteAt s1 (Int.toNat (i26)))) (128)))) rfl rfl (binI_rem hi0) ?_)
    refine au 9 rfl ?_
    exact Run.of_fin (s.imp fun h' ⟨m', hm, s⟩ => ih30 ((IntKind.wrap .u64 ((IntKind.wrap .u64 ((i25) * (128))) + (Int.tmod (IntKind.wrap .u64 (byteAt s1 (Int.toNat (i26)))) (128)))), (IntKind.wrap .i64 ((i26) - (1))), m') _ _ ⟨s, ⟨rfl, rfl, rfl, rfl, trivial⟩⟩ hm)
   ·refine au 3 rfl ?_
    exact Run.of_fin (s.imp fun h' s => j12 _ _ ⟨(i25), ⟨rfl, rfl, rfl, trivial⟩, s⟩)
 refine au 3 rfl ?_
 refine zt s rfl rfl rfl binI_leq_t binI_leq_f (fun s => ?_) fun s => ?_
 ·refine au 3 rfl ?_
  refine zg rfl (sem_lenStr s1 rfl TF.isStr_9 ?_)
  refine zt s rfl rfl rfl binI_leq_t binI_leq_f (fun s => ?_) fun s => ?_
  ·refine au 4 rfl ?_
   exact Run.of_fin (s.imp fun h' s => j10 _ _ ⟨⟨rfl, rfl, trivial⟩, s⟩)
  ·refine au 9 rfl ?_
   exact zr (s.imp fun _ q => ⟨_, _, rfl, q⟩)
 ·refine au 14 rfl ?_
  exact zr (s.imp fun _ q => ⟨_, _, rfl, q⟩)
theorem C_countermandref10_Read.of {B : RO} {s1 : ByteArray} {h : Heap} {Q : List Value → Bool → Heap → Prop} (s : S_countermandref10_Read B s1 h Q) : C_countermandref10_Read B s1 h Q := by
 refine zspec Try.func31 [ResultVar.cell 2 29, ResultVar.tmp 3] rfl rfl rfl rfl rfl ?_
 refine au 2 rfl ?_
 refine zal s rfl TF.zero_29 rfl fun k4 h5 s => ?_
 refine au 4 rfl ?_
 refine zal s rfl TF.zero_29 rfl fun k6 h7 s => ?_
 refine au 3 rfl ?_
 obtain ⟨J13, m11, h0, s⟩ := s
 refine Run.of_fin (h0.imp fun h' h0 => ?_)
 refine Run.loop (σ := ByteArray × Nat) (fun x e h => J13 x.1 x.2 h ∧ Agree [(0, (.string x.1)), (2, (.pointer (some ⟨k4, 0, none⟩))), (4, (.pointer (some ⟨k6, 0, none⟩)))] e) (fun x => x.2) (s1, m11) ⟨h0, ⟨rfl, rfl, rfl, trivial⟩⟩ ?_; clear h0
 rintro ⟨s8, m10⟩ e h9 ⟨hJ, hag⟩ ih12
 have s := s s8 m10 h9 hJ; clear hJ
 refine Run.env hag ?_; clear hag
 refine au 4 rfl ?_
 refine zg rfl (sem_lenStr s8 rfl TF.isStr_9 ?_)
 refine zt s rfl rfl rfl binI_gtr_t binI_gtr_f (fun s => ?_) fun s => ?_
 ·refine au 7 rfl ?_
  refine zcall s rfl rfl TF.goes_30 ?_
  rintro _ h14 ⟨i15, i16, rfl, s⟩
  refine au 6 rfl ?_
  refine Run.seqJ (fun e h18 => Agree [(0, (.string s8)), (2, (.pointer (some ⟨k4, 0, none⟩))), (4, (.pointer (some ⟨k6, 0, none⟩))), (5, (.int .u64 (i15))), (6, (.int .i64 (i16)))] e ∧ S_countermandref10_Read_J1 B k4 k6 s8 m10 J13 i15 i16 h18 Q) ?_ fun j17 => ?_
  ·rintro e h18 ⟨hag, s⟩
   refine Run.env hag ?_; clear hag
   refine au 4 rfl ?_
   obtain ⟨hi0, hi1, hi2, s⟩ := s
   refine zg rfl (sem_sliceStrI s8 (i16) ((ByteArray.size s8 : Nat)) rfl TF.isStr_9 ⟨_, rfl⟩ rfl hi0 hi1 hi2 ?_)
   refine au 5 rfl ?_
   refine zcall s rfl rfl TF.goes_30 ?_
   rintro _ h19 ⟨i20, i21, rfl, s⟩
   refine au 6 rfl ?_
   refine Run.seqJ (fun e h23 => Agree [(0, (.string (ByteArray.extract s8 (Int.toNat (i16)) (Int.toNat ((ByteArray.size s8 : Nat)))))), (2, (.pointer (some ⟨k4, 0, none⟩))), (4, (.pointer (some ⟨k6, 0, none⟩))), (5, (.int .u64 (i15))), (7, (.int .u64 (i20))), (8, (.int .i64 (i21)))] e ∧ S_countermandref10_Read_J2 B k4 k6 s8 m10 J13 i15 i16 i20 i21 h23 Q) ?_ fun j22 => ?_
   ·rintro e h23 ⟨hag, s⟩
    refine Run.env hag ?_; clear hag
    refine Run.seqJ (fun e h25 => Agree [(0, (.string (ByteArray.extract s8 (Int.toNat (i16)) (Int.toNat ((ByteArray.size s8 : Nat)))))), (2, (.pointer (some ⟨k4, 0, none⟩))), (4, (.pointer (some ⟨k6, 0, none⟩))), (5, (.int .u64 (i15))), (7, (.int .u64 (i20))), (8, (.int .i64 (i21)))] e ∧ S_countermandref10_Read_J3 B k4 k6 s8 m10 J13 i15 i16 i20 i21 h25 Q) ?_ fun j24 => ?_
    ·rintro e h25 ⟨hag, s⟩
     refine Run.env hag ?_; clear hag
     refine au 7 rfl ?_
     refine zg rfl (sem_convI .u64 .i64 (i20) rfl TF.int_88 TF.int_3 ?_)
     refine au 1 rfl ?_
     obtain ⟨hi0, hi1, hi2, s⟩ := s
     refine zg rfl (sem_sliceStrI (ByteArray.extract s8 (Int.toNat (i16)) (Int.toNat ((ByteArray.size s8 : Nat)))) (i21) (IntKind.wrap .i64 ((i21) + (IntKind.wrap .i64 (i20)))) rfl TF.isStr_9 ⟨_, rfl⟩ ⟨_, rfl⟩ hi0 hi1 hi2 ?_)
     refine zg rfl (sem_buildSL [(0, (.bool true)), (1, (.string (ByteArray.extract (ByteArray.extract s8 (Int.toNat (i16)) (Int.toNat ((ByteArray.size s8 : Nat)))) (Int.toNat (i21)) (Int.toNat (IntKind.wrap .i64 ((i21) + (IntKind.wrap .i64 (i20))))))))] [(.bool true), (.string (ByteArray.extract (ByteArray.extract s8 (Int.toNat (i16)) (Int.toNat ((ByteArray.size s8 : Nat)))) (Int.toNat (i21)) (Int.toNat (IntKind.wrap .i64 ((i21) + (IntKind.wrap .i64 (i20)))))))] TF.zero_28 TF.places_28 rfl rfl ?_)
     obtain ⟨hi0, hi1, s⟩ := s
     refine zg rfl (sem_indexAddrA ⟨k6, 0, none⟩ .u64 (i15) rfl rfl TF.arr_29 hi0 hi1 ?_)
     refine zsn s rfl rfl rfl TF.sz_28 rfl fun h26 s => ?_
     refine au 5 rfl ?_
     refine zg rfl (sem_convI .u64 .i64 (i20) rfl TF.int_88 TF.int_3 ?_)
     refine au 1 rfl ?_
     obtain ⟨hi0, hi1, hi2, s⟩ := s
     refine zg rfl (sem_sliceStrI (ByteArray.extract s8 (Int.toNat (i16)) (Int.toNat ((ByteArray.size s8 : Nat)))) (IntKind.wrap .i64 ((i21) + (IntKind.wrap .i64 (i20)))) ((ByteArray.size (ByteArray.extract s8 (Int.toNat (i16)) (Int.toNat ((ByteArray.size s8 : Nat)))) : Nat)) rfl TF.isStr_9 ⟨_, rfl⟩ rfl hi0 hi1 hi2 ?_)
     refine au 3 rfl ?_
     exact Run.of_fin (s.imp fun h' ⟨m', hm, s⟩ => ih12 ((ByteArray.extract (ByteArray.extract s8 (Int.toNat (i16)) (Int.toNat ((ByteArray.size s8 : Nat)))) (Int.toNat (IntKind.wrap .i64 ((i21) + (IntKind.wrap .i64 (i20))))) (Int.toNat ((ByteArray.size (ByteArray.extract s8 (Int.toNat (i16)) (Int.toNat ((ByteArray.size s8 : Nat)))) : Nat)))), m') _ _ ⟨s, ⟨rfl, rfl, rfl, trivial⟩⟩ hm)
    refine au 3 rfl ?_
    obtain ⟨hi0, hi1, hi2, s⟩ := s
    refine zg rfl (sem_sliceArrI ⟨k6, 0, none⟩ (i15) ((6 : Nat)) rfl TF.arr_29 ⟨_, rfl⟩ rfl hi0 hi1 hi2 ?_)
    refine zg rfl (sem_lenSl (some (if 6 = Int.toNat (i15) then ⟨k6, 0, none⟩ else Addr.add ⟨k6, 0, none⟩ (Int.toNat (i15) * 2))) (Int.toNat ((6 : Nat)) - Int.toNat (i15)) (6 - Int.toNat (i15)) rfl TF.sl_128 ?_)
    refine au 3 rfl ?_
    obtain ⟨J32, m30, h0, s⟩ := s
    refine Run.of_fin (h0.imp fun h' h0 => ?_)
    refine Run.loop (σ := Int × Nat) (fun x e h => J32 x.1 x.2 h ∧ Agree [(0, (.string (ByteArray.extract s8 (Int.toNat (i16)) (Int.toNat ((ByteArray.size s8 : Nat)))))), (2, (.pointer (some ⟨k4, 0, none⟩))), (4, (.pointer (some ⟨k6, 0, none⟩))), (5, (.int .u64 (i15))), (7, (.int .u64 (i20))), (8, (.int .i64 (i21))), (51, (.slice (some (if 6 = Int.toNat (i15) then ⟨k6, 0, none⟩ else Addr.add ⟨k6, 0, none⟩ (Int.toNat (i15) * 2))) (Int.toNat ((6 : Nat)) - Int.toNat (i15)) (6 - Int.toNat (i15)))), (52, (.int .i64 (((Int.toNat ((6 : Nat)) - Int.toNat (i15)) : Nat)))), (53, (.int .i64 (x.1)))] e) (fun x => x.2) ((0), m30) ⟨h0, ⟨rfl, rfl, rfl, rfl, rfl, rfl, rfl, rfl, rfl, trivial⟩⟩ ?_; clear h0
    rintro ⟨i27, m29⟩ e h28 ⟨hJ, hag⟩ ih31
    have s := s i27 m29 h28 hJ; clear hJ
    refine Run.env hag ?_; clear hag
    refine au 2 rfl ?_
    refine zt s rfl rfl rfl binI_lss_t binI_lss_f (fun s => ?_) fun s => ?_
    ·refine au 8 rfl ?_
     obtain ⟨A33, e34, hi0, hi1, s⟩ := s
     refine zg rfl (sem_indexAddrS A33 (Int.toNat ((6 : Nat)) - Int.toNat (i15)) (6 - Int.toNat (i15)) .i64 (i27) (congrArg (fun a => Value.slice a (Int.toNat ((6 : Nat)) - Int.toNat (i15)) (6 - Int.toNat (i15))) e34) rfl TF.slc_128 hi0 hi1 ?_)
     obtain ⟨b35, s36, hl, s⟩ := s
     refine zn hl rfl rfl TF.agg_28 TF.sz_28 rfl ?_
     refine zal s rfl TF.zero_28 rfl fun k37 h38 s => ?_
     refine zsn s rfl rfl rfl TF.sz_28 rfl fun h39 s => ?_
     refine au 4 rfl ?_
     refine zl s rfl rfl TF.agg_4 fun b40 s => ?_
     cases b40
     ·replace s := s.2 rfl
      refine au 8 rfl ?_
      exact Run.of_fin (s.imp fun h' ⟨m', hm, s⟩ => ih31 ((IntKind.wrap .i64 ((i27) + (1))), m') _ _ ⟨s, ⟨rfl, rfl, rfl, rfl, rfl, rfl, rfl, rfl, rfl, trivial⟩⟩ hm)
     ·replace s := s.1 rfl
      refine au 4 rfl ?_
      refine zg rfl (sem_buildAL [] [(.bool false), (.string ByteArray.empty), (.bool false), (.string ByteArray.empty), (.bool false), (.string ByteArray.empty), (.bool false), (.string ByteArray.empty), (.bool false), (.string ByteArray.empty), (.bool false), (.string ByteArray.empty)] TF.zero_29 TF.arr_29 rfl rfl ?_)
      refine zsn s rfl rfl rfl TF.sz_29 rfl fun h41 s => ?_
      refine au 2 rfl ?_
      obtain ⟨l42, hln0, hl0, s⟩ := s
      exact zr (⟨⟨k4, 0, none⟩, (.agg (List.toArray l42)), rfl, loadHN TF.agg_29 (TF.sz_29.trans (congrArg some hln0.symm)) hl0, s.imp fun _ q => ⟨_, _, rfl, q⟩⟩)
    ·refine au 4 rfl ?_
     exact Run.of_fin (s.imp fun h' s => j24 _ _ ⟨⟨rfl, rfl, rfl, rfl, rfl, rfl, trivial⟩, s⟩)
   refine au 3 rfl ?_
   refine zt s rfl rfl rfl binI_eql_t binI_eql_f (fun s => ?_) fun s => ?_
   ·refine au 17 rfl ?_
    refine zg rfl (sem_buildAL [] [(.bool false), (.string ByteArray.empty), (.bool false), (.string ByteArray.empty), (.bool false), (.string ByteArray.empty), (.bool false), (.string ByteArray.empty), (.bool false), (.string ByteArray.empty), (.bool false), (.string ByteArray.empty)] TF.zero_29 TF.arr_29 rfl rfl ?_)
    refine zsn s rfl rfl rfl TF.sz_29 rfl fun h43 s => ?_
    refine au 2 rfl ?_
    obtain ⟨l44, hln0, hl0, s⟩ := s
    exact zr (⟨⟨k4, 0, none⟩, (.agg (List.toArray l44)), rfl, loadHN TF.agg_29 (TF.sz_29.trans (congrArg some hln0.symm)) hl0, s.imp fun _ q => ⟨_, _, rfl, q⟩⟩)
   ·refine au 2 rfl ?_
    refine zt s rfl rfl rfl binI_gtr_t binI_gtr_f (fun s => ?_) fun s => ?_
    ·refine au 14 rfl ?_
     refine zg rfl (sem_buildAL [] [(.bool false), (.string ByteArray.empty), (.bool false), (.string ByteArray.empty), (.bool false), (.string ByteArray.empty), (.bool false), (.string ByteArray.empty), (.bool false), (.string ByteArray.empty), (.bool false), (.string ByteArray.empty)] TF.zero_29 TF.arr_29 rfl rfl ?_)
     refine zsn s rfl rfl rfl TF.sz_29 rfl fun h45 s => ?_
     refine au 2 rfl ?_
     obtain ⟨l46, hln0, hl0, s⟩ := s
     exact zr (⟨⟨k4, 0, none⟩, (.agg (List.toArray l46)), rfl, loadHN TF.agg_29 (TF.sz_29.trans (congrArg some hln0.symm)) hl0, s.imp fun _ q => ⟨_, _, rfl, q⟩⟩)
    ·refine au 3 rfl ?_
     refine zg rfl (sem_lenStr (ByteArray.extract s8 (Int.toNat (i16)) (Int.toNat ((ByteArray.size s8 : Nat)))) rfl TF.isStr_9 ?_)
     refine au 2 rfl ?_
     refine zg rfl (sem_convI .i64 .u64 (IntKind.wrap .i64 (((ByteArray.size (ByteArray.extract s8 (Int.toNat (i16)) (Int.toNat ((ByteArray.size s8 : Nat)))) : Nat)) - (i21))) rfl TF.int_3 TF.int_88 ?_)
     refine au 1 rfl ?_
     refine zt s rfl rfl rfl binI_lss_t binI_lss_f (fun s => ?_) fun s => ?_
     ·refine au 5 rfl ?_
      refine zg rfl (sem_buildAL [] [(.bool false), (.string ByteArray.empty), (.bool false), (.string ByteArray.empty), (.bool false), (.string ByteArray.empty), (.bool false), (.string ByteArray.empty), (.bool false), (.string ByteArray.empty), (.bool false), (.string ByteArray.empty)] TF.zero_29 TF.arr_29 rfl rfl ?_)
      refine zsn s rfl rfl rfl TF.sz_29 rfl fun h47 s => ?_
      refine au 2 rfl ?_
      obtain ⟨l48, hln0, hl0, s⟩ := s
      exact zr (⟨⟨k4, 0, none⟩, (.agg (List.toArray l48)), rfl, loadHN TF.agg_29 (TF.sz_29.trans (congrArg some hln0.symm)) hl0, s.imp fun _ q => ⟨_, _, rfl, q⟩⟩)
     ·refine au 4 rfl ?_
      exact Run.of_fin (s.imp fun h' s => j22 _ _ ⟨⟨rfl, rfl, rfl, rfl, rfl, rfl, trivial⟩, s⟩)
  refine au 3 rfl ?_
  refine zt s rfl rfl rfl binI_eql_t binI_eql_f (fun s => ?_) fun s => ?_
  ·refine au 8 rfl ?_
   refine zg rfl (sem_buildAL [] [(.bool false), (.string ByteArray.empty), (.bool false), (.string ByteArray.empty), (.bool false), (.string ByteArray.empty), (.bool false), (.string ByteArray.empty), (.bool false), (.string ByteArray.empty), (.bool false), (.string ByteArray.empty)] TF.zero_29 TF.arr_29 rfl rfl ?_)
   refine zsn s rfl rfl rfl TF.sz_29 rfl fun h49 s => ?_
   refine au 2 rfl ?_
   obtain ⟨l50, hln0, hl0, s⟩ := s
   exact zr (⟨⟨k4, 0, none⟩, (.agg (List.toArray l50)), rfl, loadHN TF.agg_29 (TF.sz_29.trans (congrArg some hln0.symm)) hl0, s.imp fun _ q => ⟨_, _, rfl, q⟩⟩)
  ·refine au 2 rfl ?_
   refine zt s rfl rfl rfl binI_gtr_t binI_gtr_f (fun s => ?_) fun s => ?_
   ·refine au 5 rfl ?_
    refine zg rfl (sem_buildAL [] [(.bool false), (.string ByteArray.empty), (.bool false), (.string ByteArray.empty), (.bool false), (.string ByteArray.empty), (.bool false), (.string ByteArray.empty), (.bool false), (.string ByteArray.empty), (.bool false), (.string ByteArray.empty)] TF.zero_29 TF.arr_29 rfl rfl ?_)
    refine zsn s rfl rfl rfl TF.sz_29 rfl fun h51 s => ?_
    refine au 2 rfl ?_
    obtain ⟨l52, hln0, hl0, s⟩ := s
    exact zr (⟨⟨k4, 0, none⟩, (.agg (List.toArray l52)), rfl, loadHN TF.agg_29 (TF.sz_29.trans (congrArg some hln0.symm)) hl0, s.imp fun _ q => ⟨_, _, rfl, q⟩⟩)
   ·refine au 4 rfl ?_
    exact Run.of_fin (s.imp fun h' s => j17 _ _ ⟨⟨rfl, rfl, rfl, rfl, rfl, trivial⟩, s⟩)
 ·refine au 5 rfl ?_
  obtain ⟨l53, nl53, hl, s⟩ := s
  refine zg rfl (sem_loadN ⟨k6, 0, none⟩ l53 rfl TF.agg_29 (TF.sz_29.trans (congrArg some nl53.symm)) hl ?_)
  obtain ⟨hln, h54, hst, s⟩ := s
  refine zg0 rfl (sem_storeN ⟨k4, 0, none⟩ l53 h54 rfl rfl (TF.sz_29.trans (congrArg some hln.symm)) hst ?_)
  refine au 2 rfl ?_
  obtain ⟨l55, hln0, hl0, s⟩ := s
  exact zr (⟨⟨k4, 0, none⟩, (.agg (List.toArray l55)), rfl, loadHN TF.agg_29 (TF.sz_29.trans (congrArg some hln0.symm)) hl0, s.imp fun _ q => ⟨_, _, rfl, q⟩⟩)
theorem C_countermandref18_Read.of {B : RO} {s1 : ByteArray} {h : Heap} {Q : Int → Option Addr → Nat → Nat → Bool → Heap → Prop} (s : S_countermandref18_Read B s1 h Q) : C_countermandref18_Read B s1 h Q := by
 refine zspec Try.func32 [ResultVar.tmp 2, ResultVar.tmp 3, ResultVar.tmp 4] rfl rfl rfl rfl rfl ?_
 refine au 9 rfl ?_
 refine zcall s rfl rfl TF.goes_53 ?_
 rintro _ h7 ⟨i8, s9, b10, rfl, s⟩
 refine au 3 rfl ?_
 cases b10
 ·replace s := s.2 rfl
  refine au 1 rfl ?_
  refine au 17 rfl ?_
  exact zr (s.imp fun _ q => ⟨_, _, _, _, _, rfl, q⟩)
 ·replace s := s.1 rfl
  refine au 1 rfl ?_
  refine au 18 rfl ?_
  obtain ⟨J19, m17, h0, s⟩ := s
  refine Run.of_fin (h0.imp fun h' h0 => ?_)
  refine Run.loop (σ := ByteArray × (Option Addr) × Nat × Nat × Nat) (fun x e h => J19 x.1 x.2.1 x.2.2.1 x.2.2.2.1 x.2.2.2.2 h ∧ Agree [(0, (.string x.1)), (5, (.int .i64 (i8))), (7, (.slice x.2.1 x.2.2.1 x.2.2.2.1))] e) (fun x => x.2.2.2.2) (s9, none, 0, 0, m17) ⟨h0, ⟨rfl, rfl, rfl, trivial⟩⟩ ?_; clear h0
  rintro ⟨s11, a12, n13, c14, m16⟩ e h15 ⟨hJ, hag⟩ ih18
  have s := s s11 a12 n13 c14 m16 h15 hJ; clear hJ
  refine Run.env hag ?_; clear hag
  refine au 4 rfl ?_
  refine zg rfl (sem_lenStr s11 rfl TF.isStr_9 ?_)
  refine zt s rfl rfl rfl binI_gtr_t binI_gtr_f (fun s => ?_) fun s => ?_
  ·refine au 6 rfl ?_
   refine zg rfl (sem_buildSL [] [(.int .i64 (0)), (.bool false), (.string ByteArray.empty)] TF.zero_132 TF.places_132 rfl rfl ?_)
   refine zal s rfl TF.zero_132 rfl fun k20 h21 s => ?_
   refine zsn s rfl rfl rfl TF.sz_132 rfl fun h22 s => ?_
   refine au 8 rfl ?_
   refine zcall s rfl rfl TF.goes_53 ?_
   rintro _ h23 ⟨i24, s25, b26, rfl, s⟩
   refine au 3 rfl ?_
   cases b26
   ·replace s := s.2 rfl
    refine au 1 rfl ?_
    refine au 1 rfl ?_
    refine zs1 s rfl rfl rfl rfl TF.sz_3 fun h27 s => ?_
    refine au 3 rfl ?_
    refine Run.seqJ (fun e h32 => ∃ s29 : ByteArray, ∃ b30 : Bool, ∃ i31 : Int, Agree [(0, (.string s29)), (5, (.int .i64 (i8))), (6, (.bool b30)), (7, (.slice a12 n13 c14)), (8, (.pointer (some ⟨k20, 0, none⟩))), (9, (.int .i64 (i31)))] e ∧ S_countermandref18_Read_J1 B i8 a12 n13 c14 m16 J19 k20 s29 b30 i31 h32 Q) ?_ fun j28 => ?_
    ·rintro e h32 ⟨s29, b30, i31, hag, s⟩
     refine Run.env hag ?_; clear hag
     refine Run.seqJ (fun e h34 => Agree [(0, (.string s29)), (5, (.int .i64 (i8))), (7, (.slice a12 n13 c14)), (8, (.pointer (some ⟨k20, 0, none⟩))), (9, (.int .i64 (i31)))] e ∧ S_countermandref18_Read_J2 B i8 a12 n13 c14 m16 J19 k20 s29 i31 h34 Q) ?_ fun j33 => ?_
     ·rintro e h34 ⟨hag, s⟩
      refine Run.env hag ?_; clear hag
      refine au 4 rfl ?_
      refine zt s rfl rfl rfl binI_eql_t binI_eql_f (fun s => ?_) fun s => ?_
      ·refine au 9 rfl ?_
       refine zcall s rfl rfl TF.goes_53 ?_
       rintro _ h35 ⟨i36, s37, b38, rfl, s⟩
       refine au 3 rfl ?_
       cases b38
       ·replace s := s.2 rfl
        refine au 1 rfl ?_
        refine au 23 rfl ?_
        exact zr (s.imp fun _ q => ⟨_, _, _, _, _, rfl, q⟩)
       ·replace s := s.1 rfl
        refine au 1 rfl ?_
        refine au 4 rfl ?_
        refine Run.seqJ (fun e h40 => Agree [(0, (.string s37)), (5, (.int .i64 (i8))), (7, (.slice a12 n13 c14)), (8, (.pointer (some ⟨k20, 0, none⟩))), (10, (.int .i64 (i36)))] e ∧ S_countermandref18_Read_J3 B i8 a12 n13 c14 m16 J19 k20 i36 s37 h40 Q) ?_ fun j39 => ?_
        ·rintro e h40 ⟨hag, s⟩
         refine Run.env hag ?_; clear hag
         refine au 4 rfl ?_
         obtain ⟨hi0, hi1, hi2, s⟩ := s
         refine zg rfl (sem_sliceStrI s37 (0) (i36) rfl TF.isStr_9 rfl ⟨_, rfl⟩ hi0 hi1 hi2 ?_)
         refine zg rfl (sem_buildSL [(0, (.bool true)), (1, (.string (ByteArray.extract s37 (Int.toNat (0)) (Int.toNat (i36)))))] [(.bool true), (.string (ByteArray.extract s37 (Int.toNat (0)) (Int.toNat (i36))))] TF.zero_28 TF.places_28 rfl rfl ?_)
         refine au 1 rfl ?_
         refine zsn s rfl rfl rfl TF.sz_28 rfl fun h41 s => ?_
         refine au 4 rfl ?_
         obtain ⟨hi0, hi1, hi2, s⟩ := s
         refine zg rfl (sem_sliceStrI s37 (i36) ((ByteArray.size s37 : Nat)) rfl TF.isStr_9 ⟨_, rfl⟩ rfl hi0 hi1 hi2 ?_)
         refine au 4 rfl ?_
         obtain ⟨i42, b43, s44, hl, s⟩ := s
         refine zn hl rfl rfl TF.agg_132 TF.sz_132 rfl ?_
         refine zg rfl (sem_buildSliceL [(0, (.agg #[(.int .i64 (i42)), (.bool b43), (.string s44)]))] [(.int .i64 (i42)), (.bool b43), (.string s44)] TF.slc_93 TF.zero_132 rfl (by decide) (by decide) rfl rfl (fun k45 hb1 hb2 h46 hb3 => ?_))
         have s := s k45 hb1 hb2 h46 hb3
         refine zg rfl (sem_appendL [(.slice a12 n13 c14), (.slice (some ⟨k45, 0, none⟩) 1 1)] rfl (semH_mono (fun v h47 hv => ?_) s))
         obtain ⟨a48, n49, c50, rfl, s⟩ := hv
         refine au 3 rfl ?_
         exact Run.of_fin (s.imp fun h' ⟨m', hm, s⟩ => ih18 ((ByteArray.extract s37 (Int.toNat (i36)) (Int.toNat ((ByteArray.size s37 : Nat)))), a48, n49, c50, m') _ _ ⟨s, ⟨rfl, rfl, rfl, trivial⟩⟩ hm)
        refine au 7 rfl ?_
        refine zg rfl (sem_lenStr s37 rfl TF.isStr_9 ?_)
        refine zt s rfl rfl rfl binI_gtr_t binI_gtr_f (fun s => ?_) fun s => ?_
        ·refine au 9 rfl ?_
         exact zr (s.imp fun _ q => ⟨_, _, _, _, _, rfl, q⟩)
        ·refine au 4 rfl ?_
         exact Run.of_fin (s.imp fun h' s => j39 _ _ ⟨⟨rfl, rfl, rfl, rfl, rfl, trivial⟩, s⟩)
      ·refine au 5 rfl ?_
       obtain ⟨i51, b52, s53, hl, s⟩ := s
       refine zn hl rfl rfl TF.agg_132 TF.sz_132 rfl ?_
       refine zg rfl (sem_buildSliceL [(0, (.agg #[(.int .i64 (i51)), (.bool b52), (.string s53)]))] [(.int .i64 (i51)), (.bool b52), (.string s53)] TF.slc_93 TF.zero_132 rfl (by decide) (by decide) rfl rfl (fun k54 hb1 hb2 h55 hb3 => ?_))
       have s := s k54 hb1 hb2 h55 hb3
       refine zg rfl (sem_appendL [(.slice a12 n13 c14), (.slice (some ⟨k54, 0, none⟩) 1 1)] rfl (semH_mono (fun v h56 hv => ?_) s))
       obtain ⟨a57, n58, c59, rfl, s⟩ := hv
       refine au 3 rfl ?_
       exact Run.of_fin (s.imp fun h' ⟨m', hm, s⟩ => ih18 (s29, a57, n58, c59, m') _ _ ⟨s, ⟨rfl, rfl, rfl, trivial⟩⟩ hm)
     refine au 1 rfl ?_
     refine Run.drawM (fun h' => h' = h32) [] ⟨[0, 1, 2, 4, 12, 20, 36, 64, 64, 320, 576, 1216, 2112, 4160, 64, 16448, 41024, 65604, 131076], [524287, 524286, 524285, 524283, 524275, 524267, 524251, 524223, 524223, 523967, 523711, 523071, 522175, 520127, 524223, 507839, 483263, 458683, 393211], [0, 0, 0, 0, 0, 0, 0, 0, 0, 0, 0, 0, 0, 0, 0, 0, 0, 0, 0], 0⟩ (.q 0 (.q 1 (.q 2 (.q 3 (.q 4 (.q 5 (.q 6 (.q 7 (.q 8 (.q 9 (.q 10 (.q 11 (.q 12 (.q 13 (.q 14 (.q 15 (.q 16 (.q 17 (.q 18 .nil))))))))))))))))))) TF.mixed (by kernel_rfl) rfl ?_
     cases b30
     ·replace s := s.2 rfl
      refine auT 1 rfl ?_
      refine auT 18 rfl ?_
      refine au 7 rfl ?_
      exact zr (s.imp fun _ q => ⟨_, _, _, _, _, rfl, q⟩)
     ·replace s := s.1 rfl
      refine auT 1 rfl ?_
      refine auT 3 rfl ?_
      refine zqe rfl (sem_lenSl a12 n13 c14 rfl TF.sl_93 ⟨rfl, rfl⟩) ?_
      by_cases hb60 : ((n13 : Nat) : Int) > (0)
      ·replace s := s.1 hb60
       refine zqe rfl (sem_binI .i64 ((n13 : Nat)) (0) (.bool true) rfl rfl (binI_gtr_t hb60) ⟨rfl, rfl⟩) ?_
       refine auT 3 rfl ?_
       refine zqe rfl (sem_lenSl a12 n13 c14 rfl TF.sl_93 ⟨rfl, rfl⟩) ?_
       refine auT 1 rfl ?_
       obtain ⟨A61, e62, hi0, hi1, s⟩ := s
       refine zqe rfl (sem_indexAddrS A61 n13 c14 .i64 (IntKind.wrap .i64 (((n13 : Nat)) - (1))) (congrArg (fun a => Value.slice a n13 c14) e62) rfl TF.slc_93 hi0 hi1 ⟨rfl, rfl⟩) ?_
       refine auT 1 rfl ?_
       obtain ⟨i63, hl, s⟩ := s
       refine zqe rfl (sem_load1 (Addr.add A61 (Int.toNat (IntKind.wrap .i64 (((n13 : Nat)) - (1))) * 3)) ((.int .i64 (i63))) rfl TF.agg_3 hl ⟨rfl, rfl⟩) ?_
       refine auT 1 rfl ?_
       obtain ⟨i64, hl, s⟩ := s
       refine zqe rfl (sem_load1 ⟨k20, 0, none⟩ ((.int .i64 (i64))) rfl TF.agg_3 hl ⟨rfl, rfl⟩) ?_
       by_cases hb65 : (i63 : Int) ≥ (i64)
       ·replace s := s.1 hb65
        refine zqe rfl (sem_binI .i64 (i63) (i64) (.bool true) rfl rfl (binI_geq_t hb65) ⟨rfl, rfl⟩) ?_
        refine auT 2 rfl ?_
        refine au 7 rfl ?_
        exact zr (s.imp fun _ q => ⟨_, _, _, _, _, rfl, q⟩)
       ·replace s := s.2 hb65
        refine zqe rfl (sem_binI .i64 (i63) (i64) (.bool false) rfl rfl (binI_geq_f hb65) ⟨rfl, rfl⟩) ?_
        refine auT 2 rfl ?_
        refine au 2 rfl ?_
        exact Run.of_fin (s.imp fun h' s => j33 _ _ ⟨⟨rfl, rfl, rfl, rfl, rfl, trivial⟩, s⟩)
      ·replace s := s.2 hb60
       refine zqe rfl (sem_binI .i64 ((n13 : Nat)) (0) (.bool false) rfl rfl (binI_gtr_f hb60) ⟨rfl, rfl⟩) ?_
       refine auT 13 rfl ?_
       refine au 2 rfl ?_
       exact Run.of_fin (s.imp fun h' s => j33 _ _ ⟨⟨rfl, rfl, rfl, rfl, rfl, trivial⟩, s⟩)
    refine au 6 rfl ?_
    exact Run.of_fin (s.imp fun h' s => j28 _ _ ⟨s25, (false), (0), ⟨rfl, rfl, rfl, rfl, rfl, rfl, trivial⟩, s⟩)
   ·replace s := s.1 rfl
    refine au 1 rfl ?_
    refine au 1 rfl ?_
    refine zs1 s rfl rfl rfl rfl TF.sz_3 fun h66 s => ?_
    refine au 3 rfl ?_
    refine Run.seqJ (fun e h71 => ∃ s68 : ByteArray, ∃ b69 : Bool, ∃ i70 : Int, Agree [(0, (.string s68)), (5, (.int .i64 (i8))), (6, (.bool b69)), (7, (.slice a12 n13 c14)), (8, (.pointer (some ⟨k20, 0, none⟩))), (9, (.int .i64 (i70)))] e ∧ S_countermandref18_Read_J4 B i8 a12 n13 c14 m16 J19 k20 s68 b69 i70 h71 Q) ?_ fun j67 => ?_
    ·rintro e h71 ⟨s68, b69, i70, hag, s⟩
     refine Run.env hag ?_; clear hag
     refine Run.seqJ (fun e h73 => Agree [(0, (.string s68)), (5, (.int .i64 (i8))), (7, (.slice a12 n13 c14)), (8, (.pointer (some ⟨k20, 0, none⟩))), (9, (.int .i64 (i70)))] e ∧ S_countermandref18_Read_J5 B i8 a12 n13 c14 m16 J19 k20 s68 i70 h73 Q) ?_ fun j72 => ?_
     ·rintro e h73 ⟨hag, s⟩
      refine Run.env hag ?_; clear hag
      refine au 4 rfl ?_
      refine zt s rfl rfl rfl binI_eql_t binI_eql_f (fun s => ?_) fun s => ?_
      ·refine au 9 rfl ?_
       refine zcall s rfl rfl TF.goes_53 ?_
       rintro _ h74 ⟨i75, s76, b77, rfl, s⟩
       refine au 3 rfl ?_
       cases b77
       ·replace s := s.2 rfl
        refine au 1 rfl ?_
        refine au 23 rfl ?_
        exact zr (s.imp fun _ q => ⟨_, _, _, _, _, rfl, q⟩)
       ·replace s := s.1 rfl
        refine au 1 rfl ?_
        refine au 4 rfl ?_
        refine Run.seqJ (fun e h79 => Agree [(0, (.string s76)), (5, (.int .i64 (i8))), (7, (.slice a12 n13 c14)), (8, (.pointer (some ⟨k20, 0, none⟩))), (10, (.int .i64 (i75)))] e ∧ S_countermandref18_Read_J6 B i8 a12 n13 c14 m16 J19 k20 i75 s76 h79 Q) ?_ fun j78 => ?_
        ·rintro e h79 ⟨hag, s⟩
         refine Run.env hag ?_; clear hag
         refine au 4 rfl ?_
         obtain ⟨hi0, hi1, hi2, s⟩ := s
         refine zg rfl (sem_sliceStrI s76 (0) (i75) rfl TF.isStr_9 rfl ⟨_, rfl⟩ hi0 hi1 hi2 ?_)
         refine zg rfl (sem_buildSL [(0, (.bool true)), (1, (.string (ByteArray.extract s76 (Int.toNat (0)) (Int.toNat (i75)))))] [(.bool true), (.string (ByteArray.extract s76 (Int.toNat (0)) (Int.toNat (i75))))] TF.zero_28 TF.places_28 rfl rfl ?_)
         refine au 1 rfl ?_
         refine zsn s rfl rfl rfl TF.sz_28 rfl fun h80 s => ?_
         refine au 4 rfl ?_
         obtain ⟨hi0, hi1, hi2, s⟩ := s
         refine zg rfl (sem_sliceStrI s76 (i75) ((ByteArray.size s76 : Nat)) rfl TF.isStr_9 ⟨_, rfl⟩ rfl hi0 hi1 hi2 ?_)
         refine au 4 rfl ?_
         obtain ⟨i81, b82, s83, hl, s⟩ := s
         refine zn hl rfl rfl TF.agg_132 TF.sz_132 rfl ?_
         refine zg rfl (sem_buildSliceL [(0, (.agg #[(.int .i64 (i81)), (.bool b82), (.string s83)]))] [(.int .i64 (i81)), (.bool b82), (.string s83)] TF.slc_93 TF.zero_132 rfl (by decide) (by decide) rfl rfl (fun k84 hb1 hb2 h85 hb3 => ?_))
         have s := s k84 hb1 hb2 h85 hb3
         refine zg rfl (sem_appendL [(.slice a12 n13 c14), (.slice (some ⟨k84, 0, none⟩) 1 1)] rfl (semH_mono (fun v h86 hv => ?_) s))
         obtain ⟨a87, n88, c89, rfl, s⟩ := hv
         refine au 3 rfl ?_
         exact Run.of_fin (s.imp fun h' ⟨m', hm, s⟩ => ih18 ((ByteArray.extract s76 (Int.toNat (i75)) (Int.toNat ((ByteArray.size s76 : Nat)))), a87, n88, c89, m') _ _ ⟨s, ⟨rfl, rfl, rfl, trivial⟩⟩ hm)
        refine au 7 rfl ?_
        refine zg rfl (sem_lenStr s76 rfl TF.isStr_9 ?_)
        refine zt s rfl rfl rfl binI_gtr_t binI_gtr_f (fun s => ?_) fun s => ?_
        ·refine au 9 rfl ?_
         exact zr (s.imp fun _ q => ⟨_, _, _, _, _, rfl, q⟩)
        ·refine au 4 rfl ?_
         exact Run.of_fin (s.imp fun h' s => j78 _ _ ⟨⟨rfl, rfl, rfl, rfl, rfl, trivial⟩, s⟩)
      ·refine au 5 rfl ?_
       obtain ⟨i90, b91, s92, hl, s⟩ := s
       refine zn hl rfl rfl TF.agg_132 TF.sz_132 rfl ?_
       refine zg rfl (sem_buildSliceL [(0, (.agg #[(.int .i64 (i90)), (.bool b91), (.string s92)]))] [(.int .i64 (i90)), (.bool b91), (.string s92)] TF.slc_93 TF.zero_132 rfl (by decide) (by decide) rfl rfl (fun k93 hb1 hb2 h94 hb3 => ?_))
       have s := s k93 hb1 hb2 h94 hb3
       refine zg rfl (sem_appendL [(.slice a12 n13 c14), (.slice (some ⟨k93, 0, none⟩) 1 1)] rfl (semH_mono (fun v h95 hv => ?_) s))
       obtain ⟨a96, n97, c98, rfl, s⟩ := hv
       refine au 3 rfl ?_
       exact Run.of_fin (s.imp fun h' ⟨m', hm, s⟩ => ih18 (s68, a96, n97, c98, m') _ _ ⟨s, ⟨rfl, rfl, rfl, trivial⟩⟩ hm)
     refine au 1 rfl ?_
     refine Run.drawM (fun h' => h' = h71) [] ⟨[0, 1, 2, 4, 12, 20, 36, 64, 64, 320, 576, 1216, 2112, 4160, 64, 16448, 41024, 65604, 131076], [524287, 524286, 524285, 524283, 524275, 524267, 524251, 524223, 524223, 523967, 523711, 523071, 522175, 520127, 524223, 507839, 483263, 458683, 393211], [0, 0, 0, 0, 0, 0, 0, 0, 0, 0, 0, 0, 0, 0, 0, 0, 0, 0, 0], 0⟩ (.q 0 (.q 1 (.q 2 (.q 3 (.q 4 (.q 5 (.q 6 (.q 7 (.q 8 (.q 9 (.q 10 (.q 11 (.q 12 (.q 13 (.q 14 (.q 15 (.q 16 (.q 17 (.q 18 .nil))))))))))))))))))) TF.mixed (by kernel_rfl) rfl ?_
     cases b69
     ·replace s := s.2 rfl
      refine auT 1 rfl ?_
      refine auT 18 rfl ?_
      refine au 7 rfl ?_
      exact zr (s.imp fun _ q => ⟨_, _, _, _, _, rfl, q⟩)
     ·replace s := s.1 rfl
      refine auT 1 rfl ?_
      refine auT 3 rfl ?_
      refine zqe rfl (sem_lenSl a12 n13 c14 rfl TF.sl_93 ⟨rfl, rfl⟩) ?_
      by_cases hb99 : ((n13 : Nat) : Int) > (0)
      ·replace s := s.1 hb99
       refine zqe rfl (sem_binI .i64 ((n13 : Nat)) (0) (.bool true) rfl rfl (binI_gtr_t hb99) ⟨rfl, rfl⟩) ?_
       refine auT 3 rfl ?_
       refine zqe rfl (sem_lenSl a12 n13 c14 rfl TF.sl_93 ⟨rfl, rfl⟩) ?_
       refine auT 1 rfl ?_
       obtain ⟨A100, e101, hi0, hi1, s⟩ := s
       refine zqe rfl (sem_indexAddrS A100 n13 c14 .i64 (IntKind.wrap .i64 (((n13 : Nat)) - (1))) (congrArg (fun a => Value.slice a n13 c14) e101) rfl TF.slc_93 hi0 hi1 ⟨rfl, rfl⟩) ?_
       refine auT 1 rfl ?_
       obtain ⟨i102, hl, s⟩ := s
       refine zqe rfl (sem_load1 (Addr.add A100 (Int.toNat (IntKind.wrap .i64 (((n13 : Nat)) - (1))) * 3)) ((.int .i64 (i102))) rfl TF.agg_3 hl ⟨rfl, rfl⟩) ?_
       refine auT 1 rfl ?_
       obtain ⟨i103, hl, s⟩ := s
       refine zqe rfl (sem_load1 ⟨k20, 0, none⟩ ((.int .i64 (i103))) rfl TF.agg_3 hl ⟨rfl, rfl⟩) ?_
       by_cases hb104 : (i102 : Int) ≥ (i103)
       ·replace s := s.1 hb104
        refine zqe rfl (sem_binI .i64 (i102) (i103) (.bool true) rfl rfl (binI_geq_t hb104) ⟨rfl, rfl⟩) ?_
        refine auT 2 rfl ?_
        refine au 7 rfl ?_
        exact zr (s.imp fun _ q => ⟨_, _, _, _, _, rfl, q⟩)
       ·replace s := s.2 hb104
        refine zqe rfl (sem_binI .i64 (i102) (i103) (.bool false) rfl rfl (binI_geq_f hb104) ⟨rfl, rfl⟩) ?_
        refine auT 2 rfl ?_
        refine au 2 rfl ?_
        exact Run.of_fin (s.imp fun h' s => j72 _ _ ⟨⟨rfl, rfl, rfl, rfl, rfl, trivial⟩, s⟩)
      ·replace s := s.2 hb99
       refine zqe rfl (sem_binI .i64 ((n13 : Nat)) (0) (.bool false) rfl rfl (binI_gtr_f hb99) ⟨rfl, rfl⟩) ?_
       refine auT 13 rfl ?_
       refine au 2 rfl ?_
       exact Run.of_fin (s.imp fun h' s => j72 _ _ ⟨⟨rfl, rfl, rfl, rfl, rfl, trivial⟩, s⟩)
    refine au 7 rfl ?_
    refine zcall s rfl rfl TF.goes_53 ?_
    rintro _ h105 ⟨i106, s107, b108, rfl, s⟩
    refine au 3 rfl ?_
    cases b108
    ·replace s := s.2 rfl
     refine au 1 rfl ?_
     refine au 4 rfl ?_
     exact Run.of_fin (s.imp fun h' s => j67 _ _ ⟨s107, (false), (i106), ⟨rfl, rfl, rfl, rfl, rfl, rfl, trivial⟩, s⟩)
    ·replace s := s.1 rfl
     refine au 1 rfl ?_
     refine au 4 rfl ?_
     exact Run.of_fin (s.imp fun h' s => j67 _ _ ⟨s107, (true), (i106), ⟨rfl, rfl, rfl, rfl, rfl, rfl, trivial⟩, s⟩)
  ·refine au 11 rfl ?_
   exact zr (s.imp fun _ q => ⟨_, _, _, _, _, rfl, q⟩)
theorem C_countermandref18_Apply.of {B : RO} {l1 : List Value} {a2 : Option Addr} {n3 : Nat} {c4 : Nat} {h : Heap} {Q : List Value → Heap → Prop} (s : S_countermandref18_Apply B l1 a2 n3 c4 h Q) : C_countermandref18_Apply B l1 a2 n3 c4 h Q := by
 refine zspec Try.func33 [ResultVar.cell 4 29] rfl rfl rfl rfl rfl ?_
 refine au 2 rfl ?_
 refine zg rfl (sem_boxNN l1 rfl (fun k6 hb1 hb2 h7 hb3 => ?_))
 have s := s k6 hb1 hb2 h7 hb3
 refine zal s rfl TF.zero_29 rfl fun k8 h9 s => ?_
 refine au 5 rfl ?_
 refine zg rfl (sem_lenSl a2 n3 c4 rfl TF.sl_93 ?_)
 refine au 3 rfl ?_
 obtain ⟨J15, m13, h0, s⟩ := s
 refine Run.of_fin (h0.imp fun h' h0 => ?_)
 refine Run.loop (σ := Int × Nat) (fun x e h => J15 x.1 x.2 h ∧ Agree [(2, (.pointer (some ⟨k6, 0, none⟩))), (4, (.pointer (some ⟨k8, 0, none⟩))), (7, (.slice a2 n3 c4)), (8, (.int .i64 ((n3 : Nat)))), (9, (.int .i64 (x.1)))] e) (fun x => x.2) ((0), m13) ⟨h0, ⟨rfl, rfl, rfl, rfl, rfl, trivial⟩⟩ ?_; clear h0
 rintro ⟨i10, m12⟩ e h11 ⟨hJ, hag⟩ ih14
 have s := s i10 m12 h11 hJ; clear hJ
 refine Run.env hag ?_; clear hag
 refine au 2 rfl ?_
 refine zt s rfl rfl rfl binI_lss_t binI_lss_f (fun s => ?_) fun s => ?_
 ·refine au 8 rfl ?_
  obtain ⟨A16, e17, hi0, hi1, s⟩ := s
  refine zg rfl (sem_indexAddrS A16 n3 c4 .i64 (i10) (congrArg (fun a => Value.slice a n3 c4) e17) rfl TF.slc_93 hi0 hi1 ?_)
  obtain ⟨i18, b19, s20, hl, s⟩ := s
  refine zn hl rfl rfl TF.agg_132 TF.sz_132 rfl ?_
  refine zal s rfl TF.zero_132 rfl fun k21 h22 s => ?_
  refine zsn s rfl rfl rfl TF.sz_132 rfl fun h23 s => ?_
  refine au 3 rfl ?_
  refine zl s rfl rfl TF.agg_3 fun i24 s => ?_
  refine au 1 rfl ?_
  obtain ⟨b25, s26, hl, s⟩ := s
  refine zn hl rfl rfl TF.agg_28 TF.sz_28 rfl ?_
  obtain ⟨hi0, hi1, s⟩ := s
  refine zg rfl (sem_indexAddrA ⟨k6, 0, none⟩ .i64 (i24) rfl rfl TF.arr_29 hi0 hi1 ?_)
  refine zsn s rfl rfl rfl TF.sz_28 rfl fun h27 s => ?_
  refine au 6 rfl ?_
  exact Run.of_fin (s.imp fun h' ⟨m', hm, s⟩ => ih14 ((IntKind.wrap .i64 ((i10) + (1))), m') _ _ ⟨s, ⟨rfl, rfl, rfl, rfl, rfl, trivial⟩⟩ hm)
 ·refine au 6 rfl ?_
  obtain ⟨l28, nl28, hl, s⟩ := s
  refine zg rfl (sem_loadN ⟨k6, 0, none⟩ l28 rfl TF.agg_29 (TF.sz_29.trans (congrArg some nl28.symm)) hl ?_)
  obtain ⟨hln, h29, hst, s⟩ := s
  refine zg0 rfl (sem_storeN ⟨k8, 0, none⟩ l28 h29 rfl rfl (TF.sz_29.trans (congrArg some hln.symm)) hst ?_)
  refine au 1 rfl ?_
  obtain ⟨l30, hln0, hl0, s⟩ := s
  exact zr (⟨⟨k8, 0, none⟩, (.agg (List.toArray l30)), rfl, loadHN TF.agg_29 (TF.sz_29.trans (congrArg some hln0.symm)) hl0, s.imp fun _ q => ⟨_, rfl, q⟩⟩)
theorem C_vault_Open.of {B : RO} {p1 : Option Addr} {h : Heap} {Q : Option Addr → ByteArray → Option Addr → Nat → Nat → Int → Heap → Prop} (s : S_vault_Open B p1 h Q) : C_vault_Open B p1 h Q := by
 refine zspec Try.func34 [ResultVar.tmp 2, ResultVar.cell 3 99, ResultVar.tmp 4] rfl rfl rfl rfl rfl ?_
 refine au 3 rfl ?_
 refine zal s rfl TF.zero_99 rfl fun k8 h9 s => ?_
 refine au 6 rfl ?_
 by_cases hb10 : p1 = none
 ·replace s := s.1 hb10
  refine zg rfl (sem_ptrNilT p1 (.inl rfl) true rfl rfl TF.ptr_23 hb10 rfl ?_)
  refine au 4 rfl ?_
  refine zg rfl (sem_buildSL [] [(.string ByteArray.empty), (.slice none 0 0)] TF.zero_99 TF.places_99 rfl rfl ?_)
  refine au 1 rfl ?_
  refine zsn s rfl rfl rfl TF.sz_99 rfl fun h11 s => ?_
  refine au 2 rfl ?_
  obtain ⟨s12, a13, n14, c15, hl1, s⟩ := s
  exact zr (⟨⟨k8, 0, none⟩, (.agg #[(.string s12), (.slice a13 n14 c15)]), rfl, loadHN TF.agg_99 TF.sz_99 hl1, s.imp fun _ q => ⟨_, _, _, _, _, _, rfl, q⟩⟩)
 ·replace s := s.2 hb10
  refine zg rfl (sem_ptrNilF p1 (.inl rfl) false rfl rfl TF.ptr_23 hb10 rfl ?_)
  refine au 6 rfl ?_
  refine zg rfl (sem_buildSL [(0, (.pointer p1))] [(.pointer p1), (.pointer none), (.int .i64 (0)), (.bool false)] TF.zero_135 TF.places_135 rfl rfl ?_)
  refine zbn s rfl rfl rfl fun k16 h17 s => ?_
  refine au 4 rfl ?_
  refine zal s rfl TF.zero_99 rfl fun k18 h19 s => ?_
  refine au 7 rfl ?_
  obtain ⟨J25, m23, h0, s⟩ := s
  refine Run.of_fin (h0.imp fun h' h0 => ?_)
  refine Run.loop (σ := Int × Nat) (fun x e h => J25 x.1 x.2 h ∧ Agree [(0, (.pointer p1)), (3, (.pointer (some ⟨k8, 0, none⟩))), (5, (.pointer (some ⟨k16, 0, none⟩))), (6, (.pointer (some ⟨k18, 0, none⟩))), (18, (.int .i64 (x.1)))] e) (fun x => x.2) ((0), m23) ⟨h0, ⟨rfl, rfl, rfl, rfl, rfl, trivial⟩⟩ ?_; clear h0
  rintro ⟨i20, m22⟩ e h21 ⟨hJ, hag⟩ ih24
  have s := s i20 m22 h21 hJ; clear hJ
  refine Run.env hag ?_; clear hag
  refine au 2 rfl ?_
  refine zt s rfl rfl rfl binI_lss_t binI_lss_f (fun s => ?_) fun s => ?_
  ·refine au 15 rfl ?_
   refine zcall s rfl rfl TF.goes_54 ?_
   rintro _ h26 ⟨p27, i28, rfl, s⟩
   refine au 9 rfl ?_
   refine zcall s rfl rfl TF.goes_55 ?_
   rintro _ h29 ⟨i30, s31, a32, n33, c34, rfl, s⟩
   refine au 3 rfl ?_
   refine zal s rfl TF.zero_99 rfl fun k35 h36 s => ?_
   refine au 1 rfl ?_
   refine zsn s rfl rfl rfl TF.sz_99 rfl fun h37 s => ?_
   refine au 1 rfl ?_
   refine Run.seqJ (fun e h40 => ∃ b39 : Bool, Agree [(0, (.pointer p1)), (3, (.pointer (some ⟨k8, 0, none⟩))), (5, (.pointer (some ⟨k16, 0, none⟩))), (6, (.pointer (some ⟨k18, 0, none⟩))), (8, (.pointer p27)), (10, (.int .i64 (i30))), (11, (.pointer (some ⟨k35, 0, none⟩))), (18, (.int .i64 (i20))), (44, (.bool b39))] e ∧ S_vault_Open_J1 B p1 k8 k16 k18 i20 m22 J25 p27 i30 k35 b39 h40 Q) ?_ fun j38 => ?_
   ·rintro e h40 ⟨b39, hag, s⟩
    refine Run.env hag ?_; clear hag
    cases b39
    ·replace s := s.2 rfl
     refine au 7 rfl ?_
     exact Run.of_fin (s.imp fun h' ⟨m', hm, s⟩ => ih24 ((IntKind.wrap .i64 ((i20) + (1))), m') _ _ ⟨s, ⟨rfl, rfl, rfl, rfl, rfl, trivial⟩⟩ hm)
    ·replace s := s.1 rfl
     refine au 1 rfl ?_
     obtain ⟨s45, a46, n47, c48, hl, s⟩ := s
     have f49 := hl
     refine Run.drawM (fun h' => CellsAt B h' ⟨k35, 0, none⟩ 0 [(.string s45), (.slice a46 n47 c48)] ∧ True) [11] ⟨[0, 0, 0, 0, 0, 5, 37, 69, 239, 495, 751, 2047], [4095, 4095, 4095, 4095, 4095, 4094, 4063, 4027, 4093, 3839, 3575, 4079], [0, 0, 0, 0, 0, 5, 37, 101, 239, 495, 1007, 2047], 2048⟩ (.q 0 (.q 1 (.q 2 (.q 3 (.q 4 (.q 5 (.q 6 (.x 7 (.q 8 (.q 9 (.x 10 (.x 11 .nil .no) .no))) .no)))))))) TF.mixed (by kernel_rfl) ⟨f49, trivial⟩ ?_
     refine auT 4 rfl ?_
     refine zq rfl (fun _ hC => sem_loadN ⟨k35, 0, none⟩ [(.string s45), (.slice a46 n47 c48)] rfl TF.agg_99 TF.sz_99 hC.1 ⟨rfl, rfl⟩) ?_
     refine auT 2 rfl ?_
     obtain ⟨h52, hst, s⟩ := s
     refine ⟨zo0 rfl (sem_store1 ⟨k16, 1, none⟩ ((.pointer p27)) h52 rfl rfl rfl TF.sz_133 hst ?_), trivial⟩
     obtain ⟨g53, s⟩ := s
     refine ⟨fun _ => ⟨g53, trivial⟩, ?_⟩
     refine auT 2 rfl ?_
     obtain ⟨h54, hst, s⟩ := s
     refine ⟨zo0 rfl (sem_store1 ⟨k16, 2, none⟩ ((.int .i64 (i30))) h54 rfl rfl rfl TF.sz_3 hst ?_), trivial⟩
     obtain ⟨g55, s⟩ := s
     refine ⟨fun _ => ⟨g55, trivial⟩, ?_⟩
     obtain ⟨h56, hst, s⟩ := s
     refine ⟨zo0 rfl (sem_storeN ⟨k18, 0, none⟩ [(.string s45), (.slice a46 n47 c48)] h56 rfl rfl TF.sz_99 hst ?_), trivial⟩
     refine ⟨fun hz => Bool.noConfusion hz, ?_⟩
     refine au 5 rfl ?_
     exact Run.of_fin (s.imp fun h' ⟨m', hm, s⟩ => ih24 ((IntKind.wrap .i64 ((i20) + (1))), m') _ _ ⟨s, ⟨rfl, rfl, rfl, rfl, rfl, trivial⟩⟩ hm)
   refine au 4 rfl ?_
   refine zl s rfl rfl TF.agg_133 fun p57 s => ?_
   by_cases hb58 : p57 = none
   ·replace s := s.1 hb58
    refine zg rfl (sem_ptrNilT p57 (.inl rfl) true rfl rfl TF.ptr_133 hb58 rfl ?_)
    refine au 9 rfl ?_
    exact Run.of_fin (s.imp fun h' s => j38 _ _ ⟨(true), ⟨rfl, rfl, rfl, rfl, rfl, rfl, rfl, rfl, rfl, trivial⟩, s⟩)
   ·replace s := s.2 hb58
    refine zg rfl (sem_ptrNilF p57 (.inl rfl) false rfl rfl TF.ptr_133 hb58 rfl ?_)
    refine au 5 rfl ?_
    refine zl s rfl rfl TF.agg_3 fun i59 s => ?_
    refine zt s rfl rfl rfl binI_gtr_t binI_gtr_f (fun s => ?_) fun s => ?_
    ·refine au 2 rfl ?_
     exact Run.of_fin (s.imp fun h' s => j38 _ _ ⟨(true), ⟨rfl, rfl, rfl, rfl, rfl, rfl, rfl, rfl, rfl, trivial⟩, s⟩)
    ·refine au 2 rfl ?_
     exact Run.of_fin (s.imp fun h' s => j38 _ _ ⟨(false), ⟨rfl, rfl, rfl, rfl, rfl, rfl, rfl, rfl, rfl, trivial⟩, s⟩)
  ·refine au 5 rfl ?_
   obtain ⟨s61, a62, n63, c64, hl, s⟩ := s
   have f65 := hl
   refine Run.drawM (fun h' => CellsAt B h' ⟨k18, 0, none⟩ 0 [(.string s61), (.slice a62 n63 c64)] ∧ True) [] ⟨[0, 0, 1, 7, 15], [31, 31, 30, 29, 31], [0, 0, 0, 0, 0], 0⟩ (.q 0 (.q 1 (.q 2 (.x 3 (.q 4 .nil) .no)))) TF.mixed (by kernel_rfl) ⟨f65, trivial⟩ ?_
   refine auT 1 rfl ?_
   refine zq rfl (fun _ hC => sem_loadN ⟨k18, 0, none⟩ [(.string s61), (.slice a62 n63 c64)] rfl TF.agg_99 TF.sz_99 hC.1 ⟨rfl, rfl⟩) ?_
   refine auT 1 rfl ?_
   obtain ⟨h67, hst, s⟩ := s
   refine ⟨zo0 rfl (sem_storeN ⟨k8, 0, none⟩ [(.string s61), (.slice a62 n63 c64)] h67 rfl rfl TF.sz_99 hst ?_), trivial⟩
   obtain ⟨g68, s⟩ := s
   refine ⟨fun _ => ⟨g68, trivial⟩, ?_⟩
   refine auT 1 rfl ?_
   obtain ⟨s69, a70, n71, c72, hl1, s⟩ := s
   exact zr (⟨⟨k8, 0, none⟩, (.agg #[(.string s69), (.slice a70 n71 c72)]), rfl, loadHN TF.agg_99 TF.sz_99 hl1, s.imp fun _ q => ⟨_, _, _, _, _, _, rfl, q⟩⟩)
theorem C_world_read.of {B : RO} {s1 : ByteArray} {h : Heap} {Q : Int → Option Addr → Bool → Heap → Prop} (s : S_world_read B s1 h Q) : C_world_read B s1 h Q := by
 refine zspec Try.func35 [ResultVar.tmp 2, ResultVar.tmp 3, ResultVar.tmp 4] rfl rfl rfl rfl rfl ?_
 refine au 10 rfl ?_
 by_cases hb5 : s1 = (ByteArray.mk #[])
 ·replace s := s.1 hb5
  refine zg rfl (sem_strEqT s1 (ByteArray.mk #[]) rfl rfl hb5 ?_)
  refine au 4 rfl ?_
  refine zcall s rfl rfl TF.goes_56 ?_
  rintro _ h6 ⟨p7, rfl, s⟩
  refine au 4 rfl ?_
  exact zr (s.imp fun _ q => ⟨_, _, _, rfl, q⟩)
 ·replace s := s.2 hb5
  refine zg rfl (sem_strEqF s1 (ByteArray.mk #[]) rfl rfl hb5 ?_)
  refine au 6 rfl ?_
  refine zcall s rfl rfl TF.goes_57 ?_
  rintro _ h8 ⟨p9, rfl, s⟩
  refine au 5 rfl ?_
  refine zcall s rfl rfl TF.goes_58 ?_
  rintro _ h10 ⟨i11, rfl, s⟩
  refine au 6 rfl ?_
  refine zcall s rfl rfl TF.goes_59 ?_
  rintro _ h12 ⟨b13, rfl, s⟩
  cases b13
  ·replace s := s.2 rfl
   refine au 7 rfl ?_
   refine zcall s rfl rfl TF.goes_62 ?_
   rintro _ h14 ⟨i15, rfl, s⟩
   refine zcall s rfl rfl TF.goes_61 ?_
   rintro _ h16 ⟨s17, rfl, s⟩
   refine zcall s rfl rfl TF.goes_60 ?_
   rintro _ h18 ⟨p19, b20, rfl, s⟩
   refine au 15 rfl ?_
   exact zr (s.imp fun _ q => ⟨_, _, _, rfl, q⟩)
  ·replace s := s.1 rfl
   refine au 8 rfl ?_
   exact zr (s.imp fun _ q => ⟨_, _, _, rfl, q⟩)
theorem C_redo_Replay.of {B : RO} {p1 : Option Addr} {a2 : Option Addr} {n3 : Nat} {c4 : Nat} {h : Heap} {Q : Int → Int → Heap → Prop} (s : S_redo_Replay B p1 a2 n3 c4 h Q) : C_redo_Replay B p1 a2 n3 c4 h Q := by
 refine zspec Try.func36 [ResultVar.tmp 4, ResultVar.tmp 5] rfl rfl rfl rfl rfl ?_
 refine au 13 rfl ?_
 refine zg rfl (sem_lenSl a2 n3 c4 rfl TF.sl_35 ?_)
 refine au 3 rfl ?_
 obtain ⟨J13, m11, h0, s⟩ := s
 refine Run.of_fin (h0.imp fun h' h0 => ?_)
 refine Run.loop (σ := Int × Int × Nat) (fun x e h => J13 x.1 x.2.1 x.2.2 h ∧ Agree [(0, (.pointer p1)), (1, (.slice a2 n3 c4)), (6, (.int .i64 (x.1))), (12, (.slice a2 n3 c4)), (13, (.int .i64 ((n3 : Nat)))), (14, (.int .i64 (x.2.1)))] e) (fun x => x.2.2) ((0), (0), m11) ⟨h0, ⟨rfl, rfl, rfl, rfl, rfl, rfl, trivial⟩⟩ ?_; clear h0
 rintro ⟨i7, i8, m10⟩ e h9 ⟨hJ, hag⟩ ih12
 have s := s i7 i8 m10 h9 hJ; clear hJ
 refine Run.env hag ?_; clear hag
 refine au 2 rfl ?_
 refine zt s rfl rfl rfl binI_lss_t binI_lss_f (fun s => ?_) fun s => ?_
 ·refine au 9 rfl ?_
  obtain ⟨A14, e15, hi0, hi1, s⟩ := s
  refine zg rfl (sem_indexAddrS A14 n3 c4 .i64 (i8) (congrArg (fun a => Value.slice a n3 c4) e15) rfl TF.slc_35 hi0 hi1 ?_)
  refine zl s rfl rfl TF.agg_9 fun s16 s => ?_
  refine au 6 rfl ?_
  refine zcall s rfl rfl TF.goes_63 ?_
  rintro _ h17 ⟨i18, a19, n20, c21, b22, rfl, s⟩
  refine au 3 rfl ?_
  cases b22
  ·replace s := s.2 rfl
   refine au 1 rfl ?_
   refine au 18 rfl ?_
   exact zr (s.imp fun _ q => ⟨_, _, rfl, q⟩)
  ·replace s := s.1 rfl
   refine au 1 rfl ?_
   refine au 16 rfl ?_
   refine zcall s rfl rfl TF.goes_64 ?_
   rintro _ h23 ⟨rfl, s⟩
   refine au 4 rfl ?_
   refine zg rfl (sem_max .i64 (i7) (i18) rfl rfl ?_)
   refine au 7 rfl ?_
   exact Run.of_fin (s.imp fun h' ⟨m', hm, s⟩ => ih12 ((if (i18 : Int) > (i7) then (i18 : Int) else (i7)), (IntKind.wrap .i64 ((i8) + (1))), m') _ _ ⟨s, ⟨rfl, rfl, rfl, rfl, rfl, rfl, trivial⟩⟩ hm)
 ·refine au 8 rfl ?_
  refine zg rfl (sem_lenSl a2 n3 c4 rfl TF.sl_35 ?_)
  refine au 3 rfl ?_
  exact zr (s.imp fun _ q => ⟨_, _, rfl, q⟩)
theorem C_vault_Vault_Settle.of {B : RO} {p1 : Option Addr} {s2 : ByteArray} {h : Heap} {Q : Int → Heap → Prop} (s : S_vault_Vault_Settle B p1 s2 h Q) : C_vault_Vault_Settle B p1 s2 h Q := by
 refine zspec Try.func37 [ResultVar.tmp 4] rfl rfl rfl rfl rfl ?_
 refine au 4 rfl ?_
 refine Run.seqJ (fun e h5 => Agree [(0, (.pointer p1)), (1, (.string s2))] e ∧ S_vault_Vault_Settle_J1 B p1 s2 h5 Q) ?_ fun j4 => ?_
 ·rintro e h5 ⟨hag, s⟩
  refine Run.env hag ?_; clear hag
  refine au 2 rfl ?_
  refine zg rfl (sem_buildSL [] [(.slice none 0 0)] TF.zero_152 TF.places_152 rfl rfl ?_)
  refine zbn s rfl rfl rfl fun k6 h7 s => ?_
  refine au 6 rfl ?_
  refine znil s rfl rfl fun A8 s => ?_
  refine au 1 rfl ?_
  refine zl s rfl rfl TF.agg_3 fun i10 s => ?_
  refine au 1 rfl ?_
  refine zg rfl (sem_buildSliceL [(0, (.int .i64 (0))), (1, (.int .i64 (IntKind.wrap .i64 ((i10) + (1)))))] [(.int .i64 (0)), (.int .i64 (IntKind.wrap .i64 ((i10) + (1))))] TF.slc_119 TF.zero_3 rfl (by decide) (by decide) rfl rfl (fun k11 hb1 hb2 h12 hb3 => ?_))
  have s := s k11 hb1 hb2 h12 hb3
  refine zcall s rfl rfl TF.goes_65 ?_
  rintro _ h13 ⟨rfl, s⟩
  refine au 5 rfl ?_
  refine zcall s rfl rfl TF.goes_66 ?_
  rintro _ h14 ⟨rfl, s⟩
  refine au 5 rfl ?_
  refine zcall s rfl rfl TF.goes_67 ?_
  rintro _ h15 ⟨s16, rfl, s⟩
  refine zg rfl (sem_lenStr s16 rfl TF.isStr_9 ?_)
  refine zt s rfl rfl rfl binI_gtr_t binI_gtr_f (fun s => ?_) fun s => ?_
  ·refine au 6 rfl ?_
   exact zr (s.imp fun _ q => ⟨_, rfl, q⟩)
  ·refine au 6 rfl ?_
   refine znil s rfl rfl fun A17 s => ?_
   refine au 1 rfl ?_
   refine zl s rfl rfl TF.agg_133 fun p19 s => ?_
   refine au 3 rfl ?_
   obtain ⟨A21, e22, s⟩ := s
   obtain ⟨p25, hl, s⟩ := s
   have f26 := hl
   refine Run.drawM (fun h' => cellH B h' A21 = some (.pointer p25) ∧ True) [] ⟨[0, 1, 2, 4, 0, 16, 32, 104, 128, 256, 256, 1023, 4095], [8191, 8190, 8189, 8187, 8191, 8175, 8159, 8119, 8063, 7935, 7935, 7679, 7167], [0, 0, 0, 0, 0, 0, 0, 0, 0, 0, 0, 0, 0], 0⟩ (.q 0 (.q 1 (.q 2 (.q 3 (.q 4 (.x 5 (.q 6 (.x 7 (.q 8 (.q 9 (.q 10 (.q 11 (.q 12 .nil))))) .no)) .no)))))) TF.mixed (by kernel_rfl) ⟨f26, trivial⟩ ?_
   refine auT 1 rfl ?_
   refine zq rfl (fun _ hC => sem_nilCheck A21 (congrArg Value.pointer e22) ⟨rfl, rfl⟩) ?_
   refine auT 1 rfl ?_
   refine zq rfl (fun _ hC => sem_load1 A21 ((.pointer p25)) rfl TF.agg_23 hC.1 ⟨rfl, rfl⟩) ?_
   refine auT 1 rfl ?_
   refine ⟨zo rfl (sem_callL [(.pointer p19)] (TF.goes_68) rfl rfl (Spec.mono s fun v h28 hv => ?_)), trivial⟩
   obtain ⟨i29, rfl, s⟩ := hv
   obtain ⟨g30, s⟩ := s
   refine ⟨fun _ => ⟨g30, trivial⟩, ?_⟩
   refine auT 1 rfl ?_
   refine ⟨zo rfl (sem_callL [(.pointer p25), (.int .i64 (IntKind.wrap .i64 ((1) - (i29))))] (TF.goes_54) rfl rfl (Spec.mono s fun v h31 hv => ?_)), trivial⟩
   obtain ⟨p32, i33, rfl, s⟩ := hv
   obtain ⟨g34, s⟩ := s
   refine ⟨fun _ => ⟨g34, trivial⟩, ?_⟩
   refine auT 5 rfl ?_
   refine au 3 rfl ?_
   refine zcall s rfl rfl TF.goes_69 ?_
   rintro _ h35 ⟨rfl, s⟩
   refine au 4 rfl ?_
   refine zcall s rfl rfl TF.goes_70 ?_
   rintro _ h36 ⟨rfl, s⟩
   refine au 5 rfl ?_
   refine zcall s rfl rfl TF.goes_67 ?_
   rintro _ h37 ⟨s38, rfl, s⟩
   refine zcall s rfl rfl TF.goes_71 ?_
   rintro _ h39 ⟨i40, rfl, s⟩
   refine au 4 rfl ?_
   refine zcall s rfl rfl TF.goes_70 ?_
   rintro _ h41 ⟨rfl, s⟩
   refine au 4 rfl ?_
   refine zcall s rfl rfl TF.goes_69 ?_
   rintro _ h42 ⟨rfl, s⟩
   refine au 4 rfl ?_
   refine zcall s rfl rfl TF.goes_70 ?_
   rintro _ h43 ⟨rfl, s⟩
   refine au 8 rfl ?_
   refine znil s rfl rfl fun A44 s => ?_
   refine au 1 rfl ?_
   refine zl s rfl rfl TF.agg_3 fun i46 s => ?_
   refine au 1 rfl ?_
   refine znil s rfl rfl fun A47 s => ?_
   refine au 1 rfl ?_
   refine zs1 s rfl rfl rfl rfl TF.sz_133 fun h49 s => ?_
   refine znil s rfl rfl fun A50 s => ?_
   refine au 1 rfl ?_
   refine zs1 s rfl rfl rfl rfl TF.sz_3 fun h52 s => ?_
   refine znil s rfl rfl fun A53 s => ?_
   refine au 1 rfl ?_
   refine zs1 s rfl rfl rfl rfl TF.sz_4 fun h55 s => ?_
   refine au 5 rfl ?_
   exact zr (s.imp fun _ q => ⟨_, rfl, q⟩)
 refine au 4 rfl ?_
 by_cases hb56 : p1 = none
 ·replace s := s.1 hb56
  refine zg rfl (sem_ptrNilT p1 (.inl rfl) true rfl rfl TF.ptr_97 hb56 rfl ?_)
  refine au 7 rfl ?_
  exact zr (s.imp fun _ q => ⟨_, rfl, q⟩)
 ·replace s := s.2 hb56
  refine zg rfl (sem_ptrNilF p1 (.inl rfl) false rfl rfl TF.ptr_97 hb56 rfl ?_)
  refine au 6 rfl ?_
  refine znil s rfl rfl fun A57 s => ?_
  refine au 1 rfl ?_
  refine zl s rfl rfl TF.agg_3 fun i59 s => ?_
  refine zt s rfl rfl rfl binI_geq_t binI_geq_f (fun s => ?_) fun s => ?_
  ·refine au 7 rfl ?_
   exact zr (s.imp fun _ q => ⟨_, rfl, q⟩)
  ·refine au 5 rfl ?_
   exact Run.of_fin (s.imp fun h' s => j4 _ _ ⟨⟨rfl, rfl, trivial⟩, s⟩)
theorem C_world_image.of {B : RO} {i1 : Int} {p2 : Option Addr} {h : Heap} {Q : ByteArray → Heap → Prop} (s : S_world_image B i1 p2 h Q) : C_world_image B i1 p2 h Q := by
 refine zspec Try.func38 [ResultVar.tmp 4] rfl rfl rfl rfl rfl ?_
 refine au 6 rfl ?_
 refine zg rfl (sem_buildSL [] [(.slice none 0 0)] TF.zero_152 TF.places_152 rfl rfl ?_)
 refine zbn s rfl rfl rfl fun k4 h5 s => ?_
 refine au 6 rfl ?_
 refine zg rfl (sem_buildSliceL [(0, (.int .i64 (i1)))] [(.int .i64 (i1))] TF.slc_119 TF.zero_3 rfl (by decide) (by decide) rfl rfl (fun k6 hb1 hb2 h7 hb3 => ?_))
 have s := s k6 hb1 hb2 h7 hb3
 refine zcall s rfl rfl TF.goes_65 ?_
 rintro _ h8 ⟨rfl, s⟩
 refine au 5 rfl ?_
 refine zcall s rfl rfl TF.goes_72 ?_
 rintro _ h9 ⟨s10, rfl, s⟩
 refine zcall s rfl rfl TF.goes_66 ?_
 rintro _ h11 ⟨rfl, s⟩
 refine au 4 rfl ?_
 refine zcall s rfl rfl TF.goes_67 ?_
 rintro _ h12 ⟨s13, rfl, s⟩
 refine au 2 rfl ?_
 exact zr (s.imp fun _ q => ⟨_, rfl, q⟩)
theorem C_attempt_NewView.of {B : RO} {h : Heap} {Q : Option Addr → Heap → Prop} (s : S_attempt_NewView B h Q) : C_attempt_NewView B h Q := by
 refine zspec Try.func39 [ResultVar.tmp 0] rfl rfl rfl rfl rfl ?_
 refine au 6 rfl ?_
 refine zcall s rfl rfl TF.goes_73 ?_
 rintro _ h2 ⟨p3, rfl, s⟩
 refine zcall s rfl rfl TF.goes_56 ?_
 rintro _ h4 ⟨p5, rfl, s⟩
 refine zcall s rfl rfl TF.goes_74 ?_
 rintro _ h6 ⟨p7, rfl, s⟩
 refine zg rfl (sem_buildSL [(0, (.pointer p3)), (1, (.pointer p5)), (2, (.pointer p7))] [(.pointer p3), (.pointer p5), (.pointer p7), (.int .i64 (0))] TF.zero_44 TF.places_44 rfl rfl ?_)
 refine zbn s rfl rfl rfl fun k8 h9 s => ?_
 refine au 2 rfl ?_
 exact zr (s.imp fun _ q => ⟨_, rfl, q⟩)
theorem C_wire_New.of {B : RO} {h : Heap} {Q : Option Addr → Heap → Prop} (s : S_wire_New B h Q) : C_wire_New B h Q := by
 refine zspec Try.func40 [ResultVar.tmp 0] rfl rfl rfl rfl rfl ?_
 refine au 6 rfl ?_
 refine zg rfl (sem_buildSL [] [(.string ByteArray.empty), (.string ByteArray.empty), (.string ByteArray.empty), (.string ByteArray.empty), (.string ByteArray.empty), (.string ByteArray.empty), (.string ByteArray.empty), (.string ByteArray.empty), (.string ByteArray.empty)] TF.zero_160 TF.places_160 rfl rfl ?_)
 refine zbn s rfl rfl rfl fun k2 h3 s => ?_
 refine au 2 rfl ?_
 exact zr (s.imp fun _ q => ⟨_, rfl, q⟩)
theorem C_token_New.of {B : RO} {h : Heap} {Q : Option Addr → Heap → Prop} (s : S_token_New B h Q) : C_token_New B h Q := by
 refine zspec Try.func41 [ResultVar.tmp 0] rfl rfl rfl rfl rfl ?_
 refine au 6 rfl ?_
 refine zg rfl (sem_buildSL [(0, (.int .i64 ((-1)))), (2, (.int .i64 ((-1))))] [(.int .i64 ((-1))), (.bool false), (.int .i64 ((-1)))] TF.zero_126 TF.places_126 rfl rfl ?_)
 refine zbn s rfl rfl rfl fun k2 h3 s => ?_
 refine au 2 rfl ?_
 exact zr (s.imp fun _ q => ⟨_, rfl, q⟩)
theorem C_countermandref05_Told.of {B : RO} {s1 : ByteArray} {h : Heap} {Q : Int → ByteArray → Option Addr → Nat → Nat → Heap → Prop} (s : S_countermandref05_Told B s1 h Q) : C_countermandref05_Told B s1 h Q := by
 refine zspec Try.func42 [ResultVar.tmp 2, ResultVar.tmp 3, ResultVar.tmp 4] rfl rfl rfl rfl rfl ?_
 refine au 22 rfl ?_
 refine zcall s rfl rfl TF.goes_75 ?_
 rintro _ h7 ⟨a8, n9, c10, rfl, s⟩
 refine zg rfl (sem_lenSl a8 n9 c10 rfl TF.sl_35 ?_)
 refine au 3 rfl ?_
 obtain ⟨J21, m19, h0, s⟩ := s
 refine Run.of_fin (h0.imp fun h' h0 => ?_)
 refine Run.loop (σ := (Option Addr) × Nat × Nat × Int × ByteArray × Int × Nat) (fun x e h => J21 x.1 x.2.1 x.2.2.1 x.2.2.2.1 x.2.2.2.2.1 x.2.2.2.2.2.1 x.2.2.2.2.2.2 h ∧ Agree [(5, (.slice x.1 x.2.1 x.2.2.1)), (6, (.int .i64 (x.2.2.2.1))), (7, (.string x.2.2.2.2.1)), (13, (.slice a8 n9 c10)), (14, (.int .i64 ((n9 : Nat)))), (15, (.int .i64 (x.2.2.2.2.2.1)))] e) (fun x => x.2.2.2.2.2.2) (none, 0, 0, (0), (ByteArray.mk #[]), (0), m19) ⟨h0, ⟨rfl, rfl, rfl, rfl, rfl, rfl, trivial⟩⟩ ?_; clear h0
 rintro ⟨a11, n12, c13, i14, s15, i16, m18⟩ e h17 ⟨hJ, hag⟩ ih20
 have s := s a11 n12 c13 i14 s15 i16 m18 h17 hJ; clear hJ
 refine Run.env hag ?_; clear hag
 refine au 2 rfl ?_
 refine zt s rfl rfl rfl binI_lss_t binI_lss_f (fun s => ?_) fun s => ?_
 ·refine au 9 rfl ?_
  obtain ⟨A22, e23, hi0, hi1, s⟩ := s
  refine zg rfl (sem_indexAddrS A22 n9 c10 .i64 (i16) (congrArg (fun a => Value.slice a n9 c10) e23) rfl TF.slc_35 hi0 hi1 ?_)
  refine zl s rfl rfl TF.agg_9 fun s24 s => ?_
  refine au 7 rfl ?_
  refine zt s rfl rfl rfl binI_eql_t binI_eql_f (fun s => ?_) fun s => ?_
  ·refine au 2 rfl ?_
   refine Run.seqJ (fun e h26 => Agree [(5, (.slice a11 n12 c13)), (9, (.string s24)), (13, (.slice a8 n9 c10)), (14, (.int .i64 ((n9 : Nat)))), (15, (.int .i64 (i16)))] e ∧ S_countermandref05_Told_J1 B a8 n9 c10 a11 n12 c13 i16 m18 J21 s24 h26 Q) ?_ fun j25 => ?_
   ·rintro e h26 ⟨hag, s⟩
    refine Run.env hag ?_; clear hag
    refine au 3 rfl ?_
    obtain ⟨hi0, hi1, hi2, s⟩ := s
    refine zg rfl (sem_sliceStrI s24 (1) ((ByteArray.size s24 : Nat)) rfl TF.isStr_9 ⟨_, rfl⟩ rfl hi0 hi1 hi2 ?_)
    refine zcall s rfl rfl TF.goes_30 ?_
    rintro _ h27 ⟨i28, i29, rfl, s⟩
    refine au 6 rfl ?_
    refine Run.seqJ (fun e h31 => Agree [(5, (.slice a11 n12 c13)), (9, (.string s24)), (10, (.int .u64 (i28))), (11, (.int .i64 (i29))), (13, (.slice a8 n9 c10)), (14, (.int .i64 ((n9 : Nat)))), (15, (.int .i64 (i16)))] e ∧ S_countermandref05_Told_J2 B a8 n9 c10 a11 n12 c13 i16 m18 J21 s24 i28 i29 h31 Q) ?_ fun j30 => ?_
    ·rintro e h31 ⟨hag, s⟩
     refine Run.env hag ?_; clear hag
     refine au 3 rfl ?_
     refine zg rfl (sem_convI .u64 .i64 (i28) rfl TF.int_88 TF.int_3 ?_)
     refine au 7 rfl ?_
     obtain ⟨hi0, hi1, hi2, s⟩ := s
     refine zg rfl (sem_sliceStrI s24 (IntKind.wrap .i64 ((1) + (i29))) ((ByteArray.size s24 : Nat)) rfl TF.isStr_9 ⟨_, rfl⟩ rfl hi0 hi1 hi2 ?_)
     refine au 7 rfl ?_
     exact Run.of_fin (s.imp fun h' ⟨m', hm, s⟩ => ih20 (a11, n12, c13, (IntKind.wrap .i64 (i28)), (ByteArray.extract s24 (Int.toNat (IntKind.wrap .i64 ((1) + (i29)))) (Int.toNat ((ByteArray.size s24 : Nat)))), (IntKind.wrap .i64 ((i16) + (1))), m') _ _ ⟨s, ⟨rfl, rfl, rfl, rfl, rfl, rfl, trivial⟩⟩ hm)
    refine au 3 rfl ?_
    refine zt s rfl rfl rfl binI_eql_t binI_eql_f (fun s => ?_) fun s => ?_
    ·refine au 16 rfl ?_
     exact zr (s.imp fun _ q => ⟨_, _, _, _, _, rfl, q⟩)
    ·refine au 2 rfl ?_
     refine zt s rfl rfl rfl binI_eql_t binI_eql_f (fun s => ?_) fun s => ?_
     ·refine au 13 rfl ?_
      exact zr (s.imp fun _ q => ⟨_, _, _, _, _, rfl, q⟩)
     ·refine au 3 rfl ?_
      refine zt s rfl rfl rfl binI_gtr_t binI_gtr_f (fun s => ?_) fun s => ?_
      ·refine au 9 rfl ?_
       exact zr (s.imp fun _ q => ⟨_, _, _, _, _, rfl, q⟩)
      ·refine au 4 rfl ?_
       exact Run.of_fin (s.imp fun h' s => j30 _ _ ⟨⟨rfl, rfl, rfl, rfl, rfl, rfl, rfl, trivial⟩, s⟩)
   refine au 3 rfl ?_
   refine zg rfl (sem_lenStr s24 rfl TF.isStr_9 ?_)
   refine zt s rfl rfl rfl binI_eql_t binI_eql_f (fun s => ?_) fun s => ?_
   ·refine au 13 rfl ?_
    exact zr (s.imp fun _ q => ⟨_, _, _, _, _, rfl, q⟩)
   ·refine au 2 rfl ?_
    obtain ⟨hi0, hi1, s⟩ := s
    refine zg rfl (sem_indexStr' s24 .i64 (0) rfl rfl TF.isStr_9 hi0 hi1 ?_)
    refine zu s rfl rfl rfl binI_neq_t binI_neq_f (fun s => ?_) fun s => ?_
    ·refine au 4 rfl ?_
     exact Run.of_fin (s.imp fun h' s => j25 _ _ ⟨⟨rfl, rfl, rfl, rfl, rfl, trivial⟩, s⟩)
    ·refine au 9 rfl ?_
     exact zr (s.imp fun _ q => ⟨_, _, _, _, _, rfl, q⟩)
  ·refine au 3 rfl ?_
   refine Run.seqJ (fun e h33 => Agree [(5, (.slice a11 n12 c13)), (6, (.int .i64 (i14))), (7, (.string s15)), (9, (.string s24)), (13, (.slice a8 n9 c10)), (14, (.int .i64 ((n9 : Nat)))), (15, (.int .i64 (i16)))] e ∧ S_countermandref05_Told_J3 B a8 n9 c10 a11 n12 c13 i14 s15 i16 m18 J21 s24 h33 Q) ?_ fun j32 => ?_
   ·rintro e h33 ⟨hag, s⟩
    refine Run.env hag ?_; clear hag
    refine au 3 rfl ?_
    obtain ⟨hi0, hi1, hi2, s⟩ := s
    refine zg rfl (sem_sliceStrI s24 (1) ((ByteArray.size s24 : Nat)) rfl TF.isStr_9 ⟨_, rfl⟩ rfl hi0 hi1 hi2 ?_)
    refine zg rfl (sem_buildSliceL [(0, (.string (ByteArray.extract s24 (Int.toNat (1)) (Int.toNat ((ByteArray.size s24 : Nat))))))] [(.string (ByteArray.extract s24 (Int.toNat (1)) (Int.toNat ((ByteArray.size s24 : Nat)))))] TF.slc_35 TF.zero_9 rfl (by decide) (by decide) rfl rfl (fun k34 hb1 hb2 h35 hb3 => ?_))
    have s := s k34 hb1 hb2 h35 hb3
    refine zg rfl (sem_appendL [(.slice a11 n12 c13), (.slice (some ⟨k34, 0, none⟩) 1 1)] rfl (semH_mono (fun v h36 hv => ?_) s))
    obtain ⟨a37, n38, c39, rfl, s⟩ := hv
    refine au 7 rfl ?_
    exact Run.of_fin (s.imp fun h' ⟨m', hm, s⟩ => ih20 (a37, n38, c39, (i14), s15, (IntKind.wrap .i64 ((i16) + (1))), m') _ _ ⟨s, ⟨rfl, rfl, rfl, rfl, rfl, rfl, trivial⟩⟩ hm)
   refine au 3 rfl ?_
   refine zg rfl (sem_lenStr s24 rfl TF.isStr_9 ?_)
   refine zt s rfl rfl rfl binI_eql_t binI_eql_f (fun s => ?_) fun s => ?_
   ·refine au 17 rfl ?_
    exact zr (s.imp fun _ q => ⟨_, _, _, _, _, rfl, q⟩)
   ·refine au 2 rfl ?_
    obtain ⟨hi0, hi1, s⟩ := s
    refine zg rfl (sem_indexStr' s24 .i64 (0) rfl rfl TF.isStr_9 hi0 hi1 ?_)
    refine zu s rfl rfl rfl binI_neq_t binI_neq_f (fun s => ?_) fun s => ?_
    ·refine au 4 rfl ?_
     exact Run.of_fin (s.imp fun h' s => j32 _ _ ⟨⟨rfl, rfl, rfl, rfl, rfl, rfl, rfl, trivial⟩, s⟩)
    ·refine au 13 rfl ?_
     exact zr (s.imp fun _ q => ⟨_, _, _, _, _, rfl, q⟩)
 ·refine au 13 rfl ?_
  exact zr (s.imp fun _ q => ⟨_, _, _, _, _, rfl, q⟩)
theorem C_tome_Tome_Get.of {B : RO} {p1 : Option Addr} {i2 : Int} {h : Heap} {Q : Bool → ByteArray → Int → Heap → Prop} (s : S_tome_Tome_Get B p1 i2 h Q) : C_tome_Tome_Get B p1 i2 h Q := by
 refine zspec Try.func43 [ResultVar.cell 4 111, ResultVar.tmp 5] rfl rfl rfl rfl rfl ?_
 refine au 2 rfl ?_
 refine zal s rfl TF.zero_111 rfl fun k6 h7 s => ?_
 refine au 6 rfl ?_
 by_cases hb8 : p1 = none
 ·replace s := s.1 hb8
  refine zg rfl (sem_ptrNilT p1 (.inl rfl) true rfl rfl TF.ptr_41 hb8 rfl ?_)
  refine au 4 rfl ?_
  refine zg rfl (sem_buildSL [] [(.bool false), (.string ByteArray.empty)] TF.zero_111 TF.places_111 rfl rfl ?_)
  refine zsn s rfl rfl rfl TF.sz_111 rfl fun h9 s => ?_
  refine au 2 rfl ?_
  obtain ⟨b10, s11, hl0, s⟩ := s
  exact zr (⟨⟨k6, 0, none⟩, (.agg #[(.bool b10), (.string s11)]), rfl, loadHN TF.agg_111 TF.sz_111 hl0, s.imp fun _ q => ⟨_, _, _, rfl, q⟩⟩)
 ·replace s := s.2 hb8
  refine zg rfl (sem_ptrNilF p1 (.inl rfl) false rfl rfl TF.ptr_41 hb8 rfl ?_)
  refine au 6 rfl ?_
  refine znil s rfl rfl fun A12 s => ?_
  refine au 1 rfl ?_
  refine zl s rfl rfl TF.agg_162 fun p14 s => ?_
  refine au 1 rfl ?_
  refine zcall s rfl rfl TF.goes_76 ?_
  rintro _ h15 ⟨b16, s17, i18, rfl, s⟩
  refine au 2 rfl ?_
  refine zsn s rfl rfl rfl TF.sz_111 rfl fun h19 s => ?_
  refine au 2 rfl ?_
  obtain ⟨b20, s21, hl0, s⟩ := s
  exact zr (⟨⟨k6, 0, none⟩, (.agg #[(.bool b20), (.string s21)]), rfl, loadHN TF.agg_111 TF.sz_111 hl0, s.imp fun _ q => ⟨_, _, _, rfl, q⟩⟩)
theorem C_slices_Clone_s_world_Note_world_Note.of {B : RO} {a1 : Option Addr} {n2 : Nat} {c3 : Nat} {h : Heap} {Q : Option Addr → Nat → Nat → Heap → Prop} (s : S_slices_Clone_s_world_Note_world_Note B a1 n2 c3 h Q) : C_slices_Clone_s_world_Note_world_Note B a1 n2 c3 h Q := by
 refine zspec Try.func44 [ResultVar.tmp 2] rfl rfl rfl rfl rfl ?_
 refine au 8 rfl ?_
 by_cases hb7 : a1 = none
 ·replace s := s.1 hb7
  refine zg rfl (sem_slNilT (a1) (n2) (c3) (.inl rfl) true rfl rfl TF.sl_49 hb7 rfl ?_)
  refine au 6 rfl ?_
  exact zr (s.imp fun _ q => ⟨_, _, _, rfl, q⟩)
 ·replace s := s.2 hb7
  refine zg rfl (sem_slNilF (a1) (n2) (c3) (.inl rfl) false rfl rfl TF.sl_49 hb7 rfl ?_)
  refine au 5 rfl ?_
  refine zg rfl (sem_buildSlice0N TF.slc_49 (fun k8 hb1 hb2 h9 hb3 => ?_))
  have s := s k8 hb1 hb2 h9 hb3
  refine au 1 rfl ?_
  refine zg rfl (sem_appendL [(.slice (some ⟨k8, 0, none⟩) 0 0), (.slice a1 n2 c3)] rfl (semH_mono (fun v h10 hv => ?_) s))
  obtain ⟨a11, n12, c13, rfl, s⟩ := hv
  refine au 2 rfl ?_
  exact zr (s.imp fun _ q => ⟨_, _, _, rfl, q⟩)
theorem C_disk_Disk_land.of {B : RO} {p1 : Option Addr} {i2 : Int} {b3 : Bool} {s4 : ByteArray} {h : Heap} {Q : Heap → Prop} (s : S_disk_Disk_land B p1 i2 b3 s4 h Q) : C_disk_Disk_land B p1 i2 b3 s4 h Q := by
 refine zspec Try.func45 [] rfl rfl rfl rfl rfl ?_
 refine au 2 rfl ?_
 refine zbn s rfl rfl rfl fun k5 h6 s => ?_
 refine au 4 rfl ?_
 refine zl s rfl rfl TF.agg_4 fun b7 s => ?_
 cases b7
 ·replace s := s.2 rfl
  refine au 2 rfl ?_
  refine Run.drawM (fun h' => h' = h6) [15] ⟨[0, 0, 2, 1, 8, 20, 32, 64, 0, 256, 640, 1, 2048, 6143, 10239, 18431], [65535, 65535, 65533, 65534, 65527, 65515, 65503, 65471, 65535, 65279, 64895, 65534, 63487, 61435, 57343, 48127], [0, 0, 2, 1, 9, 31, 63, 127, 0, 256, 1023, 1, 2049, 8191, 16383, 32767], 32768⟩ (.q 0 (.q 1 (.q 2 (.q 3 (.q 4 (.q 5 (.q 6 (.q 7 (.q 8 (.q 9 (.q 10 (.q 11 (.q 12 (.q 13 (.q 14 (.x 15 .nil .no)))))))))))))))) TF.mixed (by kernel_rfl) rfl ?_
  refine auT 2 rfl ?_
  obtain ⟨i8, hl, s⟩ := s
  refine zqe rfl (sem_load1 ⟨k5, 0, none⟩ ((.int .i64 (i8))) rfl TF.agg_3 hl ⟨rfl, rfl⟩) ?_
  obtain ⟨A9, e10, s⟩ := s
  refine zqe rfl (sem_nilCheck A9 (congrArg Value.pointer e10) ⟨rfl, rfl⟩) ?_
  refine auT 1 rfl ?_
  obtain ⟨hi0, hi1, s⟩ := s
  refine zqe rfl (sem_indexAddrA A9 .i64 (i8) rfl rfl TF.arr_82 hi0 hi1 ⟨rfl, rfl⟩) ?_
  refine auT 1 rfl ?_
  obtain ⟨s11, hl, s⟩ := s
  refine zqe rfl (sem_load1 (Addr.add (Addr.add A9 (Int.toNat (i8) * 2)) 1) ((.string s11)) rfl TF.agg_9 hl ⟨rfl, rfl⟩) ?_
  refine auT 1 rfl ?_
  obtain ⟨s12, hl, s⟩ := s
  refine zqe rfl (sem_load1 ⟨k5, 2, none⟩ ((.string s12)) rfl TF.agg_9 hl ⟨rfl, rfl⟩) ?_
  obtain ⟨hi0, s⟩ := s
  refine zqe rfl (sem_strAdd s11 s12 rfl rfl hi0 ⟨rfl, rfl⟩) ?_
  obtain ⟨A13, e14, s⟩ := s
  refine zqe rfl (sem_nilCheck A13 (congrArg Value.pointer e14) ⟨rfl, rfl⟩) ?_
  refine auT 1 rfl ?_
  obtain ⟨hi0, hi1, s⟩ := s
  refine zqe rfl (sem_indexAddrA A13 .i64 (i8) rfl rfl TF.arr_82 hi0 hi1 ⟨rfl, rfl⟩) ?_
  refine auT 1 rfl ?_
  obtain ⟨h15, hst, s⟩ := s
  refine ⟨zo0 rfl (sem_store1 (Addr.add (Addr.add A13 (Int.toNat (i8) * 2)) 1) ((.string (s11 ++ s12))) h15 rfl rfl rfl TF.sz_9 hst ?_), trivial⟩
  refine ⟨fun hz => Bool.noConfusion hz, ?_⟩
  exact zf (s.imp fun _ q => ⟨rfl, q⟩)
 ·replace s := s.1 rfl
  refine au 2 rfl ?_
  refine Run.drawM (fun h' => h' = h6) [7] ⟨[0, 0, 2, 1, 8, 23, 39, 71], [255, 255, 253, 254, 247, 235, 223, 191], [0, 0, 2, 1, 9, 31, 63, 127], 128⟩ (.q 0 (.q 1 (.q 2 (.q 3 (.q 4 (.q 5 (.q 6 (.x 7 .nil .no)))))))) TF.mixed (by kernel_rfl) rfl ?_
  refine auT 2 rfl ?_
  obtain ⟨i16, hl, s⟩ := s
  refine zqe rfl (sem_load1 ⟨k5, 0, none⟩ ((.int .i64 (i16))) rfl TF.agg_3 hl ⟨rfl, rfl⟩) ?_
  obtain ⟨A17, e18, s⟩ := s
  refine zqe rfl (sem_nilCheck A17 (congrArg Value.pointer e18) ⟨rfl, rfl⟩) ?_
  refine auT 1 rfl ?_
  obtain ⟨hi0, hi1, s⟩ := s
  refine zqe rfl (sem_indexAddrA A17 .i64 (i16) rfl rfl TF.arr_82 hi0 hi1 ⟨rfl, rfl⟩) ?_
  refine auT 1 rfl ?_
  obtain ⟨h19, hst, s⟩ := s
  refine ⟨zo0 rfl (sem_store1 (Addr.add (Addr.add A17 (Int.toNat (i16) * 2)) 1) ((.string (ByteArray.mk #[]))) h19 rfl rfl rfl TF.sz_9 hst ?_), trivial⟩
  refine ⟨fun hz => Bool.noConfusion hz, ?_⟩
  exact zf (s.imp fun _ q => ⟨rfl, q⟩)
end Go.Proofs.Ytlehephbflgblaa.H
namespace Go.Proofs.Ytlehephbflgblaa.H
open Go
set_option linter.unusedVariables false
set_option maxRecDepth 100000
set_option maxHeartbeats 4000000
theorem C_countermandref01_Wide.of {B : RO} {i1 : Int} {h : Heap} {Q : ByteArray → Heap → Prop} (s : S_countermandref01_Wide B i1 h Q) : C_countermandref01_Wide B i1 h Q := by
 refine zspec Try.func52 [ResultVar.tmp 2] rfl rfl rfl rfl rfl ?_
 refine au 8 rfl ?_
 refine Run.seqJ (fun e h6 => ∃ i4 : Int, ∃ s5 : ByteArray, Agree [(0, (.int .u64 (i4))), (3, (.string s5))] e ∧ S_countermandref01_Wide_J1 B i4 s5 h6 Q) ?_ fun j3 => ?_
 ·rintro e h6 ⟨i4, s5, hag, s⟩
  refine Run.env hag ?_; clear hag
  refine au 4 rfl ?_
  refine zg rfl (sem_convI .u64 .u8 (i4) rfl TF.int_88 TF.int_5 ?_)
  refine zg rfl (sem_buildSliceL [(0, (.int .u8 (IntKind.wrap .u8 (i4))))] [(.int .u8 (IntKind.wrap .u8 (i4)))] TF.slc_63 TF.zero_5 rfl (by decide) (by decide) rfl rfl (fun k7 hb1 hb2 h8 hb3 => ?_))
  have s := s k7 hb1 hb2 h8 hb3
  refine zg rfl (sem_convW ((.slice (some ⟨k7, 0, none⟩) 1 1)) rfl (semH_mono (fun v h10 hv => ?_) s))
  obtain ⟨s9, rfl, s⟩ := hv
  obtain ⟨hi0, s⟩ := s
  refine zg rfl (sem_strAdd s5 s9 rfl rfl hi0 ?_)
  refine au 2 rfl ?_
  exact zr (s.imp fun _ q => ⟨_, rfl, q⟩)
 refine au 1 rfl ?_
 obtain ⟨J17, m15, h0, s⟩ := s
 refine Run.of_fin (h0.imp fun h' h0 => ?_)
 refine Run.loop (σ := Int × ByteArray × Nat) (fun x e h => J17 x.1 x.2.1 x.2.2 h ∧ Agree [(0, (.int .u64 (x.1))), (3, (.string x.2.1))] e) (fun x => x.2.2) ((i1), (ByteArray.mk #[]), m15) ⟨h0, ⟨rfl, rfl, trivial⟩⟩ ?_; clear h0
 rintro ⟨i11, s12, m14⟩ e h13 ⟨hJ, hag⟩ ih16
 have s := s i11 s12 m14 h13 hJ; clear hJ
 refine Run.env hag ?_; clear hag
 refine au 4 rfl ?_
 refine zt s rfl rfl rfl binI_gtr_t binI_gtr_f (fun s => ?_) fun s => ?_
 ·refine au 8 rfl ?_
  obtain ⟨hi0, s⟩ := s
  refine zg rfl (sem_binI .u64 (i11) (128) ((.int .u64 (Int.tmod (i11) (128)))) rfl rfl (binI_rem hi0) ?_)
  refine au 1 rfl ?_
  refine zg rfl (sem_convI .u64 .u8 (IntKind.wrap .u64 ((128) + (Int.tmod (i11) (128)))) rfl TF.int_88 TF.int_5 ?_)
  refine zg rfl (sem_buildSliceL [(0, (.int .u8 (IntKind.wrap .u8 (IntKind.wrap .u64 ((128) + (Int.tmod (i11) (128)))))))] [(.int .u8 (IntKind.wrap .u8 (IntKind.wrap .u64 ((128) + (Int.tmod (i11) (128))))))] TF.slc_63 TF.zero_5 rfl (by decide) (by decide) rfl rfl (fun k18 hb1 hb2 h19 hb3 => ?_))
  have s := s k18 hb1 hb2 h19 hb3
  refine zg rfl (sem_convW ((.slice (some ⟨k18, 0, none⟩) 1 1)) rfl (semH_mono (fun v h21 hv => ?_) s))
  obtain ⟨s20, rfl, s⟩ := hv
  obtain ⟨hi0, s⟩ := s
  refine zg rfl (sem_strAdd s12 s20 rfl rfl hi0 ?_)
  refine au 4 rfl ?_
  obtain ⟨hi0, s⟩ := s
  refine zg rfl (sem_binI .u64 (i11) (128) ((.int .u64 (IntKind.wrap .u64 (Int.tdiv (i11) (128))))) rfl rfl (binI_quo hi0) ?_)
  refine au 3 rfl ?_
  exact Run.of_fin (s.imp fun h' ⟨m', hm, s⟩ => ih16 ((IntKind.wrap .u64 (Int.tdiv (i11) (128))), (s12 ++ s20), m') _ _ ⟨s, ⟨rfl, rfl, trivial⟩⟩ hm)
 ·refine au 3 rfl ?_
  exact Run.of_fin (s.imp fun h' s => j3 _ _ ⟨(i11), s12, ⟨rfl, rfl, trivial⟩, s⟩)
theorem C_countermandref18_nat.of {B : RO} {s1 : ByteArray} {i2 : Int} {h : Heap} {Q : Int → ByteArray → Bool → Heap → Prop} (s : S_countermandref18_nat B s1 i2 h Q) : C_countermandref18_nat B s1 i2 h Q := by
 refine zspec Try.func53 [ResultVar.tmp 4, ResultVar.tmp 5, ResultVar.tmp 6] rfl rfl rfl rfl rfl ?_
 refine au 9 rfl ?_
 refine zcall s rfl rfl TF.goes_30 ?_
 rintro _ h6 ⟨i7, i8, rfl, s⟩
 refine au 6 rfl ?_
 refine Run.seqJ (fun e h10 => Agree [(0, (.string s1)), (7, (.int .u64 (i7))), (8, (.int .i64 (i8)))] e ∧ S_countermandref18_nat_J1 B s1 i7 i8 h10 Q) ?_ fun j9 => ?_
 ·rintro e h10 ⟨hag, s⟩
  refine Run.env hag ?_; clear hag
  refine au 1 rfl ?_
  refine Run.drawM (fun h' => h' = h10) [] ⟨[0, 1, 0, 0, 12, 3, 63, 127], [255, 254, 255, 255, 243, 253, 239, 255], [0, 0, 0, 0, 0, 0, 0, 0], 0⟩ (.q 0 (.q 1 (.q 2 (.q 3 (.q 4 (.q 5 (.q 6 (.q 7 .nil)))))))) TF.mixed (by kernel_rfl) rfl ?_
  refine auT 1 rfl ?_
  refine zqe rfl (sem_convI .u64 .i64 (i7) rfl TF.int_88 TF.int_3 ⟨rfl, rfl⟩) ?_
  refine auT 2 rfl ?_
  obtain ⟨hi0, hi1, hi2, s⟩ := s
  refine zqe rfl (sem_sliceStrI s1 (i8) ((ByteArray.size s1 : Nat)) rfl TF.isStr_9 ⟨_, rfl⟩ rfl hi0 hi1 hi2 ⟨rfl, rfl⟩) ?_
  refine auT 3 rfl ?_
  exact zr (s.imp fun _ q => ⟨_, _, _, rfl, q⟩)
 refine au 3 rfl ?_
 refine zt s rfl rfl rfl binI_eql_t binI_eql_f (fun s => ?_) fun s => ?_
 ·refine au 13 rfl ?_
  exact zr (s.imp fun _ q => ⟨_, _, _, rfl, q⟩)
 ·refine au 3 rfl ?_
  refine zt s rfl rfl rfl binI_gtr_t binI_gtr_f (fun s => ?_) fun s => ?_
  ·refine au 9 rfl ?_
   exact zr (s.imp fun _ q => ⟨_, _, _, rfl, q⟩)
  ·refine au 4 rfl ?_
   exact Run.of_fin (s.imp fun h' s => j9 _ _ ⟨⟨rfl, rfl, rfl, trivial⟩, s⟩)
theorem C_wal_Open.of {B : RO} {p1 : Option Addr} {i2 : Int} {h : Heap} {Q : Option Addr → Int → Heap → Prop} (s : S_wal_Open B p1 i2 h Q) : C_wal_Open B p1 i2 h Q := by
 refine zspec Try.func54 [ResultVar.tmp 4, ResultVar.tmp 5] rfl rfl rfl rfl rfl ?_
 refine au 5 rfl ?_
 refine Run.seqJ (fun e h6 => Agree [(0, (.pointer p1)), (1, (.int .i64 (i2)))] e ∧ S_wal_Open_J1 B p1 i2 h6 Q) ?_ fun j5 => ?_
 ·rintro e h6 ⟨hag, s⟩
  refine Run.env hag ?_; clear hag
  refine au 4 rfl ?_
  refine zcall s rfl rfl TF.goes_80 ?_
  rintro _ h7 ⟨s8, rfl, s⟩
  refine au 5 rfl ?_
  refine zcall s rfl rfl TF.goes_81 ?_
  rintro _ h9 ⟨i10, rfl, s⟩
  refine au 9 rfl ?_
  refine zg rfl (sem_lenStr s8 rfl TF.isStr_9 ?_)
  refine au 1 rfl ?_
  refine zg rfl (sem_buildSL [(0, (.pointer p1)), (1, (.int .i64 (i2))), (2, (.int .i64 (i10))), (3, (.bool (decide ((i10 : Int) < ((ByteArray.size s8 : Nat))))))] [(.pointer p1), (.int .i64 (i2)), (.int .i64 (i10)), (.bool (decide ((i10 : Int) < ((ByteArray.size s8 : Nat)))))] TF.zero_171 TF.places_171 rfl rfl ?_)
  refine zbn s rfl rfl rfl fun k11 h12 s => ?_
  refine au 3 rfl ?_
  exact zr (s.imp fun _ q => ⟨_, _, rfl, q⟩)
 refine au 4 rfl ?_
 by_cases hb13 : p1 = none
 ·replace s := s.1 hb13
  refine zg rfl (sem_ptrNilT p1 (.inl rfl) true rfl rfl TF.ptr_23 hb13 rfl ?_)
  refine au 8 rfl ?_
  exact zr (s.imp fun _ q => ⟨_, _, rfl, q⟩)
 ·replace s := s.2 hb13
  refine zg rfl (sem_ptrNilF p1 (.inl rfl) false rfl rfl TF.ptr_23 hb13 rfl ?_)
  refine au 6 rfl ?_
  refine zu s rfl rfl rfl binI_neq_t binI_neq_f (fun s => ?_) fun s => ?_
  ·refine au 9 rfl ?_
   exact Run.of_fin (s.imp fun h' s => j5 _ _ ⟨⟨rfl, rfl, trivial⟩, s⟩)
  ·refine au 2 rfl ?_
   refine zu s rfl rfl rfl binI_neq_t binI_neq_f (fun s => ?_) fun s => ?_
   ·refine au 6 rfl ?_
    exact Run.of_fin (s.imp fun h' s => j5 _ _ ⟨⟨rfl, rfl, trivial⟩, s⟩)
   ·refine au 9 rfl ?_
    exact zr (s.imp fun _ q => ⟨_, _, rfl, q⟩)
theorem C_vault_look.of {B : RO} {p1 : Option Addr} {h : Heap} {Q : Int → ByteArray → Option Addr → Nat → Nat → Heap → Prop} (s : S_vault_look B p1 h Q) : C_vault_look B p1 h Q := by
 refine zspec Try.func55 [ResultVar.cell 2 3, ResultVar.cell 3 99] rfl rfl rfl rfl rfl ?_
 refine au 2 rfl ?_
 refine zal s rfl TF.zero_3 rfl fun k7 h8 s => ?_
 refine zal s rfl TF.zero_99 rfl fun k9 h10 s => ?_
 refine au 3 rfl ?_
 refine zal s rfl TF.zero_99 rfl fun k11 h12 s => ?_
 refine au 3 rfl ?_
 refine zal s rfl TF.zero_3 rfl fun k13 h14 s => ?_
 refine zal s rfl TF.zero_3 rfl fun k15 h16 s => ?_
 refine zs1 s rfl rfl rfl rfl TF.sz_3 fun h17 s => ?_
 refine zs1 s rfl rfl rfl rfl TF.sz_3 fun h18 s => ?_
 refine au 5 rfl ?_
 refine zcall s rfl rfl TF.goes_82 ?_
 rintro v20 h19 ⟨_, rfl, s⟩
 refine au 2 rfl ?_
 obtain ⟨xs26, G22, J25, hit, hins, hG, h0, s, hR⟩ := s
 refine Run.of_fin (h0.imp fun h' h0 => ?_)
 refine Run.range (v20) (xs26.map (fun x : ByteArray => [(.string x)])) G22 J25 rfl hit hins hG h0 rfl (fun a ha => by obtain ⟨x, _, rfl⟩ := List.mem_map.1 ha; rfl) ?_ ?_
 ·rintro q24 args h23 ha hJ
  obtain ⟨s21, hx, rfl⟩ := Option.map_eq_some_iff.1 ((List.getElem?_map ..).symm.trans ha)
  have s := s q24 h23 s21 hx hJ; clear hJ hx ha
  refine zput rfl ?_
  refine au 3 rfl ?_
  refine Run.begin ⟨rfl, ?_⟩
  refine au 4 rfl ?_
  refine zl s rfl rfl TF.agg_3 fun i27 s => ?_
  refine au 1 rfl ?_
  refine zs1 s rfl rfl rfl rfl TF.sz_3 fun h28 s => ?_
  refine au 3 rfl ?_
  refine zl s rfl rfl TF.agg_3 fun i29 s => ?_
  refine zt s rfl rfl rfl binI_eql_t binI_eql_f (fun s => ?_) fun s => ?_
  ·refine au 5 rfl ?_
   refine zcall s rfl rfl TF.goes_83 ?_
   rintro _ h30 ⟨i31, s32, b33, rfl, s⟩
   refine au 3 rfl ?_
   cases b33
   ·replace s := s.2 rfl
    refine au 1 rfl ?_
    refine au 13 rfl ?_
    refine zg rfl (sem_buildSL [] [(.string ByteArray.empty), (.slice none 0 0)] TF.zero_99 TF.places_99 rfl rfl ?_)
    refine zs1 s rfl rfl rfl rfl TF.sz_3 fun h34 s => ?_
    refine zsn s rfl rfl rfl TF.sz_99 rfl fun h35 s => ?_
    refine au 1 rfl ?_
    refine Run.ret (.inr ⟨_, rfl, ?_⟩)
    obtain ⟨i36, hl0, s⟩ := s
    obtain ⟨s37, a38, n39, c40, hl1, s⟩ := s
    exact zr (⟨⟨k7, 0, none⟩, (.int .i64 (i36)), rfl, loadH1 TF.agg_3 hl0, ⟨⟨k9, 0, none⟩, (.agg #[(.string s37), (.slice a38 n39 c40)]), rfl, loadHN TF.agg_99 TF.sz_99 hl1, s.imp fun _ q => ⟨_, _, _, _, _, rfl, q⟩⟩⟩)
   ·replace s := s.1 rfl
    refine au 1 rfl ?_
    refine au 16 rfl ?_
    refine zs1 s rfl rfl rfl rfl TF.sz_3 fun h41 s => ?_
    refine au 1 rfl ?_
    refine zs1 s rfl rfl rfl rfl TF.sz_9 fun h42 s => ?_
    refine au 2 rfl ?_
    refine Run.of_fin (s.imp fun h' s => ?_)
    exact Run.fall (.inl ⟨rfl, s⟩)
  ·refine au 3 rfl ?_
   refine Run.seqJ (fun e h44 => Agree [(4, (.pointer (some ⟨k11, 0, none⟩))), (7, (.string s21))] e ∧ S_vault_look_J1 B k11 s21 q24 J25 h44 Q) ?_ fun j43 => ?_
   ·rintro e h44 ⟨hag, s⟩
    refine Run.env hag ?_; clear hag
    obtain ⟨a46, n47, c48, hl, s⟩ := s
    have f49 := hl
    obtain ⟨hi0, hi1, hi2, s⟩ := s
    have f52 := hi0; have f53 := hi1; have f54 := hi2
    refine Run.drawM (fun h' => cellH B h' ⟨k11, 1, none⟩ = some (.slice a46 n47 c48) ∧ True) [7] ⟨[0, 1, 0, 4, 8, 18, 63, 127], [255, 254, 255, 251, 247, 237, 255, 159], [0, 1, 0, 4, 12, 31, 63, 127], 128⟩ (.q 0 (.q 1 (.q 2 (.q 3 (.x 4 (.x 5 (.q 6 (.x 7 .nil .no)) .no) .no))))) TF.mixed (by kernel_rfl) ⟨f49, trivial⟩ ?_
    refine auT 1 rfl ?_
    refine zq rfl (fun _ hC => sem_load1 ⟨k11, 1, none⟩ ((.slice a46 n47 c48)) rfl TF.agg_35 hC.1 ⟨rfl, rfl⟩) ?_
    refine auT 1 rfl ?_
    refine zq rfl (fun _ hC => sem_sliceStrI s21 (1) ((ByteArray.size s21 : Nat)) rfl TF.isStr_9 ⟨_, rfl⟩ rfl f52 f53 f54 ⟨rfl, rfl⟩) ?_
    refine ⟨zo rfl (sem_buildSliceL [(0, (.string (ByteArray.extract s21 (Int.toNat (1)) (Int.toNat ((ByteArray.size s21 : Nat))))))] [(.string (ByteArray.extract s21 (Int.toNat (1)) (Int.toNat ((ByteArray.size s21 : Nat)))))] TF.slc_35 TF.zero_9 rfl (by decide) (by decide) rfl rfl (fun k55 hb1 hb2 h56 hb3 => ?_)), trivial⟩
    have s := s k55 hb1 hb2 h56 hb3
    obtain ⟨g57, s⟩ := s
    refine ⟨fun _ => ⟨g57, trivial⟩, ?_⟩
    refine ⟨zo rfl (sem_appendL [(.slice a46 n47 c48), (.slice (some ⟨k55, 0, none⟩) 1 1)] rfl (semH_mono (fun v h58 hv => ?_) s)), trivial⟩
    obtain ⟨a59, n60, c61, rfl, s⟩ := hv
    obtain ⟨g62, s⟩ := s
    refine ⟨fun _ => ⟨g62, trivial⟩, ?_⟩
    refine auT 1 rfl ?_
    obtain ⟨h63, hst, s⟩ := s
    refine ⟨zo0 rfl (sem_store1 ⟨k11, 1, none⟩ ((.slice a59 n60 c61)) h63 rfl rfl rfl TF.sz_35 hst ?_), trivial⟩
    refine ⟨fun hz => Bool.noConfusion hz, ?_⟩
    refine au 1 rfl ?_
    refine Run.of_fin (s.imp fun h' s => ?_)
    exact Run.fall (.inl ⟨rfl, s⟩)
   refine au 3 rfl ?_
   by_cases hb64 : s21 = (ByteArray.mk #[])
   ·replace s := s.1 hb64
    refine zg rfl (sem_strEqT s21 (ByteArray.mk #[]) rfl rfl hb64 ?_)
    refine au 7 rfl ?_
    refine Run.out rfl (.inr ⟨_, rfl, ?_⟩)
    refine au 2 rfl ?_
    obtain ⟨i65, hl, s⟩ := s
    have f66 := hl
    obtain ⟨s67, a68, n69, c70, hl, s⟩ := s
    have f71 := hl
    refine Run.drawM (fun h' => cellH B h' ⟨k13, 0, none⟩ = some (.int .i64 (i65)) ∧ CellsAt B h' ⟨k11, 0, none⟩ 0 [(.string s67), (.slice a68 n69 c70)] ∧ True) [3] ⟨[0, 0, 1, 7], [15, 15, 14, 13], [0, 0, 1, 7], 8⟩ (.q 0 (.q 1 (.x 2 (.x 3 .nil .no) .no))) TF.mixed (by kernel_rfl) ⟨f66, f71, trivial⟩ ?_
    refine zq rfl (fun _ hC => sem_load1 ⟨k13, 0, none⟩ ((.int .i64 (i65))) rfl TF.agg_3 hC.1 ⟨rfl, rfl⟩) ?_
    refine zq rfl (fun _ hC => sem_loadN ⟨k11, 0, none⟩ [(.string s67), (.slice a68 n69 c70)] rfl TF.agg_99 TF.sz_99 hC.2.1 ⟨rfl, rfl⟩) ?_
    obtain ⟨h72, hst, s⟩ := s
    refine ⟨zo0 rfl (sem_store1 ⟨k7, 0, none⟩ ((.int .i64 (i65))) h72 rfl rfl rfl TF.sz_3 hst ?_), trivial⟩
    obtain ⟨g73, g74, s⟩ := s
    refine ⟨fun _ => ⟨g73, g74, trivial⟩, ?_⟩
    obtain ⟨h75, hst, s⟩ := s
    refine ⟨zo0 rfl (sem_storeN ⟨k9, 0, none⟩ [(.string s67), (.slice a68 n69 c70)] h75 rfl rfl TF.sz_99 hst ?_), trivial⟩
    refine ⟨fun hz => Bool.noConfusion hz, ?_⟩
    obtain ⟨i76, hl0, s⟩ := s
    obtain ⟨s77, a78, n79, c80, hl1, s⟩ := s
    exact zr (⟨⟨k7, 0, none⟩, (.int .i64 (i76)), rfl, loadH1 TF.agg_3 hl0, ⟨⟨k9, 0, none⟩, (.agg #[(.string s77), (.slice a78 n79 c80)]), rfl, loadHN TF.agg_99 TF.sz_99 hl1, s.imp fun _ q => ⟨_, _, _, _, _, rfl, q⟩⟩⟩)
   ·replace s := s.2 hb64
    refine zg rfl (sem_strEqF s21 (ByteArray.mk #[]) rfl rfl hb64 ?_)
    refine au 2 rfl ?_
    obtain ⟨hi0, hi1, s⟩ := s
    refine zg rfl (sem_indexStr' s21 .i64 (0) rfl rfl TF.isStr_9 hi0 hi1 ?_)
    refine zu s rfl rfl rfl binI_neq_t binI_neq_f (fun s => ?_) fun s => ?_
    ·refine au 4 rfl ?_
     exact Run.of_fin (s.imp fun h' s => j43 _ _ ⟨⟨rfl, rfl, trivial⟩, s⟩)
    ·refine au 3 rfl ?_
     refine Run.out rfl (.inr ⟨_, rfl, ?_⟩)
     refine au 2 rfl ?_
     obtain ⟨i81, hl, s⟩ := s
     have f82 := hl
     obtain ⟨s83, a84, n85, c86, hl, s⟩ := s
     have f87 := hl
     refine Run.drawM (fun h' => cellH B h' ⟨k13, 0, none⟩ = some (.int .i64 (i81)) ∧ CellsAt B h' ⟨k11, 0, none⟩ 0 [(.string s83), (.slice a84 n85 c86)] ∧ True) [3] ⟨[0, 0, 1, 7], [15, 15, 14, 13], [0, 0, 1, 7], 8⟩ (.q 0 (.q 1 (.x 2 (.x 3 .nil .no) .no))) TF.mixed (by kernel_rfl) ⟨f82, f87, trivial⟩ ?_
     refine zq rfl (fun _ hC => sem_load1 ⟨k13, 0, none⟩ ((.int .i64 (i81))) rfl TF.agg_3 hC.1 ⟨rfl, rfl⟩) ?_
     refine zq rfl (fun _ hC => sem_loadN ⟨k11, 0, none⟩ [(.string s83), (.slice a84 n85 c86)] rfl TF.agg_99 TF.sz_99 hC.2.1 ⟨rfl, rfl⟩) ?_
     obtain ⟨h88, hst, s⟩ := s
     refine ⟨zo0 rfl (sem_store1 ⟨k7, 0, none⟩ ((.int .i64 (i81))) h88 rfl rfl rfl TF.sz_3 hst ?_), trivial⟩
     obtain ⟨g89, g90, s⟩ := s
     refine ⟨fun _ => ⟨g89, g90, trivial⟩, ?_⟩
     obtain ⟨h91, hst, s⟩ := s
     refine ⟨zo0 rfl (sem_storeN ⟨k9, 0, none⟩ [(.string s83), (.slice a84 n85 c86)] h91 rfl rfl TF.sz_99 hst ?_), trivial⟩
     refine ⟨fun hz => Bool.noConfusion hz, ?_⟩
     obtain ⟨i92, hl0, s⟩ := s
     obtain ⟨s93, a94, n95, c96, hl1, s⟩ := s
     exact zr (⟨⟨k7, 0, none⟩, (.int .i64 (i92)), rfl, loadH1 TF.agg_3 hl0, ⟨⟨k9, 0, none⟩, (.agg #[(.string s93), (.slice a94 n95 c96)]), rfl, loadHN TF.agg_99 TF.sz_99 hl1, s.imp fun _ q => ⟨_, _, _, _, _, rfl, q⟩⟩⟩)
 ·intro h23 hJ
  have s := hR h23 (by simpa using hJ); clear hJ hR
  refine au 2 rfl ?_
  obtain ⟨i97, hl, s⟩ := s
  have f98 := hl
  obtain ⟨s99, a100, n101, c102, hl, s⟩ := s
  have f103 := hl
  refine Run.drawM (fun h' => cellH B h' ⟨k13, 0, none⟩ = some (.int .i64 (i97)) ∧ CellsAt B h' ⟨k11, 0, none⟩ 0 [(.string s99), (.slice a100 n101 c102)] ∧ True) [3] ⟨[0, 0, 1, 7], [15, 15, 14, 13], [0, 0, 1, 7], 8⟩ (.q 0 (.q 1 (.x 2 (.x 3 .nil .no) .no))) TF.mixed (by kernel_rfl) ⟨f98, f103, trivial⟩ ?_
  refine zq rfl (fun _ hC => sem_load1 ⟨k13, 0, none⟩ ((.int .i64 (i97))) rfl TF.agg_3 hC.1 ⟨rfl, rfl⟩) ?_
  refine zq rfl (fun _ hC => sem_loadN ⟨k11, 0, none⟩ [(.string s99), (.slice a100 n101 c102)] rfl TF.agg_99 TF.sz_99 hC.2.1 ⟨rfl, rfl⟩) ?_
  obtain ⟨h104, hst, s⟩ := s
  refine ⟨zo0 rfl (sem_store1 ⟨k7, 0, none⟩ ((.int .i64 (i97))) h104 rfl rfl rfl TF.sz_3 hst ?_), trivial⟩
  obtain ⟨g105, g106, s⟩ := s
  refine ⟨fun _ => ⟨g105, g106, trivial⟩, ?_⟩
  obtain ⟨h107, hst, s⟩ := s
  refine ⟨zo0 rfl (sem_storeN ⟨k9, 0, none⟩ [(.string s99), (.slice a100 n101 c102)] h107 rfl rfl TF.sz_99 hst ?_), trivial⟩
  refine ⟨fun hz => Bool.noConfusion hz, ?_⟩
  obtain ⟨i108, hl0, s⟩ := s
  obtain ⟨s109, a110, n111, c112, hl1, s⟩ := s
  exact zr (⟨⟨k7, 0, none⟩, (.int .i64 (i108)), rfl, loadH1 TF.agg_3 hl0, ⟨⟨k9, 0, none⟩, (.agg #[(.string s109), (.slice a110 n111 c112)]), rfl, loadHN TF.agg_99 TF.sz_99 hl1, s.imp fun _ q => ⟨_, _, _, _, _, rfl, q⟩⟩⟩)
theorem C_tome_New.of {B : RO} {h : Heap} {Q : Option Addr → Heap → Prop} (s : S_tome_New B h Q) : C_tome_New B h Q := by
 refine zspec Try.func56 [ResultVar.tmp 0] rfl rfl rfl rfl rfl ?_
 refine au 6 rfl ?_
 refine zg rfl (sem_buildSL [] [(.bool false), (.string ByteArray.empty)] TF.zero_111 TF.places_111 rfl rfl ?_)
 refine zcall s rfl rfl TF.goes_84 ?_
 rintro _ h2 ⟨p3, rfl, s⟩
 refine zg rfl (sem_buildSL [(0, (.pointer p3))] [(.pointer p3)] TF.zero_164 TF.places_164 rfl rfl ?_)
 refine zbn s rfl rfl rfl fun k4 h5 s => ?_
 refine au 2 rfl ?_
 exact zr (s.imp fun _ q => ⟨_, rfl, q⟩)
theorem C_stylus_Of.of {B : RO} {s1 : ByteArray} {h : Heap} {Q : Option Addr → Heap → Prop} (s : S_stylus_Of B s1 h Q) : C_stylus_Of B s1 h Q := by
 refine zspec Try.func57 [ResultVar.tmp 2] rfl rfl rfl rfl rfl ?_
 refine au 7 rfl ?_
 refine zg rfl (sem_buildSL [(0, (.string s1))] [(.string s1), (.bool false)] TF.zero_178 TF.places_178 rfl rfl ?_)
 refine zbn s rfl rfl rfl fun k3 h4 s => ?_
 refine au 2 rfl ?_
 exact zr (s.imp fun _ q => ⟨_, rfl, q⟩)
theorem C_stylus_Reader_Nat.of {B : RO} {p1 : Option Addr} {i2 : Int} {h : Heap} {Q : Int → Heap → Prop} (s : S_stylus_Reader_Nat B p1 i2 h Q) : C_stylus_Reader_Nat B p1 i2 h Q := by
 refine zspec Try.func58 [ResultVar.tmp 4] rfl rfl rfl rfl rfl ?_
 refine au 7 rfl ?_
 refine zcall s rfl rfl TF.goes_85 ?_
 rintro _ h4 ⟨i5, rfl, s⟩
 refine au 6 rfl ?_
 refine zt s rfl rfl rfl binI_lss_t binI_lss_f (fun s => ?_) fun s => ?_
 ·refine au 11 rfl ?_
  refine zcall s rfl rfl TF.goes_86 ?_
  rintro _ h6 ⟨rfl, s⟩
  refine au 5 rfl ?_
  exact zr (s.imp fun _ q => ⟨_, rfl, q⟩)
 ·refine au 3 rfl ?_
  refine zg rfl (sem_convI .i64 .u64 (i2) rfl TF.int_3 TF.int_88 ?_)
  refine zt s rfl rfl rfl binI_gtr_t binI_gtr_f (fun s => ?_) fun s => ?_
  ·refine au 6 rfl ?_
   refine zcall s rfl rfl TF.goes_86 ?_
   rintro _ h7 ⟨rfl, s⟩
   refine au 5 rfl ?_
   exact zr (s.imp fun _ q => ⟨_, rfl, q⟩)
  ·refine au 7 rfl ?_
   refine zg rfl (sem_convI .u64 .i64 (i5) rfl TF.int_88 TF.int_3 ?_)
   refine au 2 rfl ?_
   exact zr (s.imp fun _ q => ⟨_, rfl, q⟩)
theorem C_stylus_Reader_Bad.of {B : RO} {p1 : Option Addr} {h : Heap} {Q : Bool → Heap → Prop} (s : S_stylus_Reader_Bad B p1 h Q) : C_stylus_Reader_Bad B p1 h Q := by
 refine zspec Try.func59 [ResultVar.tmp 2] rfl rfl rfl rfl rfl ?_
 refine au 7 rfl ?_
 by_cases hb3 : p1 = none
 ·replace s := s.1 hb3
  refine zg rfl (sem_ptrNilT p1 (.inl rfl) true rfl rfl TF.ptr_141 hb3 rfl ?_)
  refine au 8 rfl ?_
  exact zr (s.imp fun _ q => ⟨_, rfl, q⟩)
 ·replace s := s.2 hb3
  refine zg rfl (sem_ptrNilF p1 (.inl rfl) false rfl rfl TF.ptr_141 hb3 rfl ?_)
  refine au 2 rfl ?_
  refine znil s rfl rfl fun A4 s => ?_
  refine au 1 rfl ?_
  refine zl s rfl rfl TF.agg_4 fun b6 s => ?_
  refine au 3 rfl ?_
  exact zr (s.imp fun _ q => ⟨_, rfl, q⟩)
theorem C_tome_Read.of {B : RO} {s1 : ByteArray} {h : Heap} {Q : Option Addr → Bool → Heap → Prop} (s : S_tome_Read B s1 h Q) : C_tome_Read B s1 h Q := by
 refine zspec Try.func60 [ResultVar.tmp 2, ResultVar.tmp 3] rfl rfl rfl rfl rfl ?_
 refine au 7 rfl ?_
 refine zcall s rfl rfl TF.goes_56 ?_
 rintro _ h4 ⟨p5, rfl, s⟩
 refine au 5 rfl ?_
 refine zcall s rfl rfl TF.goes_57 ?_
 rintro _ h6 ⟨p7, rfl, s⟩
 refine au 8 rfl ?_
 obtain ⟨J13, m11, h0, s⟩ := s
 refine Run.of_fin (h0.imp fun h' h0 => ?_)
 refine Run.loop (σ := Int × Nat) (fun x e h => J13 x.1 x.2 h ∧ Agree [(4, (.pointer p5)), (5, (.pointer p7)), (6, (.int .i64 (x.1)))] e) (fun x => x.2) (((-1)), m11) ⟨h0, ⟨rfl, rfl, rfl, trivial⟩⟩ ?_; clear h0
 rintro ⟨i8, m10⟩ e h9 ⟨hJ, hag⟩ ih12
 have s := s i8 m10 h9 hJ; clear hJ
 refine Run.env hag ?_; clear hag
 refine au 4 rfl ?_
 refine zcall s rfl rfl TF.goes_62 ?_
 rintro _ h14 ⟨i15, rfl, s⟩
 refine zt s rfl rfl rfl binI_gtr_t binI_gtr_f (fun s => ?_) fun s => ?_
 ·refine au 7 rfl ?_
  refine zcall s rfl rfl TF.goes_58 ?_
  rintro _ h16 ⟨i17, rfl, s⟩
  refine au 5 rfl ?_
  refine zcall s rfl rfl TF.goes_87 ?_
  rintro _ h18 ⟨s19, rfl, s⟩
  refine au 2 rfl ?_
  refine Run.seqJ (fun e h21 => Agree [(4, (.pointer p5)), (5, (.pointer p7)), (7, (.int .i64 (i17))), (8, (.string s19))] e ∧ S_tome_Read_J1 B p5 p7 m10 J13 i17 s19 h21 Q) ?_ fun j20 => ?_
  ·rintro e h21 ⟨hag, s⟩
   refine Run.env hag ?_; clear hag
   refine au 5 rfl ?_
   refine zg rfl (sem_buildSL [(0, (.bool true)), (1, (.string s19))] [(.bool true), (.string s19)] TF.zero_111 TF.places_111 rfl rfl ?_)
   refine zcall s rfl rfl TF.goes_88 ?_
   rintro _ h22 ⟨b23, rfl, s⟩
   refine au 6 rfl ?_
   exact Run.of_fin (s.imp fun h' ⟨m', hm, s⟩ => ih12 ((i17), m') _ _ ⟨s, ⟨rfl, rfl, rfl, trivial⟩⟩ hm)
  refine au 3 rfl ?_
  refine zcall s rfl rfl TF.goes_59 ?_
  rintro _ h24 ⟨b25, rfl, s⟩
  cases b25
  ·replace s := s.2 rfl
   refine au 3 rfl ?_
   refine zt s rfl rfl rfl binI_leq_t binI_leq_f (fun s => ?_) fun s => ?_
   ·refine au 8 rfl ?_
    exact zr (s.imp fun _ q => ⟨_, _, rfl, q⟩)
   ·refine au 4 rfl ?_
    exact Run.of_fin (s.imp fun h' s => j20 _ _ ⟨⟨rfl, rfl, rfl, rfl, trivial⟩, s⟩)
  ·replace s := s.1 rfl
   refine au 12 rfl ?_
   exact zr (s.imp fun _ q => ⟨_, _, rfl, q⟩)
 ·refine au 9 rfl ?_
  exact zr (s.imp fun _ q => ⟨_, _, rfl, q⟩)
theorem C_stylus_Reader_Raw.of {B : RO} {p1 : Option Addr} {i2 : Int} {h : Heap} {Q : ByteArray → Heap → Prop} (s : S_stylus_Reader_Raw B p1 i2 h Q) : C_stylus_Reader_Raw B p1 i2 h Q := by
 refine zspec Try.func61 [ResultVar.tmp 4] rfl rfl rfl rfl rfl ?_
 refine au 4 rfl ?_
 refine Run.seqJ (fun e h5 => Agree [(0, (.pointer p1)), (1, (.int .i64 (i2)))] e ∧ S_stylus_Reader_Raw_J1 B p1 i2 h5 Q) ?_ fun j4 => ?_
 ·rintro e h5 ⟨hag, s⟩
  refine Run.env hag ?_; clear hag
  refine au 3 rfl ?_
  refine znil s rfl rfl fun A6 s => ?_
  refine au 1 rfl ?_
  refine zl s rfl rfl TF.agg_9 fun s8 s => ?_
  refine au 1 rfl ?_
  obtain ⟨hi0, hi1, hi2, s⟩ := s
  refine zg rfl (sem_sliceStrI s8 (0) (i2) rfl TF.isStr_9 rfl ⟨_, rfl⟩ hi0 hi1 hi2 ?_)
  refine au 6 rfl ?_
  refine znil s rfl rfl fun A9 s => ?_
  refine au 1 rfl ?_
  refine zl s rfl rfl TF.agg_9 fun s11 s => ?_
  refine au 1 rfl ?_
  obtain ⟨hi0, hi1, hi2, s⟩ := s
  refine zg rfl (sem_sliceStrI s11 (i2) ((ByteArray.size s11 : Nat)) rfl TF.isStr_9 ⟨_, rfl⟩ rfl hi0 hi1 hi2 ?_)
  refine znil s rfl rfl fun A12 s => ?_
  refine au 1 rfl ?_
  refine zs1 s rfl rfl rfl rfl TF.sz_9 fun h14 s => ?_
  refine au 6 rfl ?_
  exact zr (s.imp fun _ q => ⟨_, rfl, q⟩)
 refine au 3 rfl ?_
 by_cases hb15 : p1 = none
 ·replace s := s.1 hb15
  refine zg rfl (sem_ptrNilT p1 (.inl rfl) true rfl rfl TF.ptr_141 hb15 rfl ?_)
  refine au 24 rfl ?_
  refine zcall s rfl rfl TF.goes_86 ?_
  rintro _ h16 ⟨rfl, s⟩
  refine au 5 rfl ?_
  exact zr (s.imp fun _ q => ⟨_, rfl, q⟩)
 ·replace s := s.2 hb15
  refine zg rfl (sem_ptrNilF p1 (.inl rfl) false rfl rfl TF.ptr_141 hb15 rfl ?_)
  refine au 2 rfl ?_
  refine znil s rfl rfl fun A17 s => ?_
  refine au 1 rfl ?_
  refine zl s rfl rfl TF.agg_4 fun b19 s => ?_
  cases b19
  ·replace s := s.2 rfl
   refine au 3 rfl ?_
   refine zt s rfl rfl rfl binI_lss_t binI_lss_f (fun s => ?_) fun s => ?_
   ·refine au 15 rfl ?_
    refine zcall s rfl rfl TF.goes_86 ?_
    rintro _ h20 ⟨rfl, s⟩
    refine au 5 rfl ?_
    exact zr (s.imp fun _ q => ⟨_, rfl, q⟩)
   ·refine au 4 rfl ?_
    refine znil s rfl rfl fun A21 s => ?_
    refine au 1 rfl ?_
    refine zl s rfl rfl TF.agg_9 fun s23 s => ?_
    refine zg rfl (sem_lenStr s23 rfl TF.isStr_9 ?_)
    refine zt s rfl rfl rfl binI_gtr_t binI_gtr_f (fun s => ?_) fun s => ?_
    ·refine au 6 rfl ?_
     refine zcall s rfl rfl TF.goes_86 ?_
     rintro _ h24 ⟨rfl, s⟩
     refine au 5 rfl ?_
     exact zr (s.imp fun _ q => ⟨_, rfl, q⟩)
    ·refine au 4 rfl ?_
     exact Run.of_fin (s.imp fun h' s => j4 _ _ ⟨⟨rfl, rfl, trivial⟩, s⟩)
  ·replace s := s.1 rfl
   refine au 19 rfl ?_
   refine zcall s rfl rfl TF.goes_86 ?_
   rintro _ h25 ⟨rfl, s⟩
   refine au 5 rfl ?_
   exact zr (s.imp fun _ q => ⟨_, rfl, q⟩)
theorem C_stylus_Reader_Left.of {B : RO} {p1 : Option Addr} {h : Heap} {Q : Int → Heap → Prop} (s : S_stylus_Reader_Left B p1 h Q) : C_stylus_Reader_Left B p1 h Q := by
 refine zspec Try.func62 [ResultVar.tmp 2] rfl rfl rfl rfl rfl ?_
 refine au 8 rfl ?_
 by_cases hb3 : p1 = none
 ·replace s := s.1 hb3
  refine zg rfl (sem_ptrNilT p1 (.inl rfl) true rfl rfl TF.ptr_141 hb3 rfl ?_)
  refine au 6 rfl ?_
  exact zr (s.imp fun _ q => ⟨_, rfl, q⟩)
 ·replace s := s.2 hb3
  refine zg rfl (sem_ptrNilF p1 (.inl rfl) false rfl rfl TF.ptr_141 hb3 rfl ?_)
  refine au 6 rfl ?_
  refine znil s rfl rfl fun A4 s => ?_
  refine au 1 rfl ?_
  refine zl s rfl rfl TF.agg_9 fun s6 s => ?_
  refine zg rfl (sem_lenStr s6 rfl TF.isStr_9 ?_)
  refine au 2 rfl ?_
  exact zr (s.imp fun _ q => ⟨_, rfl, q⟩)
theorem C_redo_Read.of {B : RO} {s1 : ByteArray} {h : Heap} {Q : Int → Option Addr → Nat → Nat → Bool → Heap → Prop} (s : S_redo_Read B s1 h Q) : C_redo_Read B s1 h Q := by
 refine zspec Try.func63 [ResultVar.tmp 2, ResultVar.tmp 3, ResultVar.tmp 4] rfl rfl rfl rfl rfl ?_
 refine au 9 rfl ?_
 refine zcall s rfl rfl TF.goes_57 ?_
 rintro _ h7 ⟨p8, rfl, s⟩
 refine au 5 rfl ?_
 refine zcall s rfl rfl TF.goes_58 ?_
 rintro _ h9 ⟨i10, rfl, s⟩
 refine au 6 rfl ?_
 refine Run.seqJ (fun e h15 => ∃ a12 : Option Addr, ∃ n13 : Nat, ∃ c14 : Nat, Agree [(5, (.pointer p8)), (6, (.int .i64 (i10))), (7, (.slice a12 n13 c14))] e ∧ S_redo_Read_J1 B p8 i10 a12 n13 c14 h15 Q) ?_ fun j11 => ?_
 ·rintro e h15 ⟨a12, n13, c14, hag, s⟩
  refine Run.env hag ?_; clear hag
  refine au 4 rfl ?_
  refine zcall s rfl rfl TF.goes_59 ?_
  rintro _ h16 ⟨b17, rfl, s⟩
  cases b17
  ·replace s := s.2 rfl
   refine au 11 rfl ?_
   exact zr (s.imp fun _ q => ⟨_, _, _, _, _, rfl, q⟩)
  ·replace s := s.1 rfl
   refine au 8 rfl ?_
   exact zr (s.imp fun _ q => ⟨_, _, _, _, _, rfl, q⟩)
 refine au 5 rfl ?_
 obtain ⟨J26, m24, h0, s⟩ := s
 refine Run.of_fin (h0.imp fun h' h0 => ?_)
 refine Run.loop (σ := (Option Addr) × Nat × Nat × Int × Nat) (fun x e h => J26 x.1 x.2.1 x.2.2.1 x.2.2.2.1 x.2.2.2.2 h ∧ Agree [(5, (.pointer p8)), (6, (.int .i64 (i10))), (7, (.slice x.1 x.2.1 x.2.2.1)), (8, (.int .i64 (x.2.2.2.1)))] e) (fun x => x.2.2.2.2) (none, 0, 0, ((-1)), m24) ⟨h0, ⟨rfl, rfl, rfl, rfl, trivial⟩⟩ ?_; clear h0
 rintro ⟨a18, n19, c20, i21, m23⟩ e h22 ⟨hJ, hag⟩ ih25
 have s := s a18 n19 c20 i21 m23 h22 hJ; clear hJ
 refine Run.env hag ?_; clear hag
 refine au 4 rfl ?_
 refine zcall s rfl rfl TF.goes_62 ?_
 rintro _ h27 ⟨i28, rfl, s⟩
 refine zt s rfl rfl rfl binI_gtr_t binI_gtr_f (fun s => ?_) fun s => ?_
 ·refine au 7 rfl ?_
  refine zcall s rfl rfl TF.goes_58 ?_
  rintro _ h29 ⟨i30, rfl, s⟩
  refine zg rfl (sem_buildSL [(0, (.int .i64 (i30)))] [(.int .i64 (i30)), (.bool false), (.string ByteArray.empty)] TF.zero_182 TF.places_182 rfl rfl ?_)
  refine zal s rfl TF.zero_182 rfl fun k31 h32 s => ?_
  refine zsn s rfl rfl rfl TF.sz_182 rfl fun h33 s => ?_
  refine au 1 rfl ?_
  refine Run.seqJ (fun e h35 => Agree [(5, (.pointer p8)), (6, (.int .i64 (i10))), (7, (.slice a18 n19 c20)), (8, (.int .i64 (i21))), (9, (.pointer (some ⟨k31, 0, none⟩)))] e ∧ S_redo_Read_J2 B p8 i10 a18 n19 c20 i21 m23 J26 k31 h35 Q) ?_ fun j34 => ?_
  ·rintro e h35 ⟨hag, s⟩
   refine Run.env hag ?_; clear hag
   refine Run.seqJ (fun e h37 => Agree [(5, (.pointer p8)), (6, (.int .i64 (i10))), (7, (.slice a18 n19 c20)), (9, (.pointer (some ⟨k31, 0, none⟩)))] e ∧ S_redo_Read_J3 B p8 i10 a18 n19 c20 m23 J26 k31 h37 Q) ?_ fun j36 => ?_
   ·rintro e h37 ⟨hag, s⟩
    refine Run.env hag ?_; clear hag
    refine au 3 rfl ?_
    refine zl s rfl rfl TF.agg_3 fun i38 s => ?_
    refine au 4 rfl ?_
    obtain ⟨i39, b40, s41, hl, s⟩ := s
    refine zn hl rfl rfl TF.agg_182 TF.sz_182 rfl ?_
    refine zg rfl (sem_buildSliceL [(0, (.agg #[(.int .i64 (i39)), (.bool b40), (.string s41)]))] [(.int .i64 (i39)), (.bool b40), (.string s41)] TF.slc_146 TF.zero_182 rfl (by decide) (by decide) rfl rfl (fun k42 hb1 hb2 h43 hb3 => ?_))
    have s := s k42 hb1 hb2 h43 hb3
    refine zg rfl (sem_appendL [(.slice a18 n19 c20), (.slice (some ⟨k42, 0, none⟩) 1 1)] rfl (semH_mono (fun v h44 hv => ?_) s))
    obtain ⟨a45, n46, c47, rfl, s⟩ := hv
    refine au 3 rfl ?_
    exact Run.of_fin (s.imp fun h' ⟨m', hm, s⟩ => ih25 (a45, n46, c47, (i38), m') _ _ ⟨s, ⟨rfl, rfl, rfl, rfl, trivial⟩⟩ hm)
   refine au 3 rfl ?_
   refine zcall s rfl rfl TF.goes_59 ?_
   rintro _ h48 ⟨b49, rfl, s⟩
   cases b49
   ·replace s := s.2 rfl
    refine au 2 rfl ?_
    refine zl s rfl rfl TF.agg_3 fun i50 s => ?_
    refine au 1 rfl ?_
    refine zt s rfl rfl rfl binI_leq_t binI_leq_f (fun s => ?_) fun s => ?_
    ·refine au 9 rfl ?_
     exact zr (s.imp fun _ q => ⟨_, _, _, _, _, rfl, q⟩)
    ·refine au 4 rfl ?_
     exact Run.of_fin (s.imp fun h' s => j36 _ _ ⟨⟨rfl, rfl, rfl, rfl, trivial⟩, s⟩)
   ·replace s := s.1 rfl
    refine au 14 rfl ?_
    exact zr (s.imp fun _ q => ⟨_, _, _, _, _, rfl, q⟩)
  refine au 3 rfl ?_
  refine zcall s rfl rfl TF.goes_58 ?_
  rintro _ h51 ⟨i52, rfl, s⟩
  refine zt s rfl rfl rfl binI_eql_t binI_eql_f (fun s => ?_) fun s => ?_
  ·refine au 4 rfl ?_
   refine zcall s rfl rfl TF.goes_87 ?_
   rintro _ h53 ⟨s54, rfl, s⟩
   refine zg rfl (sem_buildSL [(0, (.bool true)), (1, (.string s54))] [(.bool true), (.string s54)] TF.zero_111 TF.places_111 rfl rfl ?_)
   refine au 1 rfl ?_
   refine zsn s rfl rfl rfl TF.sz_111 rfl fun h55 s => ?_
   refine au 1 rfl ?_
   exact Run.of_fin (s.imp fun h' s => j34 _ _ ⟨⟨rfl, rfl, rfl, rfl, rfl, trivial⟩, s⟩)
  ·refine au 3 rfl ?_
   exact Run.of_fin (s.imp fun h' s => j34 _ _ ⟨⟨rfl, rfl, rfl, rfl, rfl, trivial⟩, s⟩)
 ·refine au 3 rfl ?_
  exact Run.of_fin (s.imp fun h' s => j11 _ _ ⟨a18, n19, c20, ⟨rfl, rfl, rfl, trivial⟩, s⟩)
theorem C_redo_Apply.of {B : RO} {p1 : Option Addr} {a2 : Option Addr} {n3 : Nat} {c4 : Nat} {i5 : Int} {h : Heap} {Q : Heap → Prop} (s : S_redo_Apply B p1 a2 n3 c4 i5 h Q) : C_redo_Apply B p1 a2 n3 c4 i5 h Q := by
 refine zspec Try.func64 [] rfl rfl rfl rfl rfl ?_
 refine au 3 rfl ?_
 refine zg rfl (sem_lenSl a2 n3 c4 rfl TF.sl_146 ?_)
 refine au 3 rfl ?_
 obtain ⟨J11, m9, h0, s⟩ := s
 refine Run.of_fin (h0.imp fun h' h0 => ?_)
 refine Run.loop (σ := Int × Nat) (fun x e h => J11 x.1 x.2 h ∧ Agree [(0, (.pointer p1)), (2, (.int .i64 (i5))), (8, (.slice a2 n3 c4)), (9, (.int .i64 ((n3 : Nat)))), (10, (.int .i64 (x.1)))] e) (fun x => x.2) ((0), m9) ⟨h0, ⟨rfl, rfl, rfl, rfl, rfl, trivial⟩⟩ ?_; clear h0
 rintro ⟨i6, m8⟩ e h7 ⟨hJ, hag⟩ ih10
 have s := s i6 m8 h7 hJ; clear hJ
 refine Run.env hag ?_; clear hag
 refine au 2 rfl ?_
 refine zt s rfl rfl rfl binI_lss_t binI_lss_f (fun s => ?_) fun s => ?_
 ·refine au 8 rfl ?_
  obtain ⟨A12, e13, hi0, hi1, s⟩ := s
  refine zg rfl (sem_indexAddrS A12 n3 c4 .i64 (i6) (congrArg (fun a => Value.slice a n3 c4) e13) rfl TF.slc_146 hi0 hi1 ?_)
  obtain ⟨i14, b15, s16, hl, s⟩ := s
  refine zn hl rfl rfl TF.agg_182 TF.sz_182 rfl ?_
  refine zal s rfl TF.zero_182 rfl fun k17 h18 s => ?_
  refine zsn s rfl rfl rfl TF.sz_182 rfl fun h19 s => ?_
  refine au 4 rfl ?_
  refine zl s rfl rfl TF.agg_3 fun i20 s => ?_
  refine au 1 rfl ?_
  obtain ⟨b21, s22, hl, s⟩ := s
  refine zn hl rfl rfl TF.agg_111 TF.sz_111 rfl ?_
  refine au 1 rfl ?_
  refine zcall s rfl rfl TF.goes_88 ?_
  rintro _ h23 ⟨b24, rfl, s⟩
  refine au 6 rfl ?_
  exact Run.of_fin (s.imp fun h' ⟨m', hm, s⟩ => ih10 ((IntKind.wrap .i64 ((i6) + (1))), m') _ _ ⟨s, ⟨rfl, rfl, rfl, rfl, rfl, trivial⟩⟩ hm)
 ·refine au 4 rfl ?_
  exact zf (s.imp fun _ q => ⟨rfl, q⟩)
theorem C_stylus_Stylus_Nat.of {B : RO} {p1 : Option Addr} {a2 : Option Addr} {n3 : Nat} {c4 : Nat} {h : Heap} {Q : Heap → Prop} (s : S_stylus_Stylus_Nat B p1 a2 n3 c4 h Q) : C_stylus_Stylus_Nat B p1 a2 n3 c4 h Q := by
 refine zspec Try.func65 [] rfl rfl rfl rfl rfl ?_
 refine au 3 rfl ?_
 refine zg rfl (sem_lenSl a2 n3 c4 rfl TF.sl_119 ?_)
 refine au 3 rfl ?_
 obtain ⟨J10, m8, h0, s⟩ := s
 refine Run.of_fin (h0.imp fun h' h0 => ?_)
 refine Run.loop (σ := Int × Nat) (fun x e h => J10 x.1 x.2 h ∧ Agree [(0, (.pointer p1)), (6, (.slice a2 n3 c4)), (7, (.int .i64 ((n3 : Nat)))), (8, (.int .i64 (x.1)))] e) (fun x => x.2) ((0), m8) ⟨h0, ⟨rfl, rfl, rfl, rfl, trivial⟩⟩ ?_; clear h0
 rintro ⟨i5, m7⟩ e h6 ⟨hJ, hag⟩ ih9
 have s := s i5 m7 h6 hJ; clear hJ
 refine Run.env hag ?_; clear hag
 refine au 2 rfl ?_
 refine zt s rfl rfl rfl binI_lss_t binI_lss_f (fun s => ?_) fun s => ?_
 ·refine au 8 rfl ?_
  obtain ⟨A11, e12, hi0, hi1, s⟩ := s
  refine zg rfl (sem_indexAddrS A11 n3 c4 .i64 (i5) (congrArg (fun a => Value.slice a n3 c4) e12) rfl TF.slc_119 hi0 hi1 ?_)
  refine zl s rfl rfl TF.agg_3 fun i13 s => ?_
  refine au 6 rfl ?_
  refine zt s rfl rfl rfl binI_lss_t binI_lss_f (fun s => ?_) fun s => ?_
  ·refine au 7 rfl ?_
   exact Run.of_fin (s.imp fun h' ⟨m', hm, s⟩ => ih9 ((IntKind.wrap .i64 ((i5) + (1))), m') _ _ ⟨s, ⟨rfl, rfl, rfl, rfl, trivial⟩⟩ hm)
  ·refine au 3 rfl ?_
   refine Run.seqJ (fun e h16 => ∃ i15 : Int, Agree [(0, (.pointer p1)), (5, (.int .i64 (i15))), (6, (.slice a2 n3 c4)), (7, (.int .i64 ((n3 : Nat)))), (8, (.int .i64 (i5)))] e ∧ S_stylus_Stylus_Nat_J1 B p1 a2 n3 c4 i5 m7 J10 i15 h16 Q) ?_ fun j14 => ?_
   ·rintro e h16 ⟨i15, hag, s⟩
    refine Run.env hag ?_; clear hag
    refine au 3 rfl ?_
    refine znil s rfl rfl fun A17 s => ?_
    refine au 1 rfl ?_
    refine Run.ldSl s fun a19 n20 c21 h22 hl s => ?_
    refine zg rfl (sem_load1 A17 ((.slice a19 n20 c21)) rfl TF.agg_63 hl ?_)
    refine au 1 rfl ?_
    refine zg rfl (sem_convI .i64 .u8 (i15) rfl TF.int_3 TF.int_5 ?_)
    refine zg rfl (sem_buildSliceL [(0, (.int .u8 (IntKind.wrap .u8 (i15))))] [(.int .u8 (IntKind.wrap .u8 (i15)))] TF.slc_63 TF.zero_5 rfl (by decide) (by decide) rfl rfl (fun k23 hb1 hb2 h24 hb3 => ?_))
    have s := s k23 hb1 hb2 h24 hb3
    refine zg rfl (sem_appendL [(.slice a19 n20 c21), (.slice (some ⟨k23, 0, none⟩) 1 1)] rfl (semH_mono (fun v h25 hv => ?_) s))
    obtain ⟨a26, n27, c28, rfl, s⟩ := hv
    refine znil s rfl rfl fun A29 s => ?_
    refine au 1 rfl ?_
    refine zs1 s rfl rfl rfl rfl TF.sz_63 fun h31 s => ?_
    refine au 6 rfl ?_
    exact Run.of_fin (s.imp fun h' ⟨m', hm, s⟩ => ih9 ((IntKind.wrap .i64 ((i5) + (1))), m') _ _ ⟨s, ⟨rfl, rfl, rfl, rfl, trivial⟩⟩ hm)
   refine au 1 rfl ?_
   obtain ⟨J37, m35, h0, s⟩ := s
   refine Run.of_fin (h0.imp fun h' h0 => ?_)
   refine Run.loop (σ := Int × Nat) (fun x e h => J37 x.1 x.2 h ∧ Agree [(0, (.pointer p1)), (5, (.int .i64 (x.1))), (6, (.slice a2 n3 c4)), (7, (.int .i64 ((n3 : Nat)))), (8, (.int .i64 (i5)))] e) (fun x => x.2) ((i13), m35) ⟨h0, ⟨rfl, rfl, rfl, rfl, rfl, trivial⟩⟩ ?_; clear h0
   rintro ⟨i32, m34⟩ e h33 ⟨hJ, hag⟩ ih36
   have s := s i32 m34 h33 hJ; clear hJ
   refine Run.env hag ?_; clear hag
   refine au 4 rfl ?_
   refine zt s rfl rfl rfl binI_geq_t binI_geq_f (fun s => ?_) fun s => ?_
   ·refine au 8 rfl ?_
    refine znil s rfl rfl fun A38 s => ?_
    refine au 1 rfl ?_
    refine Run.ldSl s fun a40 n41 c42 h43 hl s => ?_
    refine zg rfl (sem_load1 A38 ((.slice a40 n41 c42)) rfl TF.agg_63 hl ?_)
    refine au 1 rfl ?_
    refine zg rfl (sem_convI .i64 .u8 (i32) rfl TF.int_3 TF.int_5 ?_)
    refine au 1 rfl ?_
    refine zg rfl (sem_buildSliceL [(0, (.int .u8 (IntKind.wrap .u8 ((BitVec.ofInt (IntKind.bits .u8) (IntKind.wrap .u8 (i32)) ||| BitVec.ofInt (IntKind.bits .u8) (128)).toNat : Int))))] [(.int .u8 (IntKind.wrap .u8 ((BitVec.ofInt (IntKind.bits .u8) (IntKind.wrap .u8 (i32)) ||| BitVec.ofInt (IntKind.bits .u8) (128)).toNat : Int)))] TF.slc_63 TF.zero_5 rfl (by decide) (by decide) rfl rfl (fun k44 hb1 hb2 h45 hb3 => ?_))
    have s := s k44 hb1 hb2 h45 hb3
    refine zg rfl (sem_appendL [(.slice a40 n41 c42), (.slice (some ⟨k44, 0, none⟩) 1 1)] rfl (semH_mono (fun v h46 hv => ?_) s))
    obtain ⟨a47, n48, c49, rfl, s⟩ := hv
    refine znil s rfl rfl fun A50 s => ?_
    refine au 1 rfl ?_
    refine zs1 s rfl rfl rfl rfl TF.sz_63 fun h52 s => ?_
    refine au 3 rfl ?_
    obtain ⟨hi0, s⟩ := s
    refine zg rfl (sem_shr .i64 .u64 (i32) (7) rfl rfl hi0 ?_)
    refine au 3 rfl ?_
    exact Run.of_fin (s.imp fun h' ⟨m', hm, s⟩ => ih36 ((Int.fdiv (i32) (2 ^ (min (Int.toNat (7)) (IntKind.bits .i64)))), m') _ _ ⟨s, ⟨rfl, rfl, rfl, rfl, rfl, trivial⟩⟩ hm)
   ·refine au 3 rfl ?_
    exact Run.of_fin (s.imp fun h' s => j14 _ _ ⟨(i32), ⟨rfl, rfl, rfl, rfl, rfl, trivial⟩, s⟩)
 ·refine au 4 rfl ?_
  exact zf (s.imp fun _ q => ⟨rfl, q⟩)
theorem C_stylus_Stylus_Raw.of {B : RO} {p1 : Option Addr} {s2 : ByteArray} {h : Heap} {Q : Heap → Prop} (s : S_stylus_Stylus_Raw B p1 s2 h Q) : C_stylus_Stylus_Raw B p1 s2 h Q := by
 refine zspec Try.func66 [] rfl rfl rfl rfl rfl ?_
 refine au 3 rfl ?_
 refine znil s rfl rfl fun A3 s => ?_
 refine au 1 rfl ?_
 refine Run.ldSl s fun a5 n6 c7 h8 hl s => ?_
 refine zg rfl (sem_load1 A3 ((.slice a5 n6 c7)) rfl TF.agg_63 hl ?_)
 refine au 1 rfl ?_
 refine zg rfl (sem_appendL [(.slice a5 n6 c7), (.string s2)] rfl (semH_mono (fun v h9 hv => ?_) s))
 obtain ⟨a10, n11, c12, rfl, s⟩ := hv
 refine znil s rfl rfl fun A13 s => ?_
 refine au 1 rfl ?_
 refine zs1 s rfl rfl rfl rfl TF.sz_63 fun h15 s => ?_
 refine au 1 rfl ?_
 exact zf (s.imp fun _ q => ⟨rfl, q⟩)
theorem C_stylus_Stylus_Bytes.of {B : RO} {p1 : Option Addr} {h : Heap} {Q : ByteArray → Heap → Prop} (s : S_stylus_Stylus_Bytes B p1 h Q) : C_stylus_Stylus_Bytes B p1 h Q := by
 refine zspec Try.func67 [ResultVar.tmp 2] rfl rfl rfl rfl rfl ?_
 refine au 7 rfl ?_
 refine znil s rfl rfl fun A3 s => ?_
 refine au 1 rfl ?_
 refine Run.ldSl s fun a5 n6 c7 h8 hl s => ?_
 refine zg rfl (sem_load1 A3 ((.slice a5 n6 c7)) rfl TF.agg_63 hl ?_)
 refine zg rfl (sem_convW ((.slice a5 n6 c7)) rfl (semH_mono (fun v h10 hv => ?_) s))
 obtain ⟨s9, rfl, s⟩ := hv
 refine au 2 rfl ?_
 exact zr (s.imp fun _ q => ⟨_, rfl, q⟩)
theorem C_wal_Log_Area.of {B : RO} {p1 : Option Addr} {h : Heap} {Q : Int → Heap → Prop} (s : S_wal_Log_Area B p1 h Q) : C_wal_Log_Area B p1 h Q := by
 refine zspec Try.func68 [ResultVar.tmp 2] rfl rfl rfl rfl rfl ?_
 refine au 8 rfl ?_
 by_cases hb3 : p1 = none
 ·replace s := s.1 hb3
  refine zg rfl (sem_ptrNilT p1 (.inl rfl) true rfl rfl TF.ptr_133 hb3 rfl ?_)
  refine au 6 rfl ?_
  exact zr (s.imp fun _ q => ⟨_, rfl, q⟩)
 ·replace s := s.2 hb3
  refine zg rfl (sem_ptrNilF p1 (.inl rfl) false rfl rfl TF.ptr_133 hb3 rfl ?_)
  refine au 6 rfl ?_
  refine znil s rfl rfl fun A4 s => ?_
  refine au 1 rfl ?_
  refine zl s rfl rfl TF.agg_3 fun i6 s => ?_
  refine au 2 rfl ?_
  exact zr (s.imp fun _ q => ⟨_, rfl, q⟩)
theorem C_wal_Log_Clear.of {B : RO} {p1 : Option Addr} {h : Heap} {Q : Heap → Prop} (s : S_wal_Log_Clear B p1 h Q) : C_wal_Log_Clear B p1 h Q := by
 refine zspec Try.func69 [] rfl rfl rfl rfl rfl ?_
 refine au 3 rfl ?_
 by_cases hb2 : p1 = none
 ·replace s := s.1 hb2
  refine zg rfl (sem_ptrNilT p1 (.inr rfl) false rfl rfl TF.ptr_133 hb2 rfl ?_)
  refine au 3 rfl ?_
  exact zf (s.imp fun _ q => ⟨rfl, q⟩)
 ·replace s := s.2 hb2
  refine zg rfl (sem_ptrNilF p1 (.inr rfl) true rfl rfl TF.ptr_133 hb2 rfl ?_)
  refine au 3 rfl ?_
  refine Run.drawM (fun h' => h' = h) [8] ⟨[0, 1, 2, 4, 0, 16, 32, 64, 136], [511, 510, 509, 507, 511, 495, 479, 447, 375], [0, 1, 3, 7, 0, 16, 48, 112, 255], 256⟩ (.q 0 (.q 1 (.q 2 (.q 3 (.q 4 (.q 5 (.q 6 (.q 7 (.x 8 .nil .no))))))))) TF.mixed (by kernel_rfl) rfl ?_
  refine auT 1 rfl ?_
  obtain ⟨A3, e4, s⟩ := s
  refine zqe rfl (sem_nilCheck A3 (congrArg Value.pointer e4) ⟨rfl, rfl⟩) ?_
  refine auT 1 rfl ?_
  obtain ⟨p5, hl, s⟩ := s
  refine zqe rfl (sem_load1 A3 ((.pointer p5)) rfl TF.agg_23 hl ⟨rfl, rfl⟩) ?_
  refine auT 1 rfl ?_
  obtain ⟨A6, e7, s⟩ := s
  refine zqe rfl (sem_nilCheck A6 (congrArg Value.pointer e7) ⟨rfl, rfl⟩) ?_
  refine auT 1 rfl ?_
  obtain ⟨i8, hl, s⟩ := s
  refine zqe rfl (sem_load1 (Addr.add A6 1) ((.int .i64 (i8))) rfl TF.agg_3 hl ⟨rfl, rfl⟩) ?_
  refine ⟨zo rfl (sem_callL [(.pointer p5), (.int .i64 (i8))] (TF.goes_89) rfl rfl (Spec.mono s fun v h9 hv => ?_)), trivial⟩
  obtain ⟨i10, rfl, s⟩ := hv
  refine ⟨fun hz => Bool.noConfusion hz, ?_⟩
  refine au 3 rfl ?_
  refine znil s rfl rfl fun A11 s => ?_
  refine au 1 rfl ?_
  refine zs1 s rfl rfl rfl rfl TF.sz_3 fun h13 s => ?_
  refine znil s rfl rfl fun A14 s => ?_
  refine au 1 rfl ?_
  refine zs1 s rfl rfl rfl rfl TF.sz_4 fun h16 s => ?_
  refine au 1 rfl ?_
  exact zf (s.imp fun _ q => ⟨rfl, q⟩)
theorem C_wal_Log_Force.of {B : RO} {p1 : Option Addr} {h : Heap} {Q : Heap → Prop} (s : S_wal_Log_Force B p1 h Q) : C_wal_Log_Force B p1 h Q := by
 refine zspec Try.func70 [] rfl rfl rfl rfl rfl ?_
 refine au 3 rfl ?_
 by_cases hb2 : p1 = none
 ·replace s := s.1 hb2
  refine zg rfl (sem_ptrNilT p1 (.inr rfl) false rfl rfl TF.ptr_133 hb2 rfl ?_)
  refine au 3 rfl ?_
  exact zf (s.imp fun _ q => ⟨rfl, q⟩)
 ·replace s := s.2 hb2
  refine zg rfl (sem_ptrNilF p1 (.inr rfl) true rfl rfl TF.ptr_133 hb2 rfl ?_)
  refine au 4 rfl ?_
  refine znil s rfl rfl fun A3 s => ?_
  refine au 1 rfl ?_
  refine zl s rfl rfl TF.agg_23 fun p5 s => ?_
  refine zcall s rfl rfl TF.goes_90 ?_
  rintro _ h6 ⟨rfl, s⟩
  refine au 1 rfl ?_
  exact zf (s.imp fun _ q => ⟨rfl, q⟩)
theorem C_wal_Log_Append.of {B : RO} {p1 : Option Addr} {s2 : ByteArray} {h : Heap} {Q : Int → Heap → Prop} (s : S_wal_Log_Append B p1 s2 h Q) : C_wal_Log_Append B p1 s2 h Q := by
 refine zspec Try.func71 [ResultVar.tmp 4] rfl rfl rfl rfl rfl ?_
 refine au 4 rfl ?_
 refine Run.seqJ (fun e h5 => Agree [(0, (.pointer p1)), (1, (.string s2))] e ∧ S_wal_Log_Append_J1 B p1 s2 h5 Q) ?_ fun j4 => ?_
 ·rintro e h5 ⟨hag, s⟩
  refine Run.env hag ?_; clear hag
  refine au 3 rfl ?_
  refine zcall s rfl rfl TF.goes_91 ?_
  rintro _ h6 ⟨s7, rfl, s⟩
  refine au 4 rfl ?_
  obtain ⟨A9, e10, s⟩ := s
  obtain ⟨p13, hl, s⟩ := s
  have f14 := hl
  obtain ⟨A16, e17, s⟩ := s
  obtain ⟨i20, hl, s⟩ := s
  have f21 := hl
  refine Run.drawM (fun h' => cellH B h' A9 = some (.pointer p13) ∧ cellH B h' (Addr.add A16 1) = some (.int .i64 (i20)) ∧ True) [] ⟨[0, 1, 2, 4, 0, 16, 32, 64, 0, 392, 1023], [2047, 2046, 2045, 2043, 2047, 2031, 2015, 1983, 2047, 1655, 1535], [0, 0, 0, 0, 0, 0, 0, 0, 0, 0, 0], 0⟩ (.q 0 (.q 1 (.q 2 (.q 3 (.q 4 (.q 5 (.q 6 (.q 7 (.q 8 (.x 9 (.q 10 .nil) .no)))))))))) TF.mixed (by kernel_rfl) ⟨f14, f21, trivial⟩ ?_
  refine auT 1 rfl ?_
  refine zq rfl (fun _ hC => sem_nilCheck A9 (congrArg Value.pointer e10) ⟨rfl, rfl⟩) ?_
  refine auT 1 rfl ?_
  refine zq rfl (fun _ hC => sem_load1 A9 ((.pointer p13)) rfl TF.agg_23 hC.1 ⟨rfl, rfl⟩) ?_
  refine auT 1 rfl ?_
  refine zq rfl (fun _ hC => sem_nilCheck A16 (congrArg Value.pointer e17) ⟨rfl, rfl⟩) ?_
  refine auT 1 rfl ?_
  refine zq rfl (fun _ hC => sem_load1 (Addr.add A16 1) ((.int .i64 (i20))) rfl TF.agg_3 hC.2.1 ⟨rfl, rfl⟩) ?_
  refine auT 1 rfl ?_
  refine ⟨zo rfl (sem_callL [(.pointer p13), (.int .i64 (i20)), (.string s7)] (TF.goes_7) rfl rfl (Spec.mono s fun v h23 hv => ?_)), trivial⟩
  obtain ⟨i24, rfl, s⟩ := hv
  obtain ⟨g25, g26, s⟩ := s
  refine ⟨fun _ => ⟨g25, g26, trivial⟩, ?_⟩
  refine auT 1 rfl ?_
  refine au 3 rfl ?_
  refine zu s rfl rfl rfl binI_neq_t binI_neq_f (fun s => ?_) fun s => ?_
  ·refine au 6 rfl ?_
   refine znil s rfl rfl fun A27 s => ?_
   refine au 1 rfl ?_
   refine zl s rfl rfl TF.agg_3 fun i29 s => ?_
   refine au 1 rfl ?_
   refine zg rfl (sem_lenStr s7 rfl TF.isStr_9 ?_)
   refine au 1 rfl ?_
   refine znil s rfl rfl fun A30 s => ?_
   refine au 1 rfl ?_
   refine zs1 s rfl rfl rfl rfl TF.sz_3 fun h32 s => ?_
   refine au 5 rfl ?_
   exact zr (s.imp fun _ q => ⟨_, rfl, q⟩)
  ·refine au 7 rfl ?_
   exact zr (s.imp fun _ q => ⟨_, rfl, q⟩)
 refine au 4 rfl ?_
 by_cases hb33 : p1 = none
 ·replace s := s.1 hb33
  refine zg rfl (sem_ptrNilT p1 (.inl rfl) true rfl rfl TF.ptr_133 hb33 rfl ?_)
  refine au 7 rfl ?_
  exact zr (s.imp fun _ q => ⟨_, rfl, q⟩)
 ·replace s := s.2 hb33
  refine zg rfl (sem_ptrNilF p1 (.inl rfl) false rfl rfl TF.ptr_133 hb33 rfl ?_)
  refine au 6 rfl ?_
  refine zg rfl (sem_lenStr s2 rfl TF.isStr_9 ?_)
  refine zt s rfl rfl rfl binI_gtr_t binI_gtr_f (fun s => ?_) fun s => ?_
  ·refine au 7 rfl ?_
   exact zr (s.imp fun _ q => ⟨_, rfl, q⟩)
  ·refine au 6 rfl ?_
   refine znil s rfl rfl fun A34 s => ?_
   refine au 1 rfl ?_
   refine zl s rfl rfl TF.agg_4 fun b36 s => ?_
   cases b36
   ·replace s := s.2 rfl
    refine au 5 rfl ?_
    exact Run.of_fin (s.imp fun h' s => j4 _ _ ⟨⟨rfl, rfl, trivial⟩, s⟩)
   ·replace s := s.1 rfl
    refine au 7 rfl ?_
    exact zr (s.imp fun _ q => ⟨_, rfl, q⟩)
theorem C_tome_Tome_Bytes.of {B : RO} {p1 : Option Addr} {h : Heap} {Q : ByteArray → Heap → Prop} (s : S_tome_Tome_Bytes B p1 h Q) : C_tome_Tome_Bytes B p1 h Q := by
 refine zspec Try.func72 [ResultVar.tmp 2] rfl rfl rfl rfl rfl ?_
 refine au 6 rfl ?_
 refine zg rfl (sem_buildSL [] [(.slice none 0 0)] TF.zero_152 TF.places_152 rfl rfl ?_)
 refine zbn s rfl rfl rfl fun k3 h4 s => ?_
 refine zal s rfl TF.zero_150 rfl fun k5 h6 s => ?_
 refine zs1 s rfl rfl rfl rfl TF.sz_150 fun h7 s => ?_
 refine au 5 rfl ?_
 refine zcall s rfl rfl TF.goes_92 ?_
 rintro v9 h8 ⟨_, rfl, s⟩
 refine au 2 rfl ?_
 obtain ⟨xs17, G13, J16, hit, hins, hG, h0, s, hR⟩ := s
 refine Run.of_fin (h0.imp fun h' h0 => ?_)
 refine Run.range (v9) (xs17.map (fun x : Int × Bool × ByteArray => [(.int .i64 (x.1)), (.agg #[(.bool x.2.1), (.string x.2.2)])])) G13 J16 rfl hit hins hG h0 rfl (fun a ha => by obtain ⟨x, _, rfl⟩ := List.mem_map.1 ha; rfl) ?_ ?_
 ·rintro q15 args h14 ha hJ
  obtain ⟨⟨i10, b11, s12⟩, hx, rfl⟩ := Option.map_eq_some_iff.1 ((List.getElem?_map ..).symm.trans ha)
  have s := s q15 h14 i10 b11 s12 hx hJ; clear hJ hx ha
  refine zput rfl ?_
  refine au 5 rfl ?_
  refine zal s rfl TF.zero_111 rfl fun k18 h19 s => ?_
  refine zsn s rfl rfl rfl TF.sz_111 rfl fun h20 s => ?_
  refine au 1 rfl ?_
  refine Run.begin ⟨rfl, ?_⟩
  refine au 3 rfl ?_
  refine zl s rfl rfl TF.agg_150 fun p21 s => ?_
  refine au 1 rfl ?_
  refine zg rfl (sem_buildSliceL [(0, (.int .i64 (i10)))] [(.int .i64 (i10))] TF.slc_119 TF.zero_3 rfl (by decide) (by decide) rfl rfl (fun k22 hb1 hb2 h23 hb3 => ?_))
  have s := s k22 hb1 hb2 h23 hb3
  refine zcall s rfl rfl TF.goes_65 ?_
  rintro _ h24 ⟨rfl, s⟩
  refine au 2 rfl ?_
  refine zl s rfl rfl TF.agg_150 fun p25 s => ?_
  refine au 1 rfl ?_
  refine zl s rfl rfl TF.agg_9 fun s26 s => ?_
  refine zg rfl (sem_buildSliceL [(0, (.string s26))] [(.string s26)] TF.slc_35 TF.zero_9 rfl (by decide) (by decide) rfl rfl (fun k27 hb1 hb2 h28 hb3 => ?_))
  have s := s k27 hb1 hb2 h28 hb3
  refine zcall s rfl rfl TF.goes_79 ?_
  rintro _ h29 ⟨rfl, s⟩
  refine au 2 rfl ?_
  refine Run.of_fin (s.imp fun h' s => ?_)
  exact Run.fall (.inl ⟨rfl, s⟩)
 ·intro h14 hJ
  have s := hR h14 (by simpa using hJ); clear hJ hR
  refine au 3 rfl ?_
  refine zl s rfl rfl TF.agg_150 fun p30 s => ?_
  refine zcall s rfl rfl TF.goes_67 ?_
  rintro _ h31 ⟨s32, rfl, s⟩
  refine au 2 rfl ?_
  exact zr (s.imp fun _ q => ⟨_, rfl, q⟩)
theorem C_cell_New_int.of {B : RO} {i1 : Int} {i2 : Int} {h : Heap} {Q : Option Addr → Heap → Prop} (s : S_cell_New_int B i1 i2 h Q) : C_cell_New_int B i1 i2 h Q := by
 refine zspec Try.func73 [ResultVar.tmp 4] rfl rfl rfl rfl rfl ?_
 refine au 6 rfl ?_
 refine zg rfl (sem_buildSL [] [(.slice none 0 0)] TF.zero_188 TF.places_188 rfl rfl ?_)
 refine zbn s rfl rfl rfl fun k4 h5 s => ?_
 refine au 9 rfl ?_
 obtain ⟨J11, m9, h0, s⟩ := s
 refine Run.of_fin (h0.imp fun h' h0 => ?_)
 refine Run.loop (σ := Int × Nat) (fun x e h => J11 x.1 x.2 h ∧ Agree [(1, (.int .i64 (i2))), (5, (.pointer (some ⟨k4, 0, none⟩))), (8, (.int .i64 (i1))), (9, (.int .i64 (x.1)))] e) (fun x => x.2) ((0), m9) ⟨h0, ⟨rfl, rfl, rfl, rfl, trivial⟩⟩ ?_; clear h0
 rintro ⟨i6, m8⟩ e h7 ⟨hJ, hag⟩ ih10
 have s := s i6 m8 h7 hJ; clear hJ
 refine Run.env hag ?_; clear hag
 refine au 2 rfl ?_
 refine zt s rfl rfl rfl binI_lss_t binI_lss_f (fun s => ?_) fun s => ?_
 ·refine au 11 rfl ?_
  refine Run.ldSl s fun a12 n13 c14 h15 hl s => ?_
  refine zg rfl (sem_load1 ⟨k4, 0, none⟩ ((.slice a12 n13 c14)) rfl TF.agg_186 hl ?_)
  refine au 1 rfl ?_
  refine zg rfl (sem_buildSL [(0, (.int .i64 (i2)))] [(.int .i64 (i2)), (.int .i64 (0))] TF.zero_190 TF.places_190 rfl rfl ?_)
  refine zg rfl (sem_buildSliceL [(0, (.agg #[(.int .i64 (i2)), (.int .i64 (0))]))] [(.int .i64 (i2)), (.int .i64 (0))] TF.slc_186 TF.zero_190 rfl (by decide) (by decide) rfl rfl (fun k16 hb1 hb2 h17 hb3 => ?_))
  have s := s k16 hb1 hb2 h17 hb3
  refine zg rfl (sem_appendL [(.slice a12 n13 c14), (.slice (some ⟨k16, 0, none⟩) 1 1)] rfl (semH_mono (fun v h18 hv => ?_) s))
  obtain ⟨a19, n20, c21, rfl, s⟩ := hv
  refine au 2 rfl ?_
  refine zs1 s rfl rfl rfl rfl TF.sz_186 fun h22 s => ?_
  refine au 6 rfl ?_
  exact Run.of_fin (s.imp fun h' ⟨m', hm, s⟩ => ih10 ((IntKind.wrap .i64 ((i6) + (1))), m') _ _ ⟨s, ⟨rfl, rfl, rfl, rfl, trivial⟩⟩ hm)
 ·refine au 9 rfl ?_
  exact zr (s.imp fun _ q => ⟨_, rfl, q⟩)
theorem C_feed_New.of {B : RO} {h : Heap} {Q : Option Addr → Heap → Prop} (s : S_feed_New B h Q) : C_feed_New B h Q := by
 refine zspec Try.func74 [ResultVar.tmp 0] rfl rfl rfl rfl rfl ?_
 refine au 6 rfl ?_
 refine zcall s rfl rfl TF.goes_73 ?_
 rintro _ h2 ⟨p3, rfl, s⟩
 refine zg rfl (sem_buildSL [(1, (.pointer p3))] [(.string ByteArray.empty), (.string ByteArray.empty), (.string ByteArray.empty), (.pointer p3)] TF.zero_192 TF.places_192 rfl rfl ?_)
 refine zbn s rfl rfl rfl fun k4 h5 s => ?_
 refine au 2 rfl ?_
 exact zr (s.imp fun _ q => ⟨_, rfl, q⟩)
theorem C_countermandref02_All.of {B : RO} {s1 : ByteArray} {h : Heap} {Q : Option Addr → Nat → Nat → Heap → Prop} (s : S_countermandref02_All B s1 h Q) : C_countermandref02_All B s1 h Q := by
 refine zspec Try.func75 [ResultVar.tmp 2] rfl rfl rfl rfl rfl ?_
 refine au 11 rfl ?_
 refine zcall s rfl rfl TF.goes_93 ?_
 rintro _ h5 ⟨s6, i7, rfl, s⟩
 refine au 8 rfl ?_
 obtain ⟨J18, m16, h0, s⟩ := s
 refine Run.of_fin (h0.imp fun h' h0 => ?_)
 refine Run.loop (σ := ByteArray × (Option Addr) × Nat × Nat × ByteArray × Int × Nat) (fun x e h => J18 x.1 x.2.1 x.2.2.1 x.2.2.2.1 x.2.2.2.2.1 x.2.2.2.2.2.1 x.2.2.2.2.2.2 h ∧ Agree [(0, (.string x.1)), (3, (.slice x.2.1 x.2.2.1 x.2.2.2.1)), (4, (.string x.2.2.2.2.1)), (5, (.int .i64 (x.2.2.2.2.2.1)))] e) (fun x => x.2.2.2.2.2.2) (s1, none, 0, 0, s6, (i7), m16) ⟨h0, ⟨rfl, rfl, rfl, rfl, trivial⟩⟩ ?_; clear h0
 rintro ⟨s8, a9, n10, c11, s12, i13, m15⟩ e h14 ⟨hJ, hag⟩ ih17
 have s := s s8 a9 n10 c11 s12 i13 m15 h14 hJ; clear hJ
 refine Run.env hag ?_; clear hag
 refine au 4 rfl ?_
 refine zt s rfl rfl rfl binI_gtr_t binI_gtr_f (fun s => ?_) fun s => ?_
 ·refine au 8 rfl ?_
  refine zg rfl (sem_buildSliceL [(0, (.string s12))] [(.string s12)] TF.slc_35 TF.zero_9 rfl (by decide) (by decide) rfl rfl (fun k19 hb1 hb2 h20 hb3 => ?_))
  have s := s k19 hb1 hb2 h20 hb3
  refine zg rfl (sem_appendL [(.slice a9 n10 c11), (.slice (some ⟨k19, 0, none⟩) 1 1)] rfl (semH_mono (fun v h21 hv => ?_) s))
  obtain ⟨a22, n23, c24, rfl, s⟩ := hv
  refine au 6 rfl ?_
  obtain ⟨hi0, hi1, hi2, s⟩ := s
  refine zg rfl (sem_sliceStrI s8 (i13) ((ByteArray.size s8 : Nat)) rfl TF.isStr_9 ⟨_, rfl⟩ rfl hi0 hi1 hi2 ?_)
  refine au 4 rfl ?_
  refine zcall s rfl rfl TF.goes_93 ?_
  rintro _ h25 ⟨s26, i27, rfl, s⟩
  refine au 7 rfl ?_
  exact Run.of_fin (s.imp fun h' ⟨m', hm, s⟩ => ih17 ((ByteArray.extract s8 (Int.toNat (i13)) (Int.toNat ((ByteArray.size s8 : Nat)))), a22, n23, c24, s26, (i27), m') _ _ ⟨s, ⟨rfl, rfl, rfl, rfl, trivial⟩⟩ hm)
 ·refine au 8 rfl ?_
  exact zr (s.imp fun _ q => ⟨_, _, _, rfl, q⟩)
theorem C_cell_Row_file_File_Get.of {B : RO} {p1 : Option Addr} {i2 : Int} {h : Heap} {Q : Bool → ByteArray → Int → Heap → Prop} (s : S_cell_Row_file_File_Get B p1 i2 h Q) : C_cell_Row_file_File_Get B p1 i2 h Q := by
 refine zspec Try.func76 [ResultVar.cell 4 111, ResultVar.tmp 5] rfl rfl rfl rfl rfl ?_
 refine au 2 rfl ?_
 refine zal s rfl TF.zero_111 rfl fun k6 h7 s => ?_
 refine au 7 rfl ?_
 refine zcall s rfl rfl TF.goes_94 ?_
 rintro _ h8 ⟨b9, rfl, s⟩
 cases b9
 ·replace s := s.2 rfl
  refine au 5 rfl ?_
  refine zal s rfl TF.zero_111 rfl fun k10 h11 s => ?_
  refine au 3 rfl ?_
  obtain ⟨b12, s13, hl, s⟩ := s
  refine zn hl rfl rfl TF.agg_111 TF.sz_111 rfl ?_
  refine zsn s rfl rfl rfl TF.sz_111 rfl fun h14 s => ?_
  refine au 2 rfl ?_
  obtain ⟨b15, s16, hl0, s⟩ := s
  exact zr (⟨⟨k6, 0, none⟩, (.agg #[(.bool b15), (.string s16)]), rfl, loadHN TF.agg_111 TF.sz_111 hl0, s.imp fun _ q => ⟨_, _, _, rfl, q⟩⟩)
 ·replace s := s.1 rfl
  refine au 5 rfl ?_
  obtain ⟨A18, e19, s⟩ := s
  obtain ⟨a22, n23, c24, hl, s⟩ := s
  have f25 := hl
  obtain ⟨A27, e28, hi0, hi1, s⟩ := s
  have f30 := hi0; have f31 := hi1
  obtain ⟨b33, s34, hl, s⟩ := s
  have f35 := hl
  obtain ⟨A37, e38, s⟩ := s
  obtain ⟨a41, n42, c43, hl, s⟩ := s
  have f44 := hl
  obtain ⟨A46, e47, hi0, hi1, s⟩ := s
  have f49 := hi0; have f50 := hi1
  obtain ⟨i52, hl, s⟩ := s
  have f53 := hl
  refine Run.drawM (fun h' => cellH B h' A18 = some (.slice a22 n23 c24) ∧ CellsAt B h' (Addr.add A27 (Int.toNat (i2) * 3)) 0 [(.bool b33), (.string s34)] ∧ cellH B h' A37 = some (.slice a41 n42 c43) ∧ cellH B h' (Addr.add (Addr.add A46 (Int.toNat (i2) * 3)) 2) = some (.int .i64 (i52)) ∧ True) [] ⟨[0, 1, 2, 4, 0, 24, 32, 64, 0, 256, 512, 1024, 0, 6144, 8192, 16384, 255, 131071], [262143, 262142, 262141, 262139, 262143, 262119, 262111, 262079, 262143, 261887, 261631, 261119, 262143, 255999, 253951, 245759, 262015, 229375], [0, 0, 0, 0, 0, 0, 0, 0, 0, 0, 0, 0, 0, 0, 0, 0, 0, 0], 0⟩ (.q 0 (.q 1 (.q 2 (.q 3 (.q 4 (.q 5 (.q 6 (.q 7 (.q 8 (.q 9 (.q 10 (.q 11 (.q 12 (.q 13 (.q 14 (.q 15 (.x 16 (.q 17 .nil) .no))))))))))))))))) TF.mixed (by kernel_rfl) ⟨f25, f35, f44, f53, trivial⟩ ?_
  refine auT 1 rfl ?_
  refine zq rfl (fun _ hC => sem_nilCheck A18 (congrArg Value.pointer e19) ⟨rfl, rfl⟩) ?_
  refine auT 1 rfl ?_
  refine zq rfl (fun _ hC => sem_load1 A18 ((.slice a22 n23 c24)) rfl TF.agg_197 hC.1 ⟨rfl, rfl⟩) ?_
  refine auT 1 rfl ?_
  refine zq rfl (fun _ hC => sem_indexAddrS A27 n23 c24 .i64 (i2) (congrArg (fun a => Value.slice a n23 c24) e28) rfl TF.slc_197 f30 f31 ⟨rfl, rfl⟩) ?_
  refine auT 1 rfl ?_
  refine zq rfl (fun _ hC => sem_loadN (Addr.add A27 (Int.toNat (i2) * 3)) [(.bool b33), (.string s34)] rfl TF.agg_111 TF.sz_111 hC.2.1 ⟨rfl, rfl⟩) ?_
  refine auT 1 rfl ?_
  refine zq rfl (fun _ hC => sem_nilCheck A37 (congrArg Value.pointer e38) ⟨rfl, rfl⟩) ?_
  refine auT 1 rfl ?_
  refine zq rfl (fun _ hC => sem_load1 A37 ((.slice a41 n42 c43)) rfl TF.agg_197 hC.2.2.1 ⟨rfl, rfl⟩) ?_
  refine auT 1 rfl ?_
  refine zq rfl (fun _ hC => sem_indexAddrS A46 n42 c43 .i64 (i2) (congrArg (fun a => Value.slice a n42 c43) e47) rfl TF.slc_197 f49 f50 ⟨rfl, rfl⟩) ?_
  refine auT 1 rfl ?_
  refine zq rfl (fun _ hC => sem_load1 (Addr.add (Addr.add A46 (Int.toNat (i2) * 3)) 2) ((.int .i64 (i52))) rfl TF.agg_3 hC.2.2.2.1 ⟨rfl, rfl⟩) ?_
  obtain ⟨h54, hst, s⟩ := s
  refine ⟨zo0 rfl (sem_storeN ⟨k6, 0, none⟩ [(.bool b33), (.string s34)] h54 rfl rfl TF.sz_111 hst ?_), trivial⟩
  obtain ⟨g55, g56, g57, g58, s⟩ := s
  refine ⟨fun _ => ⟨g55, g56, g57, g58, trivial⟩, ?_⟩
  refine auT 1 rfl ?_
  obtain ⟨b59, s60, hl0, s⟩ := s
  exact zr (⟨⟨k6, 0, none⟩, (.agg #[(.bool b59), (.string s60)]), rfl, loadHN TF.agg_111 TF.sz_111 hl0, s.imp fun _ q => ⟨_, _, _, rfl, q⟩⟩)
theorem C_stylus_Stylus_Text.of {B : RO} {p1 : Option Addr} {a2 : Option Addr} {n3 : Nat} {c4 : Nat} {h : Heap} {Q : Heap → Prop} (s : S_stylus_Stylus_Text B p1 a2 n3 c4 h Q) : C_stylus_Stylus_Text B p1 a2 n3 c4 h Q := by
 refine zspec Try.func79 [] rfl rfl rfl rfl rfl ?_
 refine au 3 rfl ?_
 refine zg rfl (sem_lenSl a2 n3 c4 rfl TF.sl_35 ?_)
 refine au 3 rfl ?_
 obtain ⟨J10, m8, h0, s⟩ := s
 refine Run.of_fin (h0.imp fun h' h0 => ?_)
 refine Run.loop (σ := Int × Nat) (fun x e h => J10 x.1 x.2 h ∧ Agree [(0, (.pointer p1)), (6, (.slice a2 n3 c4)), (7, (.int .i64 ((n3 : Nat)))), (8, (.int .i64 (x.1)))] e) (fun x => x.2) ((0), m8) ⟨h0, ⟨rfl, rfl, rfl, rfl, trivial⟩⟩ ?_; clear h0
 rintro ⟨i5, m7⟩ e h6 ⟨hJ, hag⟩ ih9
 have s := s i5 m7 h6 hJ; clear hJ
 refine Run.env hag ?_; clear hag
 refine au 2 rfl ?_
 refine zt s rfl rfl rfl binI_lss_t binI_lss_f (fun s => ?_) fun s => ?_
 ·refine au 8 rfl ?_
  obtain ⟨A11, e12, hi0, hi1, s⟩ := s
  refine zg rfl (sem_indexAddrS A11 n3 c4 .i64 (i5) (congrArg (fun a => Value.slice a n3 c4) e12) rfl TF.slc_35 hi0 hi1 ?_)
  refine zl s rfl rfl TF.agg_9 fun s13 s => ?_
  refine au 6 rfl ?_
  refine zg rfl (sem_lenStr s13 rfl TF.isStr_9 ?_)
  refine zg rfl (sem_buildSliceL [(0, (.int .i64 ((ByteArray.size s13 : Nat))))] [(.int .i64 ((ByteArray.size s13 : Nat)))] TF.slc_119 TF.zero_3 rfl (by decide) (by decide) rfl rfl (fun k14 hb1 hb2 h15 hb3 => ?_))
  have s := s k14 hb1 hb2 h15 hb3
  refine zcall s rfl rfl TF.goes_65 ?_
  rintro _ h16 ⟨rfl, s⟩
  refine au 4 rfl ?_
  refine zcall s rfl rfl TF.goes_66 ?_
  rintro _ h17 ⟨rfl, s⟩
  refine au 6 rfl ?_
  exact Run.of_fin (s.imp fun h' ⟨m', hm, s⟩ => ih9 ((IntKind.wrap .i64 ((i5) + (1))), m') _ _ ⟨s, ⟨rfl, rfl, rfl, rfl, trivial⟩⟩ hm)
 ·refine au 4 rfl ?_
  exact zf (s.imp fun _ q => ⟨rfl, q⟩)
theorem C_disk_Disk_Read.of {B : RO} {p1 : Option Addr} {i2 : Int} {h : Heap} {Q : ByteArray → Heap → Prop} (s : S_disk_Disk_Read B p1 i2 h Q) : C_disk_Disk_Read B p1 i2 h Q := by
 refine zspec Try.func80 [ResultVar.tmp 4] rfl rfl rfl rfl rfl ?_
 refine au 4 rfl ?_
 refine Run.seqJ (fun e h5 => Agree [(0, (.pointer p1)), (1, (.int .i64 (i2)))] e ∧ S_disk_Disk_Read_J1 B p1 i2 h5 Q) ?_ fun j4 => ?_
 ·rintro e h5 ⟨hag, s⟩
  refine Run.env hag ?_; clear hag
  refine au 4 rfl ?_
  refine znil s rfl rfl fun A6 s => ?_
  refine au 1 rfl ?_
  obtain ⟨hi0, hi1, s⟩ := s
  refine zg rfl (sem_indexAddrA A6 .i64 (i2) rfl rfl TF.arr_82 hi0 hi1 ?_)
  refine au 1 rfl ?_
  refine zl s rfl rfl TF.agg_9 fun s8 s => ?_
  refine au 2 rfl ?_
  exact zr (s.imp fun _ q => ⟨_, rfl, q⟩)
 refine au 3 rfl ?_
 by_cases hb9 : p1 = none
 ·replace s := s.1 hb9
  refine zg rfl (sem_ptrNilT p1 (.inl rfl) true rfl rfl TF.ptr_23 hb9 rfl ?_)
  refine au 11 rfl ?_
  exact zr (s.imp fun _ q => ⟨_, rfl, q⟩)
 ·replace s := s.2 hb9
  refine zg rfl (sem_ptrNilF p1 (.inl rfl) false rfl rfl TF.ptr_23 hb9 rfl ?_)
  refine au 2 rfl ?_
  refine zcall s rfl rfl TF.goes_29 ?_
  rintro _ h10 ⟨b11, rfl, s⟩
  cases b11
  ·replace s := s.2 rfl
   refine au 8 rfl ?_
   exact zr (s.imp fun _ q => ⟨_, rfl, q⟩)
  ·replace s := s.1 rfl
   refine au 5 rfl ?_
   exact Run.of_fin (s.imp fun h' s => j4 _ _ ⟨⟨rfl, rfl, trivial⟩, s⟩)
theorem C_wafer_Whole.of {B : RO} {s1 : ByteArray} {h : Heap} {Q : Int → Heap → Prop} (s : S_wafer_Whole B s1 h Q) : C_wafer_Whole B s1 h Q := by
 refine zspec Try.func81 [ResultVar.tmp 2] rfl rfl rfl rfl rfl ?_
 refine au 6 rfl ?_
 refine zal s rfl TF.zero_3 rfl fun k3 h4 s => ?_
 refine zs1 s rfl rfl rfl rfl TF.sz_3 fun h5 s => ?_
 refine au 5 rfl ?_
 refine zcall s rfl rfl TF.goes_96 ?_
 rintro v7 h6 ⟨_, rfl, s⟩
 refine au 2 rfl ?_
 obtain ⟨xs13, G9, J12, hit, hins, hG, h0, s, hR⟩ := s
 refine Run.of_fin (h0.imp fun h' h0 => ?_)
 refine Run.range (v7) (xs13.map (fun x : ByteArray => [(.string x)])) G9 J12 rfl hit hins hG h0 rfl (fun a ha => by obtain ⟨x, _, rfl⟩ := List.mem_map.1 ha; rfl) ?_ ?_
 ·rintro q11 args h10 ha hJ
  obtain ⟨s8, hx, rfl⟩ := Option.map_eq_some_iff.1 ((List.getElem?_map ..).symm.trans ha)
  have s := s q11 h10 s8 hx hJ; clear hJ hx ha
  refine zput rfl ?_
  refine au 3 rfl ?_
  refine Run.begin ⟨rfl, ?_⟩
  refine au 2 rfl ?_
  refine zl s rfl rfl TF.agg_3 fun i14 s => ?_
  refine au 1 rfl ?_
  refine zg rfl (sem_lenStr s8 rfl TF.isStr_9 ?_)
  refine au 3 rfl ?_
  refine zs1 s rfl rfl rfl rfl TF.sz_3 fun h15 s => ?_
  refine au 2 rfl ?_
  refine Run.of_fin (s.imp fun h' s => ?_)
  exact Run.fall (.inl ⟨rfl, s⟩)
 ·intro h10 hJ
  have s := hR h10 (by simpa using hJ); clear hJ hR
  refine au 3 rfl ?_
  refine zl s rfl rfl TF.agg_3 fun i16 s => ?_
  refine au 2 rfl ?_
  exact zr (s.imp fun _ q => ⟨_, rfl, q⟩)
theorem C_wal_Log_All.of {B : RO} {p1 : Option Addr} {h : Heap} {Q : Value → Heap → Prop} (s : S_wal_Log_All B p1 h Q) : C_wal_Log_All B p1 h Q := by
 refine zspec Try.func82 [ResultVar.tmp 2] rfl rfl rfl rfl rfl ?_
 refine au 2 rfl ?_
 refine zb1 s rfl rfl rfl rfl fun k3 h4 s => ?_
 refine au 7 rfl ?_
 exact zr (s.imp fun _ q => ⟨_, rfl, q⟩)
theorem C_vault_first.of {B : RO} {s1 : ByteArray} {h : Heap} {Q : Int → ByteArray → Bool → Heap → Prop} (s : S_vault_first B s1 h Q) : C_vault_first B s1 h Q := by
 refine zspec Try.func83 [ResultVar.tmp 2, ResultVar.tmp 3, ResultVar.tmp 4] rfl rfl rfl rfl rfl ?_
 refine au 9 rfl ?_
 refine zcall s rfl rfl TF.goes_57 ?_
 rintro _ h5 ⟨p6, rfl, s⟩
 refine au 5 rfl ?_
 refine zcall s rfl rfl TF.goes_58 ?_
 rintro _ h7 ⟨i8, rfl, s⟩
 refine au 5 rfl ?_
 refine zcall s rfl rfl TF.goes_58 ?_
 rintro _ h9 ⟨i10, rfl, s⟩
 refine au 2 rfl ?_
 refine zcall s rfl rfl TF.goes_62 ?_
 rintro _ h11 ⟨i12, rfl, s⟩
 refine zcall s rfl rfl TF.goes_61 ?_
 rintro _ h13 ⟨s14, rfl, s⟩
 refine au 8 rfl ?_
 refine zcall s rfl rfl TF.goes_59 ?_
 rintro _ h15 ⟨b16, rfl, s⟩
 cases b16
 ·replace s := s.2 rfl
  refine au 3 rfl ?_
  refine zt s rfl rfl rfl binI_eql_t binI_eql_f (fun s => ?_) fun s => ?_
  ·refine au 9 rfl ?_
   exact zr (s.imp fun _ q => ⟨_, _, _, rfl, q⟩)
  ·refine au 9 rfl ?_
   exact zr (s.imp fun _ q => ⟨_, _, _, rfl, q⟩)
 ·replace s := s.1 rfl
  refine au 13 rfl ?_
  exact zr (s.imp fun _ q => ⟨_, _, _, rfl, q⟩)
theorem C_cell_New_file_File.of {B : RO} {i1 : Int} {b2 : Bool} {s3 : ByteArray} {h : Heap} {Q : Option Addr → Heap → Prop} (s : S_cell_New_file_File B i1 b2 s3 h Q) : C_cell_New_file_File B i1 b2 s3 h Q := by
 refine zspec Try.func84 [ResultVar.tmp 4] rfl rfl rfl rfl rfl ?_
 refine au 2 rfl ?_
 refine zbn s rfl rfl rfl fun k5 h6 s => ?_
 refine au 4 rfl ?_
 refine zg rfl (sem_buildSL [] [(.slice none 0 0)] TF.zero_199 TF.places_199 rfl rfl ?_)
 refine zbn s rfl rfl rfl fun k7 h8 s => ?_
 refine au 9 rfl ?_
 obtain ⟨J14, m12, h0, s⟩ := s
 refine Run.of_fin (h0.imp fun h' h0 => ?_)
 refine Run.loop (σ := Int × Nat) (fun x e h => J14 x.1 x.2 h ∧ Agree [(3, (.pointer (some ⟨k5, 0, none⟩))), (5, (.pointer (some ⟨k7, 0, none⟩))), (8, (.int .i64 (i1))), (9, (.int .i64 (x.1)))] e) (fun x => x.2) ((0), m12) ⟨h0, ⟨rfl, rfl, rfl, rfl, trivial⟩⟩ ?_; clear h0
 rintro ⟨i9, m11⟩ e h10 ⟨hJ, hag⟩ ih13
 have s := s i9 m11 h10 hJ; clear hJ
 refine Run.env hag ?_; clear hag
 refine au 2 rfl ?_
 refine zt s rfl rfl rfl binI_lss_t binI_lss_f (fun s => ?_) fun s => ?_
 ·refine au 6 rfl ?_
  obtain ⟨a19, n20, c21, hl, s⟩ := s
  have f22 := hl
  obtain ⟨b23, s24, hl, s⟩ := s
  have f25 := hl
  refine Run.drawM (fun h' => cellH B h' ⟨k7, 0, none⟩ = some (.slice a19 n20 c21) ∧ CellsAt B h' ⟨k5, 0, none⟩ 0 [(.bool b23), (.string s24)] ∧ True) [11] ⟨[0, 0, 2, 4, 8, 0, 32, 64, 144, 511, 1023, 1535], [4095, 4095, 4093, 4091, 4087, 4095, 4063, 4031, 3951, 4094, 3583, 2815], [0, 0, 2, 6, 14, 0, 32, 96, 254, 511, 1023, 2047], 2048⟩ (.q 0 (.q 1 (.q 2 (.q 3 (.q 4 (.q 5 (.q 6 (.x 7 (.x 8 (.q 9 (.q 10 (.x 11 .nil .no))) .no) .no)))))))) TF.mixed (by kernel_rfl) ⟨f22, f25, trivial⟩ ?_
  refine auT 4 rfl ?_
  refine zq rfl (fun _ hC => sem_load1 ⟨k7, 0, none⟩ ((.slice a19 n20 c21)) rfl TF.agg_197 hC.1 ⟨rfl, rfl⟩) ?_
  refine zq rfl (fun _ hC => sem_loadN ⟨k5, 0, none⟩ [(.bool b23), (.string s24)] rfl TF.agg_111 TF.sz_111 hC.2.1 ⟨rfl, rfl⟩) ?_
  refine zq rfl (fun _ hC => sem_buildSL [(0, (.agg #[(.bool b23), (.string s24)]))] [(.bool b23), (.string s24), (.int .i64 (0))] TF.zero_196 TF.places_196 rfl rfl ⟨rfl, rfl⟩) ?_
  refine ⟨zo rfl (sem_buildSliceL [(0, (.agg #[(.bool b23), (.string s24), (.int .i64 (0))]))] [(.bool b23), (.string s24), (.int .i64 (0))] TF.slc_197 TF.zero_196 rfl (by decide) (by decide) rfl rfl (fun k27 hb1 hb2 h28 hb3 => ?_)), trivial⟩
  have s := s k27 hb1 hb2 h28 hb3
  obtain ⟨g29, g30, s⟩ := s
  refine ⟨fun _ => ⟨g29, g30, trivial⟩, ?_⟩
  refine ⟨zo rfl (sem_appendL [(.slice a19 n20 c21), (.slice (some ⟨k27, 0, none⟩) 1 1)] rfl (semH_mono (fun v h31 hv => ?_) s)), trivial⟩
  obtain ⟨a32, n33, c34, rfl, s⟩ := hv
  obtain ⟨g35, g36, s⟩ := s
  refine ⟨fun _ => ⟨g35, g36, trivial⟩, ?_⟩
  refine auT 2 rfl ?_
  obtain ⟨h37, hst, s⟩ := s
  refine ⟨zo0 rfl (sem_store1 ⟨k7, 0, none⟩ ((.slice a32 n33 c34)) h37 rfl rfl rfl TF.sz_197 hst ?_), trivial⟩
  refine ⟨fun hz => Bool.noConfusion hz, ?_⟩
  refine au 5 rfl ?_
  exact Run.of_fin (s.imp fun h' ⟨m', hm, s⟩ => ih13 ((IntKind.wrap .i64 ((i9) + (1))), m') _ _ ⟨s, ⟨rfl, rfl, rfl, rfl, trivial⟩⟩ hm)
 ·refine au 9 rfl ?_
  exact zr (s.imp fun _ q => ⟨_, rfl, q⟩)
theorem C_stylus_Reader_word.of {B : RO} {p1 : Option Addr} {h : Heap} {Q : Int → Heap → Prop} (s : S_stylus_Reader_word B p1 h Q) : C_stylus_Reader_word B p1 h Q := by
 refine zspec Try.func85 [ResultVar.tmp 2] rfl rfl rfl rfl rfl ?_
 refine au 14 rfl ?_
 obtain ⟨J9, m7, h0, s⟩ := s
 refine Run.of_fin (h0.imp fun h' h0 => ?_)
 refine Run.loop (σ := Int × Int × Nat) (fun x e h => J9 x.1 x.2.1 x.2.2 h ∧ Agree [(0, (.pointer p1)), (3, (.int .u64 (x.1))), (4, (.int .i64 (x.2.1)))] e) (fun x => x.2.2) ((0), (0), m7) ⟨h0, ⟨rfl, rfl, rfl, trivial⟩⟩ ?_; clear h0
 rintro ⟨i3, i4, m6⟩ e h5 ⟨hJ, hag⟩ ih8
 have s := s i3 i4 m6 h5 hJ; clear hJ
 refine Run.env hag ?_; clear hag
 refine au 4 rfl ?_
 refine zt s rfl rfl rfl binI_lss_t binI_lss_f (fun s => ?_) fun s => ?_
 ·refine au 8 rfl ?_
  refine zcall s rfl rfl TF.goes_61 ?_
  rintro _ h10 ⟨s11, rfl, s⟩
  refine au 2 rfl ?_
  refine Run.seqJ (fun e h13 => Agree [(0, (.pointer p1)), (3, (.int .u64 (i3))), (4, (.int .i64 (i4))), (5, (.string s11))] e ∧ S_stylus_Reader_word_J1 B p1 i3 i4 m6 J9 s11 h13 Q) ?_ fun j12 => ?_
  ·rintro e h13 ⟨hag, s⟩
   refine Run.env hag ?_; clear hag
   refine au 4 rfl ?_
   obtain ⟨hi0, hi1, s⟩ := s
   refine zg rfl (sem_indexStr' s11 .i64 (0) rfl rfl TF.isStr_9 hi0 hi1 ?_)
   refine au 1 rfl ?_
   refine zg rfl (sem_convI .u8 .u64 (IntKind.wrap .u8 ((BitVec.ofInt (IntKind.bits .u8) (byteAt s11 (Int.toNat (0))) &&& BitVec.ofInt (IntKind.bits .u8) (127)).toNat : Int)) rfl TF.int_5 TF.int_88 ?_)
   refine au 1 rfl ?_
   obtain ⟨hi0, s⟩ := s
   refine zg rfl (sem_shl .u64 .i64 (IntKind.wrap .u64 (IntKind.wrap .u8 ((BitVec.ofInt (IntKind.bits .u8) (byteAt s11 (Int.toNat (0))) &&& BitVec.ofInt (IntKind.bits .u8) (127)).toNat : Int))) (i4) rfl rfl hi0 ?_)
   refine au 6 rfl ?_
   obtain ⟨hi0, hi1, s⟩ := s
   refine zg rfl (sem_indexStr' s11 .i64 (0) rfl rfl TF.isStr_9 hi0 hi1 ?_)
   refine zt s rfl rfl rfl binI_lss_t binI_lss_f (fun s => ?_) fun s => ?_
   ·refine au 7 rfl ?_
    exact zr (s.imp fun _ q => ⟨_, rfl, q⟩)
   ·refine au 9 rfl ?_
    exact Run.of_fin (s.imp fun h' ⟨m', hm, s⟩ => ih8 ((IntKind.wrap .u64 ((BitVec.ofInt (IntKind.bits .u64) (i3) ||| BitVec.ofInt (IntKind.bits .u64) (IntKind.wrap .u64 ((IntKind.wrap .u64 (IntKind.wrap .u8 ((BitVec.ofInt (IntKind.bits .u8) (byteAt s11 (Int.toNat (0))) &&& BitVec.ofInt (IntKind.bits .u8) (127)).toNat : Int))) * 2 ^ (min (Int.toNat (i4)) (IntKind.bits .u64))))).toNat : Int)), (IntKind.wrap .i64 ((i4) + (7))), m') _ _ ⟨s, ⟨rfl, rfl, rfl, trivial⟩⟩ hm)
  refine au 3 rfl ?_
  by_cases hb14 : s11 = (ByteArray.mk #[])
  ·replace s := s.1 hb14
   refine zg rfl (sem_strEqT s11 (ByteArray.mk #[]) rfl rfl hb14 ?_)
   refine au 24 rfl ?_
   refine zcall s rfl rfl TF.goes_86 ?_
   rintro _ h15 ⟨rfl, s⟩
   refine au 5 rfl ?_
   exact zr (s.imp fun _ q => ⟨_, rfl, q⟩)
  ·replace s := s.2 hb14
   refine zg rfl (sem_strEqF s11 (ByteArray.mk #[]) rfl rfl hb14 ?_)
   refine au 2 rfl ?_
   refine zt s rfl rfl rfl binI_eql_t binI_eql_f (fun s => ?_) fun s => ?_
   ·refine au 2 rfl ?_
    obtain ⟨hi0, hi1, s⟩ := s
    refine zg rfl (sem_indexStr' s11 .i64 (0) rfl rfl TF.isStr_9 hi0 hi1 ?_)
    refine zt s rfl rfl rfl binI_gtr_t binI_gtr_f (fun s => ?_) fun s => ?_
    ·refine au 17 rfl ?_
     refine zcall s rfl rfl TF.goes_86 ?_
     rintro _ h16 ⟨rfl, s⟩
     refine au 5 rfl ?_
     exact zr (s.imp fun _ q => ⟨_, rfl, q⟩)
    ·refine au 4 rfl ?_
     refine zt s rfl rfl rfl binI_gtr_t binI_gtr_f (fun s => ?_) fun s => ?_
     ·refine au 2 rfl ?_
      obtain ⟨hi0, hi1, s⟩ := s
      refine zg rfl (sem_indexStr' s11 .i64 (0) rfl rfl TF.isStr_9 hi0 hi1 ?_)
      refine zt s rfl rfl rfl binI_eql_t binI_eql_f (fun s => ?_) fun s => ?_
      ·refine au 8 rfl ?_
       refine zcall s rfl rfl TF.goes_86 ?_
       rintro _ h17 ⟨rfl, s⟩
       refine au 5 rfl ?_
       exact zr (s.imp fun _ q => ⟨_, rfl, q⟩)
      ·refine au 5 rfl ?_
       exact Run.of_fin (s.imp fun h' s => j12 _ _ ⟨⟨rfl, rfl, rfl, rfl, trivial⟩, s⟩)
     ·refine au 9 rfl ?_
      exact Run.of_fin (s.imp fun h' s => j12 _ _ ⟨⟨rfl, rfl, rfl, rfl, trivial⟩, s⟩)
   ·refine au 8 rfl ?_
    refine zt s rfl rfl rfl binI_gtr_t binI_gtr_f (fun s => ?_) fun s => ?_
    ·refine au 2 rfl ?_
     obtain ⟨hi0, hi1, s⟩ := s
     refine zg rfl (sem_indexStr' s11 .i64 (0) rfl rfl TF.isStr_9 hi0 hi1 ?_)
     refine zt s rfl rfl rfl binI_eql_t binI_eql_f (fun s => ?_) fun s => ?_
     ·refine au 8 rfl ?_
      refine zcall s rfl rfl TF.goes_86 ?_
      rintro _ h18 ⟨rfl, s⟩
      refine au 5 rfl ?_
      exact zr (s.imp fun _ q => ⟨_, rfl, q⟩)
     ·refine au 5 rfl ?_
      exact Run.of_fin (s.imp fun h' s => j12 _ _ ⟨⟨rfl, rfl, rfl, rfl, trivial⟩, s⟩)
    ·refine au 9 rfl ?_
     exact Run.of_fin (s.imp fun h' s => j12 _ _ ⟨⟨rfl, rfl, rfl, rfl, trivial⟩, s⟩)
 ·refine au 6 rfl ?_
  refine zcall s rfl rfl TF.goes_86 ?_
  rintro _ h19 ⟨rfl, s⟩
  refine au 5 rfl ?_
  exact zr (s.imp fun _ q => ⟨_, rfl, q⟩)
theorem C_stylus_Reader_Spoil.of {B : RO} {p1 : Option Addr} {h : Heap} {Q : Heap → Prop} (s : S_stylus_Reader_Spoil B p1 h Q) : C_stylus_Reader_Spoil B p1 h Q := by
 refine zspec Try.func86 [] rfl rfl rfl rfl rfl ?_
 refine au 3 rfl ?_
 by_cases hb2 : p1 = none
 ·replace s := s.1 hb2
  refine zg rfl (sem_ptrNilT p1 (.inr rfl) false rfl rfl TF.ptr_141 hb2 rfl ?_)
  refine au 3 rfl ?_
  exact zf (s.imp fun _ q => ⟨rfl, q⟩)
 ·replace s := s.2 hb2
  refine zg rfl (sem_ptrNilF p1 (.inr rfl) true rfl rfl TF.ptr_141 hb2 rfl ?_)
  refine au 5 rfl ?_
  refine znil s rfl rfl fun A3 s => ?_
  refine au 1 rfl ?_
  refine zs1 s rfl rfl rfl rfl TF.sz_9 fun h5 s => ?_
  refine znil s rfl rfl fun A6 s => ?_
  refine au 1 rfl ?_
  refine zs1 s rfl rfl rfl rfl TF.sz_4 fun h8 s => ?_
  refine au 1 rfl ?_
  exact zf (s.imp fun _ q => ⟨rfl, q⟩)
theorem C_stylus_Reader_Text.of {B : RO} {p1 : Option Addr} {i2 : Int} {h : Heap} {Q : ByteArray → Heap → Prop} (s : S_stylus_Reader_Text B p1 i2 h Q) : C_stylus_Reader_Text B p1 i2 h Q := by
 refine zspec Try.func87 [ResultVar.tmp 4] rfl rfl rfl rfl rfl ?_
 refine au 9 rfl ?_
 refine zcall s rfl rfl TF.goes_58 ?_
 rintro _ h4 ⟨i5, rfl, s⟩
 refine zcall s rfl rfl TF.goes_61 ?_
 rintro _ h6 ⟨s7, rfl, s⟩
 refine au 2 rfl ?_
 exact zr (s.imp fun _ q => ⟨_, rfl, q⟩)
theorem C_tome_Tome_Set.of {B : RO} {p1 : Option Addr} {i2 : Int} {b3 : Bool} {s4 : ByteArray} {i5 : Int} {h : Heap} {Q : Bool → Heap → Prop} (s : S_tome_Tome_Set B p1 i2 b3 s4 i5 h Q) : C_tome_Tome_Set B p1 i2 b3 s4 i5 h Q := by
 refine zspec Try.func88 [ResultVar.tmp 8] rfl rfl rfl rfl rfl ?_
 refine au 2 rfl ?_
 refine zbn s rfl rfl rfl fun k7 h8 s => ?_
 refine au 3 rfl ?_
 by_cases hb10 : p1 = none
 ·replace s := s.1 hb10
  refine Run.drawM (fun h' => True) [] ⟨[0, 1, 2, 4, 12, 20, 48, 64, 192, 320, 576, 64, 64, 64, 15424, 16448, 65535], [131071, 131070, 131069, 131067, 131059, 131051, 131039, 131007, 130879, 130751, 130495, 131007, 131007, 131007, 115647, 114623, 98303], [0, 0, 0, 0, 0, 0, 0, 0, 0, 0, 0, 0, 0, 0, 0, 0, 0], 0⟩ (.q 0 (.q 1 (.q 2 (.q 3 (.x 4 (.q 5 (.q 6 (.q 7 (.q 8 (.q 9 (.q 11 (.q 13 (.x 10 (.x 12 (.x 14 (.q 15 (.q 16 .nil)) .no) .no) (.x 12 (.x 10 (.x 14 (.q 15 (.q 16 .nil)) .no) .no) .no))))))))) .no))))) TF.mixed (by kernel_rfl) trivial ?_
  refine auT 1 rfl ?_
  refine zq rfl (fun _ hC => sem_ptrNilT p1 (.inr rfl) false rfl rfl TF.ptr_41 hb10 rfl ⟨rfl, rfl⟩) ?_
  refine auT 2 rfl ?_
  refine ⟨zon rfl ⟨fun _ => trivial, ?_⟩, trivial⟩
  refine auT 7 rfl ?_
  refine RunT.joinJ (t := (.x 14 (.q 15 (.q 16 .nil)) .no)) (fun e h14 => Agree [(8, (.bool false)), (15, (.bool false))] e ∧ S_tome_Tome_Set_J1 B h14 Q) ?_ fun j13 => ?_
  ·rintro e h14 ⟨hag, s⟩
   refine RunT.env hag ?_; clear hag
   refine ⟨zon rfl ⟨fun _ => trivial, ?_⟩, trivial⟩
   refine auT 2 rfl ?_
   exact zr (s.imp fun _ q => ⟨_, rfl, q⟩)
  refine ⟨?_, ?_, trivial⟩
  ·have s := s.1
   refine zon rfl ⟨fun _ => trivial, ?_⟩
   refine ⟨zon rfl ⟨fun _ => trivial, ?_⟩, trivial⟩
   exact j13 _ _ ⟨⟨rfl, rfl, trivial⟩, s⟩
  ·have s := s.2
   refine zon rfl ⟨fun _ => trivial, ?_⟩
   refine ⟨zon rfl ⟨fun _ => trivial, ?_⟩, trivial⟩
   exact j13 _ _ ⟨⟨rfl, rfl, trivial⟩, s⟩
 ·replace s := s.2 hb10
  obtain ⟨b17, s18, hl, s⟩ := s
  have f19 := hl
  refine Run.drawM (fun h' => CellsAt B h' ⟨k7, 0, none⟩ 0 [(.bool b17), (.string s18)] ∧ True) [] ⟨[0, 1, 2, 4, 12, 20, 48, 64, 192, 320, 576, 64, 64, 64, 15424, 16448, 65535], [131071, 131070, 131069, 131067, 131059, 131051, 131039, 131007, 130879, 130751, 130495, 131007, 131007, 131007, 115647, 114623, 98303], [0, 0, 0, 0, 0, 0, 0, 0, 0, 0, 0, 0, 0, 0, 0, 0, 0], 0⟩ (.q 0 (.q 1 (.q 2 (.q 3 (.x 4 (.q 5 (.q 6 (.q 7 (.q 8 (.q 9 (.q 11 (.q 13 (.x 10 (.x 12 (.x 14 (.q 15 (.q 16 .nil)) .no) .no) (.x 12 (.x 10 (.x 14 (.q 15 (.q 16 .nil)) .no) .no) .no))))))))) .no))))) TF.mixed (by kernel_rfl) ⟨f19, trivial⟩ ?_
  refine auT 1 rfl ?_
  refine zq rfl (fun _ hC => sem_ptrNilF p1 (.inr rfl) true rfl rfl TF.ptr_41 hb10 rfl ⟨rfl, rfl⟩) ?_
  refine auT 1 rfl ?_
  refine zq rfl (fun _ hC => sem_loadN ⟨k7, 0, none⟩ [(.bool b17), (.string s18)] rfl TF.agg_111 TF.sz_111 hC.1 ⟨rfl, rfl⟩) ?_
  refine ⟨zo rfl (sem_callL [(.agg #[(.bool b17), (.string s18)])] (TF.goes_98) rfl rfl (Spec.mono s fun v h20 hv => ?_)), trivial⟩
  obtain ⟨b21, rfl, s⟩ := hv
  cases b21
  ·replace s := s.2 rfl
   obtain ⟨g22, s⟩ := s
   refine ⟨fun _ => ⟨g22, trivial⟩, ?_⟩
   refine auT 7 rfl ?_
   refine RunT.joinJ (t := (.x 14 (.q 15 (.q 16 .nil)) .no)) (fun e h24 => Agree [(8, (.bool false)), (15, (.bool false))] e ∧ CellsAt B h24 ⟨k7, 0, none⟩ 0 [(.bool b17), (.string s18)] ∧ S_tome_Tome_Set_J2 B k7 b17 s18 h24 Q) ?_ fun j23 => ?_
   ·rintro e h24 ⟨hag, g25, s⟩
    refine RunT.env hag ?_; clear hag
    refine ⟨zon rfl ⟨fun _ => ⟨g25, trivial⟩, ?_⟩, trivial⟩
    refine auT 2 rfl ?_
    exact zr (s.imp fun _ q => ⟨_, rfl, q⟩)
   refine ⟨?_, ?_, trivial⟩
   ·have s := s.1
    refine zon rfl ⟨fun _ => ⟨g22, trivial⟩, ?_⟩
    refine ⟨zon rfl ⟨fun _ => ⟨g22, trivial⟩, ?_⟩, trivial⟩
    exact j23 _ _ ⟨⟨rfl, rfl, trivial⟩, g22, s⟩
   ·have s := s.2
    refine zon rfl ⟨fun _ => ⟨g22, trivial⟩, ?_⟩
    refine ⟨zon rfl ⟨fun _ => ⟨g22, trivial⟩, ?_⟩, trivial⟩
    exact j23 _ _ ⟨⟨rfl, rfl, trivial⟩, g22, s⟩
  ·replace s := s.1 rfl
   obtain ⟨g26, s⟩ := s
   refine ⟨fun _ => ⟨g26, trivial⟩, ?_⟩
   refine auT 3 rfl ?_
   obtain ⟨A27, e28, s⟩ := s
   refine zq rfl (fun _ _ => sem_nilCheck A27 (congrArg Value.pointer e28) ⟨rfl, rfl⟩) ?_
   refine auT 3 rfl ?_
   refine RunT.joinJ (t := (.x 14 (.q 15 (.q 16 .nil)) .no)) (fun e h39 => ∃ p36 : Option Addr, ∃ b37 : Bool, ∃ s38 : ByteArray, Agree [(8, (.bool false)), (15, (.bool true)), (19, (.pointer p36)), (20, (.int .i64 (i2))), (21, (.agg #[(.bool b37), (.string s38)])), (22, (.int .i64 (i5)))] e ∧ CellsAt B h39 ⟨k7, 0, none⟩ 0 [(.bool b17), (.string s18)] ∧ S_tome_Tome_Set_J3 B i2 i5 k7 b17 s18 p36 b37 s38 h39 Q) ?_ fun j35 => ?_
   ·rintro e h39 ⟨p36, b37, s38, hag, g40, s⟩
    refine RunT.env hag ?_; clear hag
    refine ⟨zo rfl (sem_callL [(.pointer p36), (.int .i64 (i2)), (.agg #[(.bool b37), (.string s38)]), (.int .i64 (i5))] (TF.goes_99) rfl rfl (Spec.mono s fun v h41 hv => ?_)), trivial⟩
    obtain ⟨b42, rfl, s⟩ := hv
    obtain ⟨g43, s⟩ := s
    refine ⟨fun _ => ⟨g43, trivial⟩, ?_⟩
    refine auT 2 rfl ?_
    exact zr (s.imp fun _ q => ⟨_, rfl, q⟩)
   refine ⟨?_, ?_, trivial⟩
   ·have s := s.1
    obtain ⟨p44, hl, s⟩ := s
    refine zo rfl (sem_load1 A27 ((.pointer p44)) rfl TF.agg_162 hl ?_)
    refine ⟨fun _ => ⟨g26, trivial⟩, ?_⟩
    obtain ⟨b45, s46, hl, s⟩ := s
    refine ⟨zo rfl (sem_loadN ⟨k7, 0, none⟩ [(.bool b45), (.string s46)] rfl TF.agg_111 TF.sz_111 hl ?_), trivial⟩
    refine ⟨fun _ => ⟨g26, trivial⟩, ?_⟩
    exact j35 _ _ ⟨p44, (b45), s46, ⟨rfl, rfl, rfl, rfl, rfl, rfl, trivial⟩, g26, s⟩
   ·have s := s.2
    obtain ⟨b47, s48, hl, s⟩ := s
    refine zo rfl (sem_loadN ⟨k7, 0, none⟩ [(.bool b47), (.string s48)] rfl TF.agg_111 TF.sz_111 hl ?_)
    refine ⟨fun _ => ⟨g26, trivial⟩, ?_⟩
    obtain ⟨p49, hl, s⟩ := s
    refine ⟨zo rfl (sem_load1 A27 ((.pointer p49)) rfl TF.agg_162 hl ?_), trivial⟩
    refine ⟨fun _ => ⟨g26, trivial⟩, ?_⟩
    exact j35 _ _ ⟨p49, (b47), s48, ⟨rfl, rfl, rfl, rfl, rfl, rfl, trivial⟩, g26, s⟩
theorem C_disk_Disk_Reset.of {B : RO} {p1 : Option Addr} {i2 : Int} {h : Heap} {Q : Int → Heap → Prop} (s : S_disk_Disk_Reset B p1 i2 h Q) : C_disk_Disk_Reset B p1 i2 h Q := by
 refine zspec Try.func89 [ResultVar.tmp 4] rfl rfl rfl rfl rfl ?_
 refine au 4 rfl ?_
 refine Run.seqJ (fun e h5 => Agree [(0, (.pointer p1)), (1, (.int .i64 (i2)))] e ∧ S_disk_Disk_Reset_J1 B p1 i2 h5 Q) ?_ fun j4 => ?_
 ·rintro e h5 ⟨hag, s⟩
  refine Run.env hag ?_; clear hag
  refine au 4 rfl ?_
  refine znil s rfl rfl fun A6 s => ?_
  refine au 1 rfl ?_
  obtain ⟨hi0, hi1, s⟩ := s
  refine zg rfl (sem_indexAddrA A6 .i64 (i2) rfl rfl TF.arr_82 hi0 hi1 ?_)
  refine au 1 rfl ?_
  refine zs1 s rfl rfl rfl rfl TF.sz_9 fun h8 s => ?_
  refine au 5 rfl ?_
  refine znil s rfl rfl fun A9 s => ?_
  refine au 1 rfl ?_
  refine Run.ldSl s fun a11 n12 c13 h14 hl s => ?_
  refine zg rfl (sem_load1 (Addr.add A9 4) ((.slice a11 n12 c13)) rfl TF.agg_83 hl ?_)
  refine au 1 rfl ?_
  refine zg rfl (sem_buildSL [(0, (.int .i64 (i2))), (1, (.bool true))] [(.int .i64 (i2)), (.bool true), (.string ByteArray.empty)] TF.zero_87 TF.places_87 rfl rfl ?_)
  refine zg rfl (sem_buildSliceL [(0, (.agg #[(.int .i64 (i2)), (.bool true), (.string ByteArray.empty)]))] [(.int .i64 (i2)), (.bool true), (.string ByteArray.empty)] TF.slc_83 TF.zero_87 rfl (by decide) (by decide) rfl rfl (fun k15 hb1 hb2 h16 hb3 => ?_))
  have s := s k15 hb1 hb2 h16 hb3
  refine zg rfl (sem_appendL [(.slice a11 n12 c13), (.slice (some ⟨k15, 0, none⟩) 1 1)] rfl (semH_mono (fun v h17 hv => ?_) s))
  obtain ⟨a18, n19, c20, rfl, s⟩ := hv
  refine znil s rfl rfl fun A21 s => ?_
  refine au 1 rfl ?_
  refine zs1 s rfl rfl rfl rfl TF.sz_83 fun h23 s => ?_
  refine au 5 rfl ?_
  exact zr (s.imp fun _ q => ⟨_, rfl, q⟩)
 refine au 4 rfl ?_
 by_cases hb24 : p1 = none
 ·replace s := s.1 hb24
  refine zg rfl (sem_ptrNilT p1 (.inl rfl) true rfl rfl TF.ptr_23 hb24 rfl ?_)
  refine au 7 rfl ?_
  exact zr (s.imp fun _ q => ⟨_, rfl, q⟩)
 ·replace s := s.2 hb24
  refine zg rfl (sem_ptrNilF p1 (.inl rfl) false rfl rfl TF.ptr_23 hb24 rfl ?_)
  refine au 6 rfl ?_
  refine zcall s rfl rfl TF.goes_29 ?_
  rintro _ h25 ⟨b26, rfl, s⟩
  cases b26
  ·replace s := s.2 rfl
   refine au 8 rfl ?_
   exact zr (s.imp fun _ q => ⟨_, rfl, q⟩)
  ·replace s := s.1 rfl
   refine au 6 rfl ?_
   exact Run.of_fin (s.imp fun h' s => j4 _ _ ⟨⟨rfl, rfl, trivial⟩, s⟩)
theorem C_disk_Disk_Sync.of {B : RO} {p1 : Option Addr} {h : Heap} {Q : Heap → Prop} (s : S_disk_Disk_Sync B p1 h Q) : C_disk_Disk_Sync B p1 h Q := by
 refine zspec Try.func90 [] rfl rfl rfl rfl rfl ?_
 refine au 4 rfl ?_
 by_cases hb2 : p1 = none
 ·replace s := s.1 hb2
  refine zg rfl (sem_ptrNilT p1 (.inl rfl) true rfl rfl TF.ptr_23 hb2 rfl ?_)
  refine au 2 rfl ?_
  exact zr (s.imp fun _ q => ⟨rfl, q⟩)
 ·replace s := s.2 hb2
  refine zg rfl (sem_ptrNilF p1 (.inl rfl) false rfl rfl TF.ptr_23 hb2 rfl ?_)
  refine au 7 rfl ?_
  refine znil s rfl rfl fun A3 s => ?_
  refine au 1 rfl ?_
  refine Run.ldSl s fun a5 n6 c7 h8 hl s => ?_
  refine zg rfl (sem_load1 (Addr.add A3 4) ((.slice a5 n6 c7)) rfl TF.agg_83 hl ?_)
  refine zg rfl (sem_lenSl a5 n6 c7 rfl TF.sl_83 ?_)
  refine au 3 rfl ?_
  obtain ⟨J14, m12, h0, s⟩ := s
  refine Run.of_fin (h0.imp fun h' h0 => ?_)
  refine Run.loop (σ := Int × Nat) (fun x e h => J14 x.1 x.2 h ∧ Agree [(0, (.pointer p1)), (9, (.slice a5 n6 c7)), (10, (.int .i64 ((n6 : Nat)))), (11, (.int .i64 (x.1)))] e) (fun x => x.2) ((0), m12) ⟨h0, ⟨rfl, rfl, rfl, rfl, trivial⟩⟩ ?_; clear h0
  rintro ⟨i9, m11⟩ e h10 ⟨hJ, hag⟩ ih13
  have s := s i9 m11 h10 hJ; clear hJ
  refine Run.env hag ?_; clear hag
  refine au 2 rfl ?_
  refine zt s rfl rfl rfl binI_lss_t binI_lss_f (fun s => ?_) fun s => ?_
  ·refine au 8 rfl ?_
   obtain ⟨A15, e16, hi0, hi1, s⟩ := s
   refine zg rfl (sem_indexAddrS A15 n6 c7 .i64 (i9) (congrArg (fun a => Value.slice a n6 c7) e16) rfl TF.slc_83 hi0 hi1 ?_)
   obtain ⟨i17, b18, s19, hl, s⟩ := s
   refine zn hl rfl rfl TF.agg_87 TF.sz_87 rfl ?_
   refine zal s rfl TF.zero_87 rfl fun k20 h21 s => ?_
   refine zsn s rfl rfl rfl TF.sz_87 rfl fun h22 s => ?_
   refine au 3 rfl ?_
   obtain ⟨i23, b24, s25, hl, s⟩ := s
   refine zn hl rfl rfl TF.agg_87 TF.sz_87 rfl ?_
   refine zcall s rfl rfl TF.goes_45 ?_
   rintro _ h26 ⟨rfl, s⟩
   refine au 6 rfl ?_
   exact Run.of_fin (s.imp fun h' ⟨m', hm, s⟩ => ih13 ((IntKind.wrap .i64 ((i9) + (1))), m') _ _ ⟨s, ⟨rfl, rfl, rfl, rfl, trivial⟩⟩ hm)
  ·refine au 6 rfl ?_
   refine znil s rfl rfl fun A27 s => ?_
   refine au 1 rfl ?_
   refine zs1 s rfl rfl rfl rfl TF.sz_83 fun h29 s => ?_
   refine au 1 rfl ?_
   exact zf (s.imp fun _ q => ⟨rfl, q⟩)
theorem C_wafer_Close.of {B : RO} {s1 : ByteArray} {h : Heap} {Q : ByteArray → Heap → Prop} (s : S_wafer_Close B s1 h Q) : C_wafer_Close B s1 h Q := by
 refine zspec Try.func91 [ResultVar.tmp 2] rfl rfl rfl rfl rfl ?_
 refine au 7 rfl ?_
 refine zg rfl (sem_lenStr s1 rfl TF.isStr_9 ?_)
 refine au 6 rfl ?_
 refine zt s rfl rfl rfl binI_gtr_t binI_gtr_f (fun s => ?_) fun s => ?_
 ·refine au 6 rfl ?_
  exact zr (s.imp fun _ q => ⟨_, rfl, q⟩)
 ·refine au 6 rfl ?_
  obtain ⟨hi0, s⟩ := s
  refine zg rfl (sem_shr .i64 .u64 ((ByteArray.size s1 : Nat)) (8) rfl rfl hi0 ?_)
  refine zg rfl (sem_convI .i64 .u8 (Int.fdiv ((ByteArray.size s1 : Nat)) (2 ^ (min (Int.toNat (8)) (IntKind.bits .i64)))) rfl TF.int_3 TF.int_5 ?_)
  refine au 1 rfl ?_
  refine zg rfl (sem_convI .i64 .u8 ((ByteArray.size s1 : Nat)) rfl TF.int_3 TF.int_5 ?_)
  refine zg rfl (sem_buildSliceL [(0, (.int .u8 (IntKind.wrap .u8 (Int.fdiv ((ByteArray.size s1 : Nat)) (2 ^ (min (Int.toNat (8)) (IntKind.bits .i64))))))), (1, (.int .u8 (IntKind.wrap .u8 ((ByteArray.size s1 : Nat)))))] [(.int .u8 (IntKind.wrap .u8 (Int.fdiv ((ByteArray.size s1 : Nat)) (2 ^ (min (Int.toNat (8)) (IntKind.bits .i64)))))), (.int .u8 (IntKind.wrap .u8 ((ByteArray.size s1 : Nat))))] TF.slc_63 TF.zero_5 rfl (by decide) (by decide) rfl rfl (fun k3 hb1 hb2 h4 hb3 => ?_))
  have s := s k3 hb1 hb2 h4 hb3
  refine zg rfl (sem_convW ((.slice (some ⟨k3, 0, none⟩) 2 2)) rfl (semH_mono (fun v h6 hv => ?_) s))
  obtain ⟨s5, rfl, s⟩ := hv
  refine au 1 rfl ?_
  obtain ⟨hi0, s⟩ := s
  refine zg rfl (sem_strAdd s5 s1 rfl rfl hi0 ?_)
  refine au 6 rfl ?_
  refine zcall s rfl rfl TF.goes_101 ?_
  rintro _ h7 ⟨i8, rfl, s⟩
  refine zcall s rfl rfl TF.goes_100 ?_
  rintro _ h9 ⟨s10, rfl, s⟩
  obtain ⟨hi0, s⟩ := s
  refine zg rfl (sem_strAdd (s5 ++ s1) s10 rfl rfl hi0 ?_)
  refine au 2 rfl ?_
  exact zr (s.imp fun _ q => ⟨_, rfl, q⟩)
theorem C_tome_Tome_All.of {B : RO} {p1 : Option Addr} {h : Heap} {Q : Value → Heap → Prop} (s : S_tome_Tome_All B p1 h Q) : C_tome_Tome_All B p1 h Q := by
 refine zspec Try.func92 [ResultVar.tmp 2] rfl rfl rfl rfl rfl ?_
 refine au 2 rfl ?_
 refine zb1 s rfl rfl rfl rfl fun k3 h4 s => ?_
 refine au 7 rfl ?_
 exact zr (s.imp fun _ q => ⟨_, rfl, q⟩)
theorem C_countermandref02_Open.of {B : RO} {s1 : ByteArray} {h : Heap} {Q : ByteArray → Int → Heap → Prop} (s : S_countermandref02_Open B s1 h Q) : C_countermandref02_Open B s1 h Q := by
 refine zspec Try.func93 [ResultVar.tmp 2, ResultVar.tmp 3] rfl rfl rfl rfl rfl ?_
 refine au 9 rfl ?_
 refine zg rfl (sem_lenStr s1 rfl TF.isStr_9 ?_)
 refine zt s rfl rfl rfl binI_lss_t binI_lss_f (fun s => ?_) fun s => ?_
 ·refine au 7 rfl ?_
  exact zr (s.imp fun _ q => ⟨_, _, rfl, q⟩)
 ·refine au 4 rfl ?_
  refine Run.drawM (fun h' => h' = h) [] ⟨[0, 1, 2, 4, 0, 16, 32, 72, 255], [511, 510, 509, 507, 511, 495, 479, 439, 383], [0, 0, 0, 0, 0, 0, 0, 0, 0], 0⟩ (.q 0 (.q 1 (.q 2 (.q 3 (.q 4 (.q 5 (.q 6 (.q 7 (.q 8 .nil))))))))) TF.mixed (by kernel_rfl) rfl ?_
  refine auT 1 rfl ?_
  obtain ⟨hi0, hi1, s⟩ := s
  refine zqe rfl (sem_indexStr' s1 .i64 (0) rfl rfl TF.isStr_9 hi0 hi1 ⟨rfl, rfl⟩) ?_
  refine zqe rfl (sem_convI .u8 .i64 (byteAt s1 (Int.toNat (0))) rfl TF.int_5 TF.int_3 ⟨rfl, rfl⟩) ?_
  refine auT 2 rfl ?_
  obtain ⟨hi0, hi1, s⟩ := s
  refine zqe rfl (sem_indexStr' s1 .i64 (1) rfl rfl TF.isStr_9 hi0 hi1 ⟨rfl, rfl⟩) ?_
  refine zqe rfl (sem_convI .u8 .i64 (byteAt s1 (Int.toNat (1))) rfl TF.int_5 TF.int_3 ⟨rfl, rfl⟩) ?_
  refine auT 2 rfl ?_
  refine Run.seqJ (fun e h5 => Agree [(0, (.string s1)), (4, (.int .i64 (IntKind.wrap .i64 ((IntKind.wrap .i64 ((256) * (IntKind.wrap .i64 (byteAt s1 (Int.toNat (0)))))) + (IntKind.wrap .i64 (byteAt s1 (Int.toNat (1))))))))] e ∧ S_countermandref02_Open_J1 B s1 h5 Q) ?_ fun j4 => ?_
  ·rintro e h5 ⟨hag, s⟩
   refine Run.env hag ?_; clear hag
   refine au 5 rfl ?_
   obtain ⟨hi0, hi1, hi2, s⟩ := s
   refine zg rfl (sem_sliceStrI s1 (2) (IntKind.wrap .i64 ((2) + (IntKind.wrap .i64 ((IntKind.wrap .i64 ((256) * (IntKind.wrap .i64 (byteAt s1 (Int.toNat (0)))))) + (IntKind.wrap .i64 (byteAt s1 (Int.toNat (1)))))))) rfl TF.isStr_9 ⟨_, rfl⟩ ⟨_, rfl⟩ hi0 hi1 hi2 ?_)
   refine au 4 rfl ?_
   obtain ⟨hi0, hi1, hi2, s⟩ := s
   have f11 := hi0; have f12 := hi1; have f13 := hi2
   refine Run.drawM (fun h' => True) [] ⟨[0, 1, 0, 0, 8, 20, 34], [127, 126, 127, 127, 119, 107, 93], [0, 0, 0, 0, 0, 0, 0], 0⟩ (.q 0 (.q 2 (.q 3 (.q 4 (.q 5 (.x 1 (.q 6 .nil) .no)))))) TF.mixed (by kernel_rfl) trivial ?_
   refine auT 4 rfl ?_
   refine zq rfl (fun _ hC => sem_sliceStrI s1 (0) (IntKind.wrap .i64 ((6) + (IntKind.wrap .i64 ((IntKind.wrap .i64 ((256) * (IntKind.wrap .i64 (byteAt s1 (Int.toNat (0)))))) + (IntKind.wrap .i64 (byteAt s1 (Int.toNat (1)))))))) rfl TF.isStr_9 rfl ⟨_, rfl⟩ f11 f12 f13 ⟨rfl, rfl⟩) ?_
   refine ⟨zo rfl (sem_callL [(.string (ByteArray.extract s1 (Int.toNat (2)) (Int.toNat (IntKind.wrap .i64 ((2) + (IntKind.wrap .i64 ((IntKind.wrap .i64 ((256) * (IntKind.wrap .i64 (byteAt s1 (Int.toNat (0)))))) + (IntKind.wrap .i64 (byteAt s1 (Int.toNat (1)))))))))))] (TF.goes_104) rfl rfl (Spec.mono s fun v h14 hv => ?_)), trivial⟩
   obtain ⟨s15, rfl, s⟩ := hv
   refine ⟨fun _ => trivial, ?_⟩
   by_cases hb16 : s15 = (ByteArray.extract s1 (Int.toNat (0)) (Int.toNat (IntKind.wrap .i64 ((6) + (IntKind.wrap .i64 ((IntKind.wrap .i64 ((256) * (IntKind.wrap .i64 (byteAt s1 (Int.toNat (0)))))) + (IntKind.wrap .i64 (byteAt s1 (Int.toNat (1))))))))))
   ·replace s := s.1 hb16
    refine zq rfl (fun _ _ => sem_strNeT s15 (ByteArray.extract s1 (Int.toNat (0)) (Int.toNat (IntKind.wrap .i64 ((6) + (IntKind.wrap .i64 ((IntKind.wrap .i64 ((256) * (IntKind.wrap .i64 (byteAt s1 (Int.toNat (0)))))) + (IntKind.wrap .i64 (byteAt s1 (Int.toNat (1)))))))))) rfl rfl hb16 ⟨rfl, rfl⟩) ?_
    refine au 10 rfl ?_
    exact zr (s.imp fun _ q => ⟨_, _, rfl, q⟩)
   ·replace s := s.2 hb16
    refine zq rfl (fun _ _ => sem_strNeF s15 (ByteArray.extract s1 (Int.toNat (0)) (Int.toNat (IntKind.wrap .i64 ((6) + (IntKind.wrap .i64 ((IntKind.wrap .i64 ((256) * (IntKind.wrap .i64 (byteAt s1 (Int.toNat (0)))))) + (IntKind.wrap .i64 (byteAt s1 (Int.toNat (1)))))))))) rfl rfl hb16 ⟨rfl, rfl⟩) ?_
    refine au 6 rfl ?_
    exact zr (s.imp fun _ q => ⟨_, _, rfl, q⟩)
  refine au 3 rfl ?_
  refine zt s rfl rfl rfl binI_gtr_t binI_gtr_f (fun s => ?_) fun s => ?_
  ·refine au 14 rfl ?_
   exact zr (s.imp fun _ q => ⟨_, _, rfl, q⟩)
  ·refine au 2 rfl ?_
   refine zg rfl (sem_lenStr s1 rfl TF.isStr_9 ?_)
   refine au 2 rfl ?_
   refine zt s rfl rfl rfl binI_lss_t binI_lss_f (fun s => ?_) fun s => ?_
   ·refine au 8 rfl ?_
    exact zr (s.imp fun _ q => ⟨_, _, rfl, q⟩)
   ·refine au 4 rfl ?_
    exact Run.of_fin (s.imp fun h' s => j4 _ _ ⟨⟨rfl, rfl, trivial⟩, s⟩)
theorem C_cell_Row_file_File_is.of {B : RO} {p1 : Option Addr} {i2 : Int} {h : Heap} {Q : Bool → Heap → Prop} (s : S_cell_Row_file_File_is B p1 i2 h Q) : C_cell_Row_file_File_is B p1 i2 h Q := by
 refine zspec Try.func94 [ResultVar.tmp 4] rfl rfl rfl rfl rfl ?_
 refine au 7 rfl ?_
 by_cases hb4 : p1 = none
 ·replace s := s.1 hb4
  refine zg rfl (sem_ptrNilT p1 (.inr rfl) false rfl rfl TF.ptr_162 hb4 rfl ?_)
  refine au 15 rfl ?_
  exact zr (s.imp fun _ q => ⟨_, rfl, q⟩)
 ·replace s := s.2 hb4
  refine zg rfl (sem_ptrNilF p1 (.inr rfl) true rfl rfl TF.ptr_162 hb4 rfl ?_)
  refine au 2 rfl ?_
  refine zt s rfl rfl rfl binI_geq_t binI_geq_f (fun s => ?_) fun s => ?_
  ·refine au 4 rfl ?_
   refine znil s rfl rfl fun A5 s => ?_
   refine au 1 rfl ?_
   refine Run.ldSl s fun a7 n8 c9 h10 hl s => ?_
   refine zg rfl (sem_load1 A5 ((.slice a7 n8 c9)) rfl TF.agg_197 hl ?_)
   refine zg rfl (sem_lenSl a7 n8 c9 rfl TF.sl_197 ?_)
   refine au 4 rfl ?_
   exact zr (s.imp fun _ q => ⟨_, rfl, q⟩)
  ·refine au 12 rfl ?_
   exact zr (s.imp fun _ q => ⟨_, rfl, q⟩)
theorem C_wafer_All.of {B : RO} {s1 : ByteArray} {h : Heap} {Q : Value → Heap → Prop} (s : S_wafer_All B s1 h Q) : C_wafer_All B s1 h Q := by
 refine zspec Try.func96 [ResultVar.tmp 2] rfl rfl rfl rfl rfl ?_
 refine au 2 rfl ?_
 refine zb1 s rfl rfl rfl rfl fun k3 h4 s => ?_
 refine au 7 rfl ?_
 exact zr (s.imp fun _ q => ⟨_, rfl, q⟩)
theorem C_wal_Log_All_1.of {B : RO} {v1 : Value} {A2 : Addr} {h : Heap} {Q : Heap → Prop} (s : S_wal_Log_All_1 B v1 A2 h Q) : C_wal_Log_All_1 B v1 A2 h Q := by
 refine zspec Try.func97 [] rfl rfl rfl rfl rfl ?_
 refine au 2 rfl ?_
 obtain ⟨hone, s⟩ := s
 refine zg rfl (sem_box1N (v1) rfl hone (fun k3 hb1 hb2 h4 hb3 => ?_))
 have s := s k3 hb1 hb2 h4 hb3
 refine au 4 rfl ?_
 refine zl s rfl rfl TF.agg_133 fun p5 s => ?_
 by_cases hb6 : p5 = none
 ·replace s := s.1 hb6
  refine zg rfl (sem_ptrNilT p5 (.inl rfl) true rfl rfl TF.ptr_133 hb6 rfl ?_)
  refine au 2 rfl ?_
  exact zr (s.imp fun _ q => ⟨rfl, q⟩)
 ·replace s := s.2 hb6
  refine zg rfl (sem_ptrNilF p5 (.inl rfl) false rfl rfl TF.ptr_133 hb6 rfl ?_)
  refine au 4 rfl ?_
  refine Run.drawM (fun h' => h' = h4) [8, 9] ⟨[0, 1, 2, 4, 0, 16, 32, 64, 136, 256], [1023, 1022, 1021, 1019, 1023, 1007, 991, 959, 887, 767], [0, 1, 3, 7, 0, 16, 48, 112, 255, 511], 768⟩ (.q 0 (.q 1 (.q 2 (.q 3 (.q 4 (.q 5 (.q 6 (.q 7 (.x 8 (.x 9 .nil .no) .no))))))))) TF.mixed (by kernel_rfl) rfl ?_
  obtain ⟨p7, hl, s⟩ := s
  refine zqe rfl (sem_load1 A2 ((.pointer p7)) rfl TF.agg_133 hl ⟨rfl, rfl⟩) ?_
  obtain ⟨A8, e9, s⟩ := s
  refine zqe rfl (sem_nilCheck A8 (congrArg Value.pointer e9) ⟨rfl, rfl⟩) ?_
  refine auT 1 rfl ?_
  obtain ⟨p10, hl, s⟩ := s
  refine zqe rfl (sem_load1 A8 ((.pointer p10)) rfl TF.agg_23 hl ⟨rfl, rfl⟩) ?_
  obtain ⟨p11, hl, s⟩ := s
  refine zqe rfl (sem_load1 A2 ((.pointer p11)) rfl TF.agg_133 hl ⟨rfl, rfl⟩) ?_
  obtain ⟨A12, e13, s⟩ := s
  refine zqe rfl (sem_nilCheck A12 (congrArg Value.pointer e13) ⟨rfl, rfl⟩) ?_
  refine auT 1 rfl ?_
  obtain ⟨i14, hl, s⟩ := s
  refine zqe rfl (sem_load1 (Addr.add A12 1) ((.int .i64 (i14))) rfl TF.agg_3 hl ⟨rfl, rfl⟩) ?_
  refine ⟨zo rfl (sem_callL [(.pointer p10), (.int .i64 (i14))] (TF.goes_80) rfl rfl (Spec.mono s fun v h15 hv => ?_)), trivial⟩
  obtain ⟨s16, rfl, s⟩ := hv
  refine ⟨fun hz => Bool.noConfusion hz, ?_⟩
  refine ⟨zo rfl (sem_callL [(.string s16)] (TF.goes_96) rfl rfl (Spec.mono s fun v18 h17 hv => ?_)), trivial⟩
  obtain ⟨_, rfl, s⟩ := hv
  refine ⟨fun hz => Bool.noConfusion hz, ?_⟩
  refine au 1 rfl ?_
  obtain ⟨xs24, G20, J23, hit, hins, hG, h0, s, hR⟩ := s
  refine Run.of_fin (h0.imp fun h' h0 => ?_)
  refine Run.range (v18) (xs24.map (fun x : ByteArray => [(.string x)])) G20 J23 rfl hit hins hG h0 rfl (fun a ha => by obtain ⟨x, _, rfl⟩ := List.mem_map.1 ha; rfl) ?_ ?_
  ·rintro q22 args h21 ha hJ
   obtain ⟨s19, hx, rfl⟩ := Option.map_eq_some_iff.1 ((List.getElem?_map ..).symm.trans ha)
   have s := s q22 h21 s19 hx hJ; clear hJ hx ha
   refine zput rfl ?_
   refine au 3 rfl ?_
   refine Run.begin ⟨rfl, ?_⟩
   refine au 3 rfl ?_
   refine zl s rfl rfl TF.agg_204 fun v25 s => ?_
   refine au 1 rfl ?_
   refine zg rfl (sem_callV (v25) [(.string s19)] rfl rfl s (fun nx h' ha => ha.mono fun v h26 hv => ?_))
   obtain ⟨b27, rfl, s⟩ := hv
   cases b27
   ·replace s := s.2 rfl
    refine au 3 rfl ?_
    refine Run.ret (.inr ⟨_, rfl, ?_⟩)
    exact zr (s.imp fun _ q => ⟨rfl, q⟩)
   ·replace s := s.1 rfl
    refine au 5 rfl ?_
    refine Run.of_fin (s.imp fun h' s => ?_)
    exact Run.fall (.inl ⟨rfl, s⟩)
  ·intro h21 hJ
   have s := hR h21 (by simpa using hJ); clear hJ hR
   refine au 1 rfl ?_
   exact zf (s.imp fun _ q => ⟨rfl, q⟩)
theorem C_file_Good.of {B : RO} {b1 : Bool} {s2 : ByteArray} {h : Heap} {Q : Bool → Heap → Prop} (s : S_file_Good B b1 s2 h Q) : C_file_Good B b1 s2 h Q := by
 refine zspec Try.func98 [ResultVar.tmp 2] rfl rfl rfl rfl rfl ?_
 refine au 2 rfl ?_
 refine zbn s rfl rfl rfl fun k4 h5 s => ?_
 refine au 5 rfl ?_
 refine zl s rfl rfl TF.agg_9 fun s6 s => ?_
 refine zg rfl (sem_lenStr s6 rfl TF.isStr_9 ?_)
 refine zt s rfl rfl rfl binI_leq_t binI_leq_f (fun s => ?_) fun s => ?_
 ·refine au 2 rfl ?_
  refine zl s rfl rfl TF.agg_4 fun b7 s => ?_
  cases b7
  ·replace s := s.2 rfl
   refine au 2 rfl ?_
   refine zl s rfl rfl TF.agg_9 fun s8 s => ?_
   refine zg rfl (sem_strEq s8 (ByteArray.mk #[]) rfl rfl ?_)
   refine au 4 rfl ?_
   exact zr (s.imp fun _ q => ⟨_, rfl, q⟩)
  ·replace s := s.1 rfl
   refine au 8 rfl ?_
   exact zr (s.imp fun _ q => ⟨_, rfl, q⟩)
 ·refine au 11 rfl ?_
  exact zr (s.imp fun _ q => ⟨_, rfl, q⟩)
theorem C_cell_Row_file_File_Set.of {B : RO} {p1 : Option Addr} {i2 : Int} {b3 : Bool} {s4 : ByteArray} {i5 : Int} {h : Heap} {Q : Bool → Heap → Prop} (s : S_cell_Row_file_File_Set B p1 i2 b3 s4 i5 h Q) : C_cell_Row_file_File_Set B p1 i2 b3 s4 i5 h Q := by
 refine zspec Try.func99 [ResultVar.tmp 8] rfl rfl rfl rfl rfl ?_
 refine au 2 rfl ?_
 refine zbn s rfl rfl rfl fun k7 h8 s => ?_
 refine au 7 rfl ?_
 refine zcall s rfl rfl TF.goes_94 ?_
 rintro _ h9 ⟨b10, rfl, s⟩
 cases b10
 ·replace s := s.2 rfl
  refine au 7 rfl ?_
  exact zr (s.imp fun _ q => ⟨_, rfl, q⟩)
 ·replace s := s.1 rfl
  refine au 5 rfl ?_
  refine Run.drawM (fun h' => h' = h9) [9] ⟨[0, 1, 2, 4, 0, 0, 0, 96, 255, 511], [1023, 1022, 1021, 1019, 1023, 1023, 1023, 927, 999, 639], [0, 1, 3, 7, 0, 0, 0, 96, 255, 511], 512⟩ (.q 0 (.q 1 (.q 2 (.q 3 (.q 4 (.q 5 (.q 6 (.q 7 (.q 8 (.x 9 .nil .no)))))))))) TF.mixed (by kernel_rfl) rfl ?_
  refine auT 1 rfl ?_
  obtain ⟨A11, e12, s⟩ := s
  refine zqe rfl (sem_nilCheck A11 (congrArg Value.pointer e12) ⟨rfl, rfl⟩) ?_
  refine auT 1 rfl ?_
  obtain ⟨a13, n14, c15, hl, s⟩ := s
  refine zqe rfl (sem_load1 A11 ((.slice a13 n14 c15)) rfl TF.agg_197 hl ⟨rfl, rfl⟩) ?_
  refine auT 1 rfl ?_
  obtain ⟨b16, s17, hl, s⟩ := s
  refine zqe rfl (sem_loadN ⟨k7, 0, none⟩ [(.bool b16), (.string s17)] rfl TF.agg_111 TF.sz_111 hl ⟨rfl, rfl⟩) ?_
  refine auT 1 rfl ?_
  refine zqe rfl (sem_buildSL [(0, (.agg #[(.bool b16), (.string s17)])), (1, (.int .i64 (i5)))] [(.bool b16), (.string s17), (.int .i64 (i5))] TF.zero_196 TF.places_196 rfl rfl ⟨rfl, rfl⟩) ?_
  obtain ⟨A18, e19, hi0, hi1, s⟩ := s
  refine zqe rfl (sem_indexAddrS A18 n14 c15 .i64 (i2) (congrArg (fun a => Value.slice a n14 c15) e19) rfl TF.slc_197 hi0 hi1 ⟨rfl, rfl⟩) ?_
  obtain ⟨h20, hst, s⟩ := s
  refine ⟨zo0 rfl (sem_storeN (Addr.add A18 (Int.toNat (i2) * 3)) [(.bool b16), (.string s17), (.int .i64 (i5))] h20 rfl rfl TF.sz_196 hst ?_), trivial⟩
  refine ⟨fun hz => Bool.noConfusion hz, ?_⟩
  refine au 4 rfl ?_
  exact zr (s.imp fun _ q => ⟨_, rfl, q⟩)
theorem C_wafer_foots.of {B : RO} {i1 : Int} {h : Heap} {Q : ByteArray → Heap → Prop} (s : S_wafer_foots B i1 h Q) : C_wafer_foots B i1 h Q := by
 refine zspec Try.func100 [ResultVar.tmp 2] rfl rfl rfl rfl rfl ?_
 refine au 7 rfl ?_
 refine zg rfl (sem_convI .u32 .u8 (i1) rfl TF.int_207 TF.int_5 ?_)
 refine au 1 rfl ?_
 obtain ⟨hi0, s⟩ := s
 refine zg rfl (sem_shr .u32 .u64 (i1) (8) rfl rfl hi0 ?_)
 refine zg rfl (sem_convI .u32 .u8 (Int.fdiv (i1) (2 ^ (min (Int.toNat (8)) (IntKind.bits .u32)))) rfl TF.int_207 TF.int_5 ?_)
 refine au 1 rfl ?_
 obtain ⟨hi0, s⟩ := s
 refine zg rfl (sem_shr .u32 .u64 (i1) (16) rfl rfl hi0 ?_)
 refine zg rfl (sem_convI .u32 .u8 (Int.fdiv (i1) (2 ^ (min (Int.toNat (16)) (IntKind.bits .u32)))) rfl TF.int_207 TF.int_5 ?_)
 refine au 1 rfl ?_
 obtain ⟨hi0, s⟩ := s
 refine zg rfl (sem_shr .u32 .u64 (i1) (24) rfl rfl hi0 ?_)
 refine zg rfl (sem_convI .u32 .u8 (Int.fdiv (i1) (2 ^ (min (Int.toNat (24)) (IntKind.bits .u32)))) rfl TF.int_207 TF.int_5 ?_)
 refine zg rfl (sem_buildSliceL [(0, (.int .u8 (IntKind.wrap .u8 (i1)))), (1, (.int .u8 (IntKind.wrap .u8 (Int.fdiv (i1) (2 ^ (min (Int.toNat (8)) (IntKind.bits .u32))))))), (2, (.int .u8 (IntKind.wrap .u8 (Int.fdiv (i1) (2 ^ (min (Int.toNat (16)) (IntKind.bits .u32))))))), (3, (.int .u8 (IntKind.wrap .u8 (Int.fdiv (i1) (2 ^ (min (Int.toNat (24)) (IntKind.bits .u32)))))))] [(.int .u8 (IntKind.wrap .u8 (i1))), (.int .u8 (IntKind.wrap .u8 (Int.fdiv (i1) (2 ^ (min (Int.toNat (8)) (IntKind.bits .u32)))))), (.int .u8 (IntKind.wrap .u8 (Int.fdiv (i1) (2 ^ (min (Int.toNat (16)) (IntKind.bits .u32)))))), (.int .u8 (IntKind.wrap .u8 (Int.fdiv (i1) (2 ^ (min (Int.toNat (24)) (IntKind.bits .u32))))))] TF.slc_63 TF.zero_5 rfl (by decide) (by decide) rfl rfl (fun k3 hb1 hb2 h4 hb3 => ?_))
 have s := s k3 hb1 hb2 h4 hb3
 refine zg rfl (sem_convW ((.slice (some ⟨k3, 0, none⟩) 4 4)) rfl (semH_mono (fun v h6 hv => ?_) s))
 obtain ⟨s5, rfl, s⟩ := hv
 refine au 2 rfl ?_
 exact zr (s.imp fun _ q => ⟨_, rfl, q⟩)
theorem C_wafer_Sum.of {B : RO} {s1 : ByteArray} {h : Heap} {Q : Int → Heap → Prop} (s : S_wafer_Sum B s1 h Q) : C_wafer_Sum B s1 h Q := by
 refine zspec Try.func101 [ResultVar.tmp 2] rfl rfl rfl rfl rfl ?_
 refine au 12 rfl ?_
 refine zg rfl (sem_lenStr s1 rfl TF.isStr_9 ?_)
 refine au 3 rfl ?_
 obtain ⟨J9, m7, h0, s⟩ := s
 refine Run.of_fin (h0.imp fun h' h0 => ?_)
 refine Run.loop (σ := Int × Int × Nat) (fun x e h => J9 x.1 x.2.1 x.2.2 h ∧ Agree [(0, (.string s1)), (3, (.int .u32 (x.1))), (6, (.int .i64 ((ByteArray.size s1 : Nat)))), (7, (.int .i64 (x.2.1)))] e) (fun x => x.2.2) ((4294967295), (0), m7) ⟨h0, ⟨rfl, rfl, rfl, rfl, trivial⟩⟩ ?_; clear h0
 rintro ⟨i3, i4, m6⟩ e h5 ⟨hJ, hag⟩ ih8
 have s := s i3 i4 m6 h5 hJ; clear hJ
 refine Run.env hag ?_; clear hag
 refine au 2 rfl ?_
 refine zt s rfl rfl rfl binI_lss_t binI_lss_f (fun s => ?_) fun s => ?_
 ·refine au 16 rfl ?_
  obtain ⟨hi0, hi1, s⟩ := s
  refine zg rfl (sem_indexStr' s1 .i64 (i4) rfl rfl TF.isStr_9 hi0 hi1 ?_)
  refine zg rfl (sem_convI .u8 .u32 (byteAt s1 (Int.toNat (i4))) rfl TF.int_5 TF.int_207 ?_)
  refine au 8 rfl ?_
  obtain ⟨J16, m14, h0, s⟩ := s
  refine Run.of_fin (h0.imp fun h' h0 => ?_)
  refine Run.loop (σ := Int × Int × Nat) (fun x e h => J16 x.1 x.2.1 x.2.2 h ∧ Agree [(0, (.string s1)), (3, (.int .u32 (x.1))), (6, (.int .i64 ((ByteArray.size s1 : Nat)))), (7, (.int .i64 (i4))), (16, (.int .i64 (x.2.1)))] e) (fun x => x.2.2) ((IntKind.wrap .u32 ((BitVec.ofInt (IntKind.bits .u32) (i3) ^^^ BitVec.ofInt (IntKind.bits .u32) (IntKind.wrap .u32 (byteAt s1 (Int.toNat (i4))))).toNat : Int)), (0), m14) ⟨h0, ⟨rfl, rfl, rfl, rfl, rfl, trivial⟩⟩ ?_; clear h0
  rintro ⟨i10, i11, m13⟩ e h12 ⟨hJ, hag⟩ ih15
  have s := s i10 i11 m13 h12 hJ; clear hJ
  refine Run.env hag ?_; clear hag
  refine au 2 rfl ?_
  refine zt s rfl rfl rfl binI_lss_t binI_lss_f (fun s => ?_) fun s => ?_
  ·refine au 8 rfl ?_
   obtain ⟨hi0, s⟩ := s
   refine zg rfl (sem_shr .u32 .u64 (i10) (1) rfl rfl hi0 ?_)
   refine au 2 rfl ?_
   refine zg rfl (sem_neg .u32 (IntKind.wrap .u32 ((BitVec.ofInt (IntKind.bits .u32) (i10) &&& BitVec.ofInt (IntKind.bits .u32) (1)).toNat : Int)) rfl ?_)
   refine au 9 rfl ?_
   exact Run.of_fin (s.imp fun h' ⟨m', hm, s⟩ => ih15 ((IntKind.wrap .u32 ((BitVec.ofInt (IntKind.bits .u32) (Int.fdiv (i10) (2 ^ (min (Int.toNat (1)) (IntKind.bits .u32)))) ^^^ BitVec.ofInt (IntKind.bits .u32) (IntKind.wrap .u32 ((BitVec.ofInt (IntKind.bits .u32) (2197175160) &&& BitVec.ofInt (IntKind.bits .u32) (IntKind.wrap .u32 (0 - (IntKind.wrap .u32 ((BitVec.ofInt (IntKind.bits .u32) (i10) &&& BitVec.ofInt (IntKind.bits .u32) (1)).toNat : Int))))).toNat : Int))).toNat : Int)), (IntKind.wrap .i64 ((i11) + (1))), m') _ _ ⟨s, ⟨rfl, rfl, rfl, rfl, rfl, trivial⟩⟩ hm)
  ·refine au 9 rfl ?_
   exact Run.of_fin (s.imp fun h' ⟨m', hm, s⟩ => ih8 ((i10), (IntKind.wrap .i64 ((i4) + (1))), m') _ _ ⟨s, ⟨rfl, rfl, rfl, rfl, trivial⟩⟩ hm)
 ·refine au 7 rfl ?_
  refine zg rfl (sem_xorU .u32 (i3) rfl (.int .u32 (IntKind.wrap .u32 (((BitVec.ofInt (IntKind.bits .u32) (if IntKind.signed .u32 then (-1 : Int) else IntKind.max .u32) ^^^ BitVec.ofInt (IntKind.bits .u32) (i3)).toNat : Int)))) ⟨rfl, rfl⟩ ?_)
  refine au 2 rfl ?_
  exact zr (s.imp fun _ q => ⟨_, rfl, q⟩)
theorem C_tome_Tome_All_1.of {B : RO} {v1 : Value} {A2 : Addr} {h : Heap} {Q : Heap → Prop} (s : S_tome_Tome_All_1 B v1 A2 h Q) : C_tome_Tome_All_1 B v1 A2 h Q := by
 refine zspec Try.func102 [] rfl rfl rfl rfl rfl ?_
 refine au 2 rfl ?_
 obtain ⟨hone, s⟩ := s
 refine zg rfl (sem_box1N (v1) rfl hone (fun k3 hb1 hb2 h4 hb3 => ?_))
 have s := s k3 hb1 hb2 h4 hb3
 refine au 4 rfl ?_
 refine zl s rfl rfl TF.agg_41 fun p5 s => ?_
 by_cases hb6 : p5 = none
 ·replace s := s.1 hb6
  refine zg rfl (sem_ptrNilT p5 (.inl rfl) true rfl rfl TF.ptr_41 hb6 rfl ?_)
  refine au 2 rfl ?_
  exact zr (s.imp fun _ q => ⟨rfl, q⟩)
 ·replace s := s.2 hb6
  refine zg rfl (sem_ptrNilF p5 (.inl rfl) false rfl rfl TF.ptr_41 hb6 rfl ?_)
  refine au 5 rfl ?_
  refine zl s rfl rfl TF.agg_41 fun p7 s => ?_
  refine znil s rfl rfl fun A8 s => ?_
  refine au 1 rfl ?_
  refine zl s rfl rfl TF.agg_162 fun p10 s => ?_
  refine zcall s rfl rfl TF.goes_103 ?_
  rintro v12 h11 ⟨_, rfl, s⟩
  refine au 2 rfl ?_
  obtain ⟨xs20, G16, J19, hit, hins, hG, h0, s, hR⟩ := s
  refine Run.of_fin (h0.imp fun h' h0 => ?_)
  refine Run.range (v12) (xs20.map (fun x : Int × Bool × ByteArray => [(.int .i64 (x.1)), (.agg #[(.bool x.2.1), (.string x.2.2)])])) G16 J19 rfl hit hins hG h0 rfl (fun a ha => by obtain ⟨x, _, rfl⟩ := List.mem_map.1 ha; rfl) ?_ ?_
  ·rintro q18 args h17 ha hJ
   obtain ⟨⟨i13, b14, s15⟩, hx, rfl⟩ := Option.map_eq_some_iff.1 ((List.getElem?_map ..).symm.trans ha)
   have s := s q18 h17 i13 b14 s15 hx hJ; clear hJ hx ha
   refine zput rfl ?_
   refine au 5 rfl ?_
   refine zal s rfl TF.zero_111 rfl fun k21 h22 s => ?_
   refine zsn s rfl rfl rfl TF.sz_111 rfl fun h23 s => ?_
   refine au 1 rfl ?_
   refine Run.begin ⟨rfl, ?_⟩
   refine au 4 rfl ?_
   refine zl s rfl rfl TF.agg_4 fun b24 s => ?_
   cases b24
   ·replace s := s.2 rfl
    refine au 11 rfl ?_
    refine Run.of_fin (s.imp fun h' s => ?_)
    exact Run.fall (.inl ⟨rfl, s⟩)
   ·replace s := s.1 rfl
    refine au 1 rfl ?_
    refine zl s rfl rfl TF.agg_200 fun v25 s => ?_
    refine au 1 rfl ?_
    obtain ⟨b26, s27, hl, s⟩ := s
    refine zn hl rfl rfl TF.agg_111 TF.sz_111 rfl ?_
    refine zg rfl (sem_callV (v25) [(.int .i64 (i13)), (.agg #[(.bool b26), (.string s27)])] rfl rfl s (fun nx h' ha => ha.mono fun v h28 hv => ?_))
    obtain ⟨b29, rfl, s⟩ := hv
    cases b29
    ·replace s := s.2 rfl
     refine au 4 rfl ?_
     refine Run.ret (.inr ⟨_, rfl, ?_⟩)
     exact zr (s.imp fun _ q => ⟨rfl, q⟩)
    ·replace s := s.1 rfl
     refine au 6 rfl ?_
     refine Run.of_fin (s.imp fun h' s => ?_)
     exact Run.fall (.inl ⟨rfl, s⟩)
  ·intro h17 hJ
   have s := hR h17 (by simpa using hJ); clear hJ hR
   refine au 1 rfl ?_
   exact zf (s.imp fun _ q => ⟨rfl, q⟩)
theorem C_cell_Row_file_File_All.of {B : RO} {p1 : Option Addr} {h : Heap} {Q : Value → Heap → Prop} (s : S_cell_Row_file_File_All B p1 h Q) : C_cell_Row_file_File_All B p1 h Q := by
 refine zspec Try.func103 [ResultVar.tmp 2] rfl rfl rfl rfl rfl ?_
 refine au 2 rfl ?_
 refine zb1 s rfl rfl rfl rfl fun k3 h4 s => ?_
 refine au 7 rfl ?_
 exact zr (s.imp fun _ q => ⟨_, rfl, q⟩)
theorem C_countermandref02_Close.of {B : RO} {s1 : ByteArray} {h : Heap} {Q : ByteArray → Heap → Prop} (s : S_countermandref02_Close B s1 h Q) : C_countermandref02_Close B s1 h Q := by
 refine zspec Try.func104 [ResultVar.tmp 2] rfl rfl rfl rfl rfl ?_
 refine au 8 rfl ?_
 refine zg rfl (sem_lenStr s1 rfl TF.isStr_9 ?_)
 refine zt s rfl rfl rfl binI_gtr_t binI_gtr_f (fun s => ?_) fun s => ?_
 ·refine au 6 rfl ?_
  exact zr (s.imp fun _ q => ⟨_, rfl, q⟩)
 ·refine au 6 rfl ?_
  refine zg rfl (sem_lenStr s1 rfl TF.isStr_9 ?_)
  obtain ⟨hi0, s⟩ := s
  refine zg rfl (sem_binI .i64 ((ByteArray.size s1 : Nat)) (256) ((.int .i64 (IntKind.wrap .i64 (Int.tdiv ((ByteArray.size s1 : Nat)) (256))))) rfl rfl (binI_quo hi0) ?_)
  refine zg rfl (sem_convI .i64 .u8 (IntKind.wrap .i64 (Int.tdiv ((ByteArray.size s1 : Nat)) (256))) rfl TF.int_3 TF.int_5 ?_)
  refine au 1 rfl ?_
  refine zg rfl (sem_lenStr s1 rfl TF.isStr_9 ?_)
  obtain ⟨hi0, s⟩ := s
  refine zg rfl (sem_binI .i64 ((ByteArray.size s1 : Nat)) (256) ((.int .i64 (Int.tmod ((ByteArray.size s1 : Nat)) (256)))) rfl rfl (binI_rem hi0) ?_)
  refine zg rfl (sem_convI .i64 .u8 (Int.tmod ((ByteArray.size s1 : Nat)) (256)) rfl TF.int_3 TF.int_5 ?_)
  refine zg rfl (sem_buildSliceL [(0, (.int .u8 (IntKind.wrap .u8 (IntKind.wrap .i64 (Int.tdiv ((ByteArray.size s1 : Nat)) (256)))))), (1, (.int .u8 (IntKind.wrap .u8 (Int.tmod ((ByteArray.size s1 : Nat)) (256)))))] [(.int .u8 (IntKind.wrap .u8 (IntKind.wrap .i64 (Int.tdiv ((ByteArray.size s1 : Nat)) (256))))), (.int .u8 (IntKind.wrap .u8 (Int.tmod ((ByteArray.size s1 : Nat)) (256))))] TF.slc_63 TF.zero_5 rfl (by decide) (by decide) rfl rfl (fun k3 hb1 hb2 h4 hb3 => ?_))
  have s := s k3 hb1 hb2 h4 hb3
  refine zg rfl (sem_convW ((.slice (some ⟨k3, 0, none⟩) 2 2)) rfl (semH_mono (fun v h6 hv => ?_) s))
  obtain ⟨s5, rfl, s⟩ := hv
  refine au 1 rfl ?_
  obtain ⟨hi0, s⟩ := s
  refine zg rfl (sem_strAdd s5 s1 rfl rfl hi0 ?_)
  refine au 5 rfl ?_
  refine zcall s rfl rfl TF.goes_108 ?_
  rintro _ h7 ⟨i8, rfl, s⟩
  refine au 6 rfl ?_
  obtain ⟨hi0, s⟩ := s
  refine zg rfl (sem_binI .u32 (i8) (256) ((.int .u32 (Int.tmod (i8) (256)))) rfl rfl (binI_rem hi0) ?_)
  refine zg rfl (sem_convI .u32 .u8 (Int.tmod (i8) (256)) rfl TF.int_207 TF.int_5 ?_)
  refine au 1 rfl ?_
  obtain ⟨hi0, s⟩ := s
  refine zg rfl (sem_binI .u32 (i8) (256) ((.int .u32 (IntKind.wrap .u32 (Int.tdiv (i8) (256))))) rfl rfl (binI_quo hi0) ?_)
  obtain ⟨hi0, s⟩ := s
  refine zg rfl (sem_binI .u32 (IntKind.wrap .u32 (Int.tdiv (i8) (256))) (256) ((.int .u32 (Int.tmod (IntKind.wrap .u32 (Int.tdiv (i8) (256))) (256)))) rfl rfl (binI_rem hi0) ?_)
  refine zg rfl (sem_convI .u32 .u8 (Int.tmod (IntKind.wrap .u32 (Int.tdiv (i8) (256))) (256)) rfl TF.int_207 TF.int_5 ?_)
  refine au 1 rfl ?_
  obtain ⟨hi0, s⟩ := s
  refine zg rfl (sem_binI .u32 (i8) (65536) ((.int .u32 (IntKind.wrap .u32 (Int.tdiv (i8) (65536))))) rfl rfl (binI_quo hi0) ?_)
  obtain ⟨hi0, s⟩ := s
  refine zg rfl (sem_binI .u32 (IntKind.wrap .u32 (Int.tdiv (i8) (65536))) (256) ((.int .u32 (Int.tmod (IntKind.wrap .u32 (Int.tdiv (i8) (65536))) (256)))) rfl rfl (binI_rem hi0) ?_)
  refine zg rfl (sem_convI .u32 .u8 (Int.tmod (IntKind.wrap .u32 (Int.tdiv (i8) (65536))) (256)) rfl TF.int_207 TF.int_5 ?_)
  refine au 1 rfl ?_
  obtain ⟨hi0, s⟩ := s
  refine zg rfl (sem_binI .u32 (i8) (16777216) ((.int .u32 (IntKind.wrap .u32 (Int.tdiv (i8) (16777216))))) rfl rfl (binI_quo hi0) ?_)
  refine zg rfl (sem_convI .u32 .u8 (IntKind.wrap .u32 (Int.tdiv (i8) (16777216))) rfl TF.int_207 TF.int_5 ?_)
  refine zg rfl (sem_buildSliceL [(0, (.int .u8 (IntKind.wrap .u8 (Int.tmod (i8) (256))))), (1, (.int .u8 (IntKind.wrap .u8 (Int.tmod (IntKind.wrap .u32 (Int.tdiv (i8) (256))) (256))))), (2, (.int .u8 (IntKind.wrap .u8 (Int.tmod (IntKind.wrap .u32 (Int.tdiv (i8) (65536))) (256))))), (3, (.int .u8 (IntKind.wrap .u8 (IntKind.wrap .u32 (Int.tdiv (i8) (16777216))))))] [(.int .u8 (IntKind.wrap .u8 (Int.tmod (i8) (256)))), (.int .u8 (IntKind.wrap .u8 (Int.tmod (IntKind.wrap .u32 (Int.tdiv (i8) (256))) (256)))), (.int .u8 (IntKind.wrap .u8 (Int.tmod (IntKind.wrap .u32 (Int.tdiv (i8) (65536))) (256)))), (.int .u8 (IntKind.wrap .u8 (IntKind.wrap .u32 (Int.tdiv (i8) (16777216)))))] TF.slc_63 TF.zero_5 rfl (by decide) (by decide) rfl rfl (fun k9 hb1 hb2 h10 hb3 => ?_))
  have s := s k9 hb1 hb2 h10 hb3
  refine zg rfl (sem_convW ((.slice (some ⟨k9, 0, none⟩) 4 4)) rfl (semH_mono (fun v h12 hv => ?_) s))
  obtain ⟨s11, rfl, s⟩ := hv
  obtain ⟨hi0, s⟩ := s
  refine zg rfl (sem_strAdd (s5 ++ s1) s11 rfl rfl hi0 ?_)
  refine au 2 rfl ?_
  exact zr (s.imp fun _ q => ⟨_, rfl, q⟩)
theorem C_wafer_All_1.of {B : RO} {v1 : Value} {A2 : Addr} {h : Heap} {Q : Heap → Prop} (s : S_wafer_All_1 B v1 A2 h Q) : C_wafer_All_1 B v1 A2 h Q := by
 refine zspec Try.func105 [] rfl rfl rfl rfl rfl ?_
 refine au 2 rfl ?_
 refine zl s rfl rfl TF.agg_9 fun s3 s => ?_
 refine au 3 rfl ?_
 obtain ⟨J9, m7, h0, s⟩ := s
 refine Run.of_fin (h0.imp fun h' h0 => ?_)
 refine Run.loop (σ := ByteArray × Nat) (fun x e h => J9 x.1 x.2 h ∧ Agree [(0, v1), (3, (.string x.1))] e) (fun x => x.2) (s3, m7) ⟨h0, ⟨rfl, rfl, trivial⟩⟩ ?_; clear h0
 rintro ⟨s4, m6⟩ e h5 ⟨hJ, hag⟩ ih8
 have s := s s4 m6 h5 hJ; clear hJ
 refine Run.env hag ?_; clear hag
 refine au 4 rfl ?_
 refine zcall s rfl rfl TF.goes_106 ?_
 rintro _ h10 ⟨s11, i12, rfl, s⟩
 refine au 10 rfl ?_
 refine zt s rfl rfl rfl binI_eql_t binI_eql_f (fun s => ?_) fun s => ?_
 ·refine au 8 rfl ?_
  exact zr (s.imp fun _ q => ⟨rfl, q⟩)
 ·refine au 3 rfl ?_
  refine zg rfl (sem_callV (v1) [(.string s11)] rfl rfl s (fun nx h' ha => ha.mono fun v h13 hv => ?_))
  obtain ⟨b14, rfl, s⟩ := hv
  cases b14
  ·replace s := s.2 rfl
   refine au 4 rfl ?_
   exact zr (s.imp fun _ q => ⟨rfl, q⟩)
  ·replace s := s.1 rfl
   refine au 8 rfl ?_
   obtain ⟨hi0, hi1, hi2, s⟩ := s
   refine zg rfl (sem_sliceStrI s4 (i12) ((ByteArray.size s4 : Nat)) rfl TF.isStr_9 ⟨_, rfl⟩ rfl hi0 hi1 hi2 ?_)
   refine au 3 rfl ?_
   exact Run.of_fin (s.imp fun h' ⟨m', hm, s⟩ => ih8 ((ByteArray.extract s4 (Int.toNat (i12)) (Int.toNat ((ByteArray.size s4 : Nat)))), m') _ _ ⟨s, ⟨rfl, rfl, trivial⟩⟩ hm)
theorem C_wafer_Open.of {B : RO} {s1 : ByteArray} {h : Heap} {Q : ByteArray → Int → Heap → Prop} (s : S_wafer_Open B s1 h Q) : C_wafer_Open B s1 h Q := by
 refine zspec Try.func106 [ResultVar.tmp 2, ResultVar.tmp 3] rfl rfl rfl rfl rfl ?_
 refine au 9 rfl ?_
 refine zg rfl (sem_lenStr s1 rfl TF.isStr_9 ?_)
 refine zt s rfl rfl rfl binI_lss_t binI_lss_f (fun s => ?_) fun s => ?_
 ·refine au 7 rfl ?_
  exact zr (s.imp fun _ q => ⟨_, _, rfl, q⟩)
 ·refine au 4 rfl ?_
  refine Run.drawM (fun h' => h' = h) [] ⟨[0, 1, 2, 4, 0, 16, 32, 72, 255], [511, 510, 509, 507, 511, 495, 479, 439, 383], [0, 0, 0, 0, 0, 0, 0, 0, 0], 0⟩ (.q 0 (.q 1 (.q 2 (.q 3 (.q 4 (.q 5 (.q 6 (.q 7 (.q 8 .nil))))))))) TF.mixed (by kernel_rfl) rfl ?_
  refine auT 1 rfl ?_
  obtain ⟨hi0, hi1, s⟩ := s
  refine zqe rfl (sem_indexStr' s1 .i64 (0) rfl rfl TF.isStr_9 hi0 hi1 ⟨rfl, rfl⟩) ?_
  refine zqe rfl (sem_convI .u8 .i64 (byteAt s1 (Int.toNat (0))) rfl TF.int_5 TF.int_3 ⟨rfl, rfl⟩) ?_
  obtain ⟨hi0, s⟩ := s
  refine zqe rfl (sem_shl .i64 .u64 (IntKind.wrap .i64 (byteAt s1 (Int.toNat (0)))) (8) rfl rfl hi0 ⟨rfl, rfl⟩) ?_
  refine auT 1 rfl ?_
  obtain ⟨hi0, hi1, s⟩ := s
  refine zqe rfl (sem_indexStr' s1 .i64 (1) rfl rfl TF.isStr_9 hi0 hi1 ⟨rfl, rfl⟩) ?_
  refine zqe rfl (sem_convI .u8 .i64 (byteAt s1 (Int.toNat (1))) rfl TF.int_5 TF.int_3 ⟨rfl, rfl⟩) ?_
  refine auT 2 rfl ?_
  refine au 7 rfl ?_
  refine Run.seqJ (fun e h5 => Agree [(0, (.string s1)), (4, (.int .i64 (IntKind.wrap .i64 ((BitVec.ofInt (IntKind.bits .i64) (IntKind.wrap .i64 ((IntKind.wrap .i64 (byteAt s1 (Int.toNat (0)))) * 2 ^ (min (Int.toNat (8)) (IntKind.bits .i64)))) ||| BitVec.ofInt (IntKind.bits .i64) (IntKind.wrap .i64 (byteAt s1 (Int.toNat (1))))).toNat : Int)))), (5, (.int .i64 (IntKind.wrap .i64 ((IntKind.wrap .i64 ((2) + (IntKind.wrap .i64 ((BitVec.ofInt (IntKind.bits .i64) (IntKind.wrap .i64 ((IntKind.wrap .i64 (byteAt s1 (Int.toNat (0)))) * 2 ^ (min (Int.toNat (8)) (IntKind.bits .i64)))) ||| BitVec.ofInt (IntKind.bits .i64) (IntKind.wrap .i64 (byteAt s1 (Int.toNat (1))))).toNat : Int)))) + (4)))))] e ∧ S_wafer_Open_J1 B s1 h5 Q) ?_ fun j4 => ?_
  ·rintro e h5 ⟨hag, s⟩
   refine Run.env hag ?_; clear hag
   refine au 2 rfl ?_
   obtain ⟨hi0, hi1, hi2, s⟩ := s
   have f10 := hi0; have f11 := hi1; have f12 := hi2
   obtain ⟨hi0, hi1, hi2, s⟩ := s
   have f18 := hi0; have f19 := hi1; have f20 := hi2
   refine Run.drawM (fun h' => True) [] ⟨[0, 0, 2, 5, 8, 16, 0, 0, 128, 0, 832, 1056], [4095, 4095, 4093, 4090, 4087, 4079, 4095, 4095, 3967, 4095, 3263, 3039], [0, 0, 0, 0, 0, 0, 0, 0, 0, 0, 0, 0], 0⟩ (.q 0 (.q 1 (.q 2 (.q 3 (.q 6 (.q 7 (.q 8 (.q 9 (.q 10 (.x 4 (.x 5 (.q 11 .nil) .no) .no)))))))))) TF.mixed (by kernel_rfl) trivial ?_
   refine auT 3 rfl ?_
   refine zq rfl (fun _ hC => sem_sliceStrI s1 (0) (IntKind.wrap .i64 ((2) + (IntKind.wrap .i64 ((BitVec.ofInt (IntKind.bits .i64) (IntKind.wrap .i64 ((IntKind.wrap .i64 (byteAt s1 (Int.toNat (0)))) * 2 ^ (min (Int.toNat (8)) (IntKind.bits .i64)))) ||| BitVec.ofInt (IntKind.bits .i64) (IntKind.wrap .i64 (byteAt s1 (Int.toNat (1))))).toNat : Int)))) rfl TF.isStr_9 rfl ⟨_, rfl⟩ f10 f11 f12 ⟨rfl, rfl⟩) ?_
   refine auT 4 rfl ?_
   refine zq rfl (fun _ hC => sem_sliceStrI s1 (IntKind.wrap .i64 ((2) + (IntKind.wrap .i64 ((BitVec.ofInt (IntKind.bits .i64) (IntKind.wrap .i64 ((IntKind.wrap .i64 (byteAt s1 (Int.toNat (0)))) * 2 ^ (min (Int.toNat (8)) (IntKind.bits .i64)))) ||| BitVec.ofInt (IntKind.bits .i64) (IntKind.wrap .i64 (byteAt s1 (Int.toNat (1))))).toNat : Int)))) (IntKind.wrap .i64 ((IntKind.wrap .i64 ((2) + (IntKind.wrap .i64 ((BitVec.ofInt (IntKind.bits .i64) (IntKind.wrap .i64 ((IntKind.wrap .i64 (byteAt s1 (Int.toNat (0)))) * 2 ^ (min (Int.toNat (8)) (IntKind.bits .i64)))) ||| BitVec.ofInt (IntKind.bits .i64) (IntKind.wrap .i64 (byteAt s1 (Int.toNat (1))))).toNat : Int)))) + (4))) rfl TF.isStr_9 ⟨_, rfl⟩ ⟨_, rfl⟩ f18 f19 f20 ⟨rfl, rfl⟩) ?_
   refine ⟨zo rfl (sem_callL [(.string (ByteArray.extract s1 (Int.toNat (0)) (Int.toNat (IntKind.wrap .i64 ((2) + (IntKind.wrap .i64 ((BitVec.ofInt (IntKind.bits .i64) (IntKind.wrap .i64 ((IntKind.wrap .i64 (byteAt s1 (Int.toNat (0)))) * 2 ^ (min (Int.toNat (8)) (IntKind.bits .i64)))) ||| BitVec.ofInt (IntKind.bits .i64) (IntKind.wrap .i64 (byteAt s1 (Int.toNat (1))))).toNat : Int)))))))] (TF.goes_101) rfl rfl (Spec.mono s fun v h21 hv => ?_)), trivial⟩
   obtain ⟨i22, rfl, s⟩ := hv
   refine ⟨fun _ => trivial, ?_⟩
   refine ⟨zo rfl (sem_callL [(.int .u32 (i22))] (TF.goes_100) rfl rfl (Spec.mono s fun v h23 hv => ?_)), trivial⟩
   obtain ⟨s24, rfl, s⟩ := hv
   refine ⟨fun _ => trivial, ?_⟩
   by_cases hb25 : s24 = (ByteArray.extract s1 (Int.toNat (IntKind.wrap .i64 ((2) + (IntKind.wrap .i64 ((BitVec.ofInt (IntKind.bits .i64) (IntKind.wrap .i64 ((IntKind.wrap .i64 (byteAt s1 (Int.toNat (0)))) * 2 ^ (min (Int.toNat (8)) (IntKind.bits .i64)))) ||| BitVec.ofInt (IntKind.bits .i64) (IntKind.wrap .i64 (byteAt s1 (Int.toNat (1))))).toNat : Int))))) (Int.toNat (IntKind.wrap .i64 ((IntKind.wrap .i64 ((2) + (IntKind.wrap .i64 ((BitVec.ofInt (IntKind.bits .i64) (IntKind.wrap .i64 ((IntKind.wrap .i64 (byteAt s1 (Int.toNat (0)))) * 2 ^ (min (Int.toNat (8)) (IntKind.bits .i64)))) ||| BitVec.ofInt (IntKind.bits .i64) (IntKind.wrap .i64 (byteAt s1 (Int.toNat (1))))).toNat : Int)))) + (4)))))
   ·replace s := s.1 hb25
    refine zq rfl (fun _ _ => sem_strNeT s24 (ByteArray.extract s1 (Int.toNat (IntKind.wrap .i64 ((2) + (IntKind.wrap .i64 ((BitVec.ofInt (IntKind.bits .i64) (IntKind.wrap .i64 ((IntKind.wrap .i64 (byteAt s1 (Int.toNat (0)))) * 2 ^ (min (Int.toNat (8)) (IntKind.bits .i64)))) ||| BitVec.ofInt (IntKind.bits .i64) (IntKind.wrap .i64 (byteAt s1 (Int.toNat (1))))).toNat : Int))))) (Int.toNat (IntKind.wrap .i64 ((IntKind.wrap .i64 ((2) + (IntKind.wrap .i64 ((BitVec.ofInt (IntKind.bits .i64) (IntKind.wrap .i64 ((IntKind.wrap .i64 (byteAt s1 (Int.toNat (0)))) * 2 ^ (min (Int.toNat (8)) (IntKind.bits .i64)))) ||| BitVec.ofInt (IntKind.bits .i64) (IntKind.wrap .i64 (byteAt s1 (Int.toNat (1))))).toNat : Int)))) + (4))))) rfl rfl hb25 ⟨rfl, rfl⟩) ?_
    refine au 7 rfl ?_
    obtain ⟨hi0, hi1, hi2, s⟩ := s
    refine zg rfl (sem_sliceStrI s1 (2) (IntKind.wrap .i64 ((2) + (IntKind.wrap .i64 ((BitVec.ofInt (IntKind.bits .i64) (IntKind.wrap .i64 ((IntKind.wrap .i64 (byteAt s1 (Int.toNat (0)))) * 2 ^ (min (Int.toNat (8)) (IntKind.bits .i64)))) ||| BitVec.ofInt (IntKind.bits .i64) (IntKind.wrap .i64 (byteAt s1 (Int.toNat (1))))).toNat : Int)))) rfl TF.isStr_9 ⟨_, rfl⟩ ⟨_, rfl⟩ hi0 hi1 hi2 ?_)
    refine au 4 rfl ?_
    exact zr (s.imp fun _ q => ⟨_, _, rfl, q⟩)
   ·replace s := s.2 hb25
    refine zq rfl (fun _ _ => sem_strNeF s24 (ByteArray.extract s1 (Int.toNat (IntKind.wrap .i64 ((2) + (IntKind.wrap .i64 ((BitVec.ofInt (IntKind.bits .i64) (IntKind.wrap .i64 ((IntKind.wrap .i64 (byteAt s1 (Int.toNat (0)))) * 2 ^ (min (Int.toNat (8)) (IntKind.bits .i64)))) ||| BitVec.ofInt (IntKind.bits .i64) (IntKind.wrap .i64 (byteAt s1 (Int.toNat (1))))).toNat : Int))))) (Int.toNat (IntKind.wrap .i64 ((IntKind.wrap .i64 ((2) + (IntKind.wrap .i64 ((BitVec.ofInt (IntKind.bits .i64) (IntKind.wrap .i64 ((IntKind.wrap .i64 (byteAt s1 (Int.toNat (0)))) * 2 ^ (min (Int.toNat (8)) (IntKind.bits .i64)))) ||| BitVec.ofInt (IntKind.bits .i64) (IntKind.wrap .i64 (byteAt s1 (Int.toNat (1))))).toNat : Int)))) + (4))))) rfl rfl hb25 ⟨rfl, rfl⟩) ?_
    refine au 6 rfl ?_
    exact zr (s.imp fun _ q => ⟨_, _, rfl, q⟩)
  refine au 3 rfl ?_
  refine zt s rfl rfl rfl binI_gtr_t binI_gtr_f (fun s => ?_) fun s => ?_
  ·refine au 13 rfl ?_
   exact zr (s.imp fun _ q => ⟨_, _, rfl, q⟩)
  ·refine au 2 rfl ?_
   refine zg rfl (sem_lenStr s1 rfl TF.isStr_9 ?_)
   refine au 1 rfl ?_
   refine zt s rfl rfl rfl binI_lss_t binI_lss_f (fun s => ?_) fun s => ?_
   ·refine au 8 rfl ?_
    exact zr (s.imp fun _ q => ⟨_, _, rfl, q⟩)
   ·refine au 4 rfl ?_
    exact Run.of_fin (s.imp fun h' s => j4 _ _ ⟨⟨rfl, rfl, rfl, trivial⟩, s⟩)
theorem C_cell_Row_file_File_All_1.of {B : RO} {v1 : Value} {A2 : Addr} {h : Heap} {Q : Heap → Prop} (s : S_cell_Row_file_File_All_1 B v1 A2 h Q) : C_cell_Row_file_File_All_1 B v1 A2 h Q := by
 refine zspec Try.func107 [] rfl rfl rfl rfl rfl ?_
 refine au 3 rfl ?_
 refine zl s rfl rfl TF.agg_162 fun p3 s => ?_
 by_cases hb4 : p3 = none
 ·replace s := s.1 hb4
  refine zg rfl (sem_ptrNilT p3 (.inl rfl) true rfl rfl TF.ptr_162 hb4 rfl ?_)
  refine au 2 rfl ?_
  exact zr (s.imp fun _ q => ⟨rfl, q⟩)
 ·replace s := s.2 hb4
  refine zg rfl (sem_ptrNilF p3 (.inl rfl) false rfl rfl TF.ptr_162 hb4 rfl ?_)
  refine au 5 rfl ?_
  refine zl s rfl rfl TF.agg_162 fun p5 s => ?_
  refine znil s rfl rfl fun A6 s => ?_
  refine au 1 rfl ?_
  refine Run.ldSl s fun a8 n9 c10 h11 hl s => ?_
  refine zg rfl (sem_load1 A6 ((.slice a8 n9 c10)) rfl TF.agg_197 hl ?_)
  refine zg rfl (sem_lenSl a8 n9 c10 rfl TF.sl_197 ?_)
  refine au 3 rfl ?_
  obtain ⟨J17, m15, h0, s⟩ := s
  refine Run.of_fin (h0.imp fun h' h0 => ?_)
  refine Run.loop (σ := Int × Nat) (fun x e h => J17 x.1 x.2 h ∧ Agree [(0, v1), (10, (.slice a8 n9 c10)), (11, (.int .i64 ((n9 : Nat)))), (12, (.int .i64 (x.1)))] e) (fun x => x.2) ((0), m15) ⟨h0, ⟨rfl, rfl, rfl, rfl, trivial⟩⟩ ?_; clear h0
  rintro ⟨i12, m14⟩ e h13 ⟨hJ, hag⟩ ih16
  have s := s i12 m14 h13 hJ; clear hJ
  refine Run.env hag ?_; clear hag
  refine au 2 rfl ?_
  refine zt s rfl rfl rfl binI_lss_t binI_lss_f (fun s => ?_) fun s => ?_
  ·refine au 9 rfl ?_
   obtain ⟨A18, e19, hi0, hi1, s⟩ := s
   refine zg rfl (sem_indexAddrS A18 n9 c10 .i64 (i12) (congrArg (fun a => Value.slice a n9 c10) e19) rfl TF.slc_197 hi0 hi1 ?_)
   obtain ⟨b20, s21, i22, hl, s⟩ := s
   refine zn hl rfl rfl TF.agg_196 TF.sz_196 rfl ?_
   refine zal s rfl TF.zero_196 rfl fun k23 h24 s => ?_
   refine au 1 rfl ?_
   refine zsn s rfl rfl rfl TF.sz_196 rfl fun h25 s => ?_
   refine au 6 rfl ?_
   obtain ⟨b26, s27, hl, s⟩ := s
   refine zn hl rfl rfl TF.agg_111 TF.sz_111 rfl ?_
   refine zg rfl (sem_callV (v1) [(.int .i64 (i12)), (.agg #[(.bool b26), (.string s27)])] rfl rfl s (fun nx h' ha => ha.mono fun v h28 hv => ?_))
   obtain ⟨b29, rfl, s⟩ := hv
   cases b29
   ·replace s := s.2 rfl
    refine au 3 rfl ?_
    exact zr (s.imp fun _ q => ⟨rfl, q⟩)
   ·replace s := s.1 rfl
    refine au 9 rfl ?_
    exact Run.of_fin (s.imp fun h' ⟨m', hm, s⟩ => ih16 ((IntKind.wrap .i64 ((i12) + (1))), m') _ _ ⟨s, ⟨rfl, rfl, rfl, rfl, trivial⟩⟩ hm)
  ·refine au 4 rfl ?_
   exact zf (s.imp fun _ q => ⟨rfl, q⟩)
theorem C_countermandref02_Sum.of {B : RO} {s1 : ByteArray} {h : Heap} {Q : Int → Heap → Prop} (s : S_countermandref02_Sum B s1 h Q) : C_countermandref02_Sum B s1 h Q := by
 refine zspec Try.func108 [ResultVar.tmp 2] rfl rfl rfl rfl rfl ?_
 refine au 14 rfl ?_
 obtain ⟨J9, m7, h0, s⟩ := s
 refine Run.of_fin (h0.imp fun h' h0 => ?_)
 refine Run.loop (σ := Int × Int × Nat) (fun x e h => J9 x.1 x.2.1 x.2.2 h ∧ Agree [(0, (.string s1)), (3, (.int .u32 (x.1))), (4, (.int .i64 (x.2.1)))] e) (fun x => x.2.2) ((4294967295), (0), m7) ⟨h0, ⟨rfl, rfl, rfl, trivial⟩⟩ ?_; clear h0
 rintro ⟨i3, i4, m6⟩ e h5 ⟨hJ, hag⟩ ih8
 have s := s i3 i4 m6 h5 hJ; clear hJ
 refine Run.env hag ?_; clear hag
 refine au 5 rfl ?_
 refine zg rfl (sem_lenStr s1 rfl TF.isStr_9 ?_)
 refine zt s rfl rfl rfl binI_lss_t binI_lss_f (fun s => ?_) fun s => ?_
 ·refine au 9 rfl ?_
  obtain ⟨hi0, hi1, s⟩ := s
  refine zg rfl (sem_indexStr' s1 .i64 (i4) rfl rfl TF.isStr_9 hi0 hi1 ?_)
  refine au 7 rfl ?_
  obtain ⟨J17, m15, h0, s⟩ := s
  refine Run.of_fin (h0.imp fun h' h0 => ?_)
  refine Run.loop (σ := Int × Int × Int × Nat) (fun x e h => J17 x.1 x.2.1 x.2.2.1 x.2.2.2 h ∧ Agree [(0, (.string s1)), (3, (.int .u32 (x.1))), (4, (.int .i64 (i4))), (5, (.int .u8 (x.2.1))), (6, (.int .i64 (x.2.2.1)))] e) (fun x => x.2.2.2) ((i3), (byteAt s1 (Int.toNat (i4))), (0), m15) ⟨h0, ⟨rfl, rfl, rfl, rfl, rfl, trivial⟩⟩ ?_; clear h0
  rintro ⟨i10, i11, i12, m14⟩ e h13 ⟨hJ, hag⟩ ih16
  have s := s i10 i11 i12 m14 h13 hJ; clear hJ
  refine Run.env hag ?_; clear hag
  refine au 4 rfl ?_
  refine zt s rfl rfl rfl binI_lss_t binI_lss_f (fun s => ?_) fun s => ?_
  ·refine au 8 rfl ?_
   obtain ⟨hi0, s⟩ := s
   refine zg rfl (sem_binI .u32 (i10) (2) ((.int .u32 (Int.tmod (i10) (2)))) rfl rfl (binI_rem hi0) ?_)
   refine au 2 rfl ?_
   obtain ⟨hi0, s⟩ := s
   refine zg rfl (sem_binI .u8 (i11) (2) ((.int .u8 (Int.tmod (i11) (2)))) rfl rfl (binI_rem hi0) ?_)
   refine au 1 rfl ?_
   by_cases hb18 : ((Int.tmod (i10) (2) : Int) == (1)) = ((Int.tmod (i11) (2) : Int) == (1))
   ·replace s := s.1 hb18
    refine zg rfl (sem_boolEqT ((Int.tmod (i10) (2) : Int) == (1)) ((Int.tmod (i11) (2) : Int) == (1)) (.inr rfl) false rfl rfl TF.bool_4 hb18 rfl ?_)
    refine au 5 rfl ?_
    obtain ⟨hi0, s⟩ := s
    refine zg rfl (sem_binI .u32 (i10) (2) ((.int .u32 (IntKind.wrap .u32 (Int.tdiv (i10) (2))))) rfl rfl (binI_quo hi0) ?_)
    refine au 5 rfl ?_
    obtain ⟨hi0, s⟩ := s
    refine zg rfl (sem_binI .u8 (i11) (2) ((.int .u8 (IntKind.wrap .u8 (Int.tdiv (i11) (2))))) rfl rfl (binI_quo hi0) ?_)
    refine au 14 rfl ?_
    exact Run.of_fin (s.imp fun h' ⟨m', hm, s⟩ => ih16 ((IntKind.wrap .u32 (Int.tdiv (i10) (2))), (IntKind.wrap .u8 (Int.tdiv (i11) (2))), (IntKind.wrap .i64 ((i12) + (1))), m') _ _ ⟨s, ⟨rfl, rfl, rfl, rfl, rfl, trivial⟩⟩ hm)
   ·replace s := s.2 hb18
    refine zg rfl (sem_boolEqF ((Int.tmod (i10) (2) : Int) == (1)) ((Int.tmod (i11) (2) : Int) == (1)) (.inr rfl) true rfl rfl TF.bool_4 hb18 rfl ?_)
    refine au 5 rfl ?_
    obtain ⟨hi0, s⟩ := s
    refine zg rfl (sem_binI .u32 (i10) (2) ((.int .u32 (IntKind.wrap .u32 (Int.tdiv (i10) (2))))) rfl rfl (binI_quo hi0) ?_)
    refine au 5 rfl ?_
    obtain ⟨hi0, s⟩ := s
    refine zg rfl (sem_binI .u8 (i11) (2) ((.int .u8 (IntKind.wrap .u8 (Int.tdiv (i11) (2))))) rfl rfl (binI_quo hi0) ?_)
    refine au 18 rfl ?_
    exact Run.of_fin (s.imp fun h' ⟨m', hm, s⟩ => ih16 ((IntKind.wrap .u32 ((BitVec.ofInt (IntKind.bits .u32) (IntKind.wrap .u32 (Int.tdiv (i10) (2))) ^^^ BitVec.ofInt (IntKind.bits .u32) (2197175160)).toNat : Int)), (IntKind.wrap .u8 (Int.tdiv (i11) (2))), (IntKind.wrap .i64 ((i12) + (1))), m') _ _ ⟨s, ⟨rfl, rfl, rfl, rfl, rfl, trivial⟩⟩ hm)
  ·refine au 9 rfl ?_
   exact Run.of_fin (s.imp fun h' ⟨m', hm, s⟩ => ih8 ((i10), (IntKind.wrap .i64 ((i4) + (1))), m') _ _ ⟨s, ⟨rfl, rfl, rfl, trivial⟩⟩ hm)
 ·refine au 9 rfl ?_
  exact zr (s.imp fun _ q => ⟨_, rfl, q⟩)
end Go.Proofs.Ytlehephbflgblaa.H
namespace Go.Proofs.Ytlehephbflgblaa.H
open Go
set_option linter.unusedVariables false
set_option maxRecDepth 100000
theorem byteAt_w {s : ByteArray} {i : Nat} (h : i < s.size) : ∃ b, (bl s)[i]? = some b ∧ byteAt s i = ((b.toNat : Nat) : Int) := by
  refine ⟨s[i], ?_, by unfold byteAt; rw [dif_pos h]⟩
  have h' : i < s.data.toList.length := by simpa using h
  show s.data.toList[i]? = some s[i]
  rw [List.getElem?_eq_getElem h']
  rfl
theorem bvIntU (n : Int) : BitVec.ofInt 32 (IntKind.wrap .u32 n) = BitVec.ofInt 32 n := by
  apply BitVec.eq_of_toNat_eq
  rw [BitVec.toNat_ofInt, BitVec.toNat_ofInt, wu32]
  congr 1
  show n % 4294967296 % 4294967296 = n % 4294967296
  omega
theorem progByte (c : BitVec 32) (b : UInt8) : IntKind.wrap .u32 (((BitVec.ofInt (IntKind.bits .u32) ((c.toNat : Nat) : Int) ^^^ BitVec.ofInt (IntKind.bits .u32) (IntKind.wrap .u32 ((b.toNat : Nat) : Int))).toNat : Nat) : Int) = (((c ^^^ BitVec.ofNat 32 b.toNat).toNat : Nat) : Int) := by
  show IntKind.wrap .u32 (((BitVec.ofInt 32 ((c.toNat : Nat) : Int) ^^^ BitVec.ofInt 32 (IntKind.wrap .u32 ((b.toNat : Nat) : Int))).toNat : Nat) : Int) = _
  rw [bvIntU, bvInt, BitVec.ofInt_natCast, wrapBv]
theorem progBit (c : BitVec 32) : IntKind.wrap .u32 (((BitVec.ofInt (IntKind.bits .u32) (Int.fdiv ((c.toNat : Nat) : Int) (2 ^ (min (Int.toNat (1)) (IntKind.bits .u32)))) ^^^ BitVec.ofInt (IntKind.bits .u32) (IntKind.wrap .u32 (((BitVec.ofInt (IntKind.bits .u32) (2197175160) &&& BitVec.ofInt (IntKind.bits .u32) (IntKind.wrap .u32 (0 - (IntKind.wrap .u32 (((BitVec.ofInt (IntKind.bits .u32) ((c.toNat : Nat) : Int) &&& BitVec.ofInt (IntKind.bits .u32) (1)).toNat : Nat) : Int))))).toNat : Nat) : Int))).toNat : Nat) : Int) = (((crcBit c).toNat : Nat) : Int) := by
  have e2 : (2 : Int) ^ (min (Int.toNat (1)) (IntKind.bits .u32)) = 2 := by decide
  rw [e2]
  show IntKind.wrap .u32 (((BitVec.ofInt 32 (Int.fdiv ((c.toNat : Nat) : Int) 2) ^^^ BitVec.ofInt 32 (IntKind.wrap .u32 (((BitVec.ofInt 32 (2197175160) &&& BitVec.ofInt 32 (IntKind.wrap .u32 (0 - (IntKind.wrap .u32 (((BitVec.ofInt 32 ((c.toNat : Nat) : Int) &&& BitVec.ofInt 32 (1)).toNat : Nat) : Int))))).toNat : Nat) : Int))).toNat : Nat) : Int) = _
  have e3 : BitVec.ofInt 32 1 = 1#32 := by decide
  have e4 : BitVec.ofInt 32 2197175160 = polyV := by decide
  have e5 : BitVec.ofInt 32 (Int.fdiv ((c.toNat : Nat) : Int) 2) = c >>> 1 := by
    rw [Int.fdiv_eq_ediv_of_nonneg _ (by omega)]
    show BitVec.ofInt 32 ((c.toNat / 2 : Nat) : Int) = _
    rw [← shr1_toNat, bvInt]
  have e6 : ∀ x : BitVec 32, BitVec.ofInt 32 (0 - ((x.toNat : Nat) : Int)) = -x := fun x => by
    apply BitVec.eq_of_toNat_eq
    rw [BitVec.toNat_ofInt, BitVec.toNat_neg]
    have := x.isLt
    show ((0 - ((x.toNat : Nat) : Int)) % ((4294967296 : Nat) : Int)).toNat = (4294967296 - x.toNat) % 4294967296
    omega
  rw [e3, e4, e5, bvInt, wrapBv (c &&& 1#32), bvIntU (0 - _), e6, bvIntU, bvInt, wrapBv]
  rfl
theorem compl_toNat (x : BitVec 32) : (4294967295#32 ^^^ x).toNat = 4294967295 - x.toNat := by
  have : (4294967295#32 : BitVec 32) = BitVec.allOnes 32 := by decide
  rw [this, BitVec.allOnes_xor, BitVec.toNat_not]
theorem crcRaw_take (l : List UInt8) (j : Nat) (b : UInt8) (h : l[j]? = some b) : crcRaw (l.take (j + 1)) = crcByte (crcRaw (l.take j)) b := by
  obtain ⟨hj, rfl⟩ := List.getElem?_eq_some_iff.1 h
  unfold crcRaw
  rw [List.take_succ_eq_append_getElem hj, List.foldl_append]; rfl
theorem le4_bytes {n : Nat} (h : n < 4294967296) : [(Value.int .u8 (IntKind.wrap .u8 ((n : Nat) : Int))), (Value.int .u8 (IntKind.wrap .u8 (Int.fdiv ((n : Nat) : Int) (2 ^ (min (Int.toNat (8)) (IntKind.bits .u32)))))), (Value.int .u8 (IntKind.wrap .u8 (Int.fdiv ((n : Nat) : Int) (2 ^ (min (Int.toNat (16)) (IntKind.bits .u32)))))), (Value.int .u8 (IntKind.wrap .u8 (Int.fdiv ((n : Nat) : Int) (2 ^ (min (Int.toNat (24)) (IntKind.bits .u32))))))] = (le4 n).map byteV := by
  have a1 : (2 : Int) ^ (min (Int.toNat (8)) (IntKind.bits .u32)) = 256 := by decide
  have a2 : (2 : Int) ^ (min (Int.toNat (16)) (IntKind.bits .u32)) = 65536 := by decide
  have a3 : (2 : Int) ^ (min (Int.toNat (24)) (IntKind.bits .u32)) = 16777216 := by decide
  rw [a1, a2, a3, Int.fdiv_eq_ediv_of_nonneg _ (by omega), Int.fdiv_eq_ediv_of_nonneg _ (by omega), Int.fdiv_eq_ediv_of_nonneg _ (by omega), wu8, wu8, wu8, wu8]
  unfold le4 byteV
  simp only [List.map_cons, List.map_nil, UInt8.toNat_ofNat']
  rfl
theorem le4_bytes2 {n : Nat} (h : n < 4294967296) : [(Value.int .u8 (IntKind.wrap .u8 (Int.tmod ((n : Nat) : Int) (256)))), (Value.int .u8 (IntKind.wrap .u8 (Int.tmod (IntKind.wrap .u32 (Int.tdiv ((n : Nat) : Int) (256))) (256)))), (Value.int .u8 (IntKind.wrap .u8 (Int.tmod (IntKind.wrap .u32 (Int.tdiv ((n : Nat) : Int) (65536))) (256)))), (Value.int .u8 (IntKind.wrap .u8 (IntKind.wrap .u32 (Int.tdiv ((n : Nat) : Int) (16777216)))))] = (le4 n).map byteV := by
  have t1 : ∀ m : Nat, Int.tdiv ((n : Nat) : Int) (m : Nat) = ((n / m : Nat) : Int) := fun m => rfl
  have t2 : ∀ m : Nat, Int.tmod ((m : Nat) : Int) 256 = ((m % 256 : Nat) : Int) := fun m => rfl
  have t3 : ∀ m : Nat, m ≤ n → IntKind.wrap .u32 ((m : Nat) : Int) = ((m : Nat) : Int) := fun m hm => by rw [wu32]; omega
  have r1 : Int.tdiv ((n : Nat) : Int) 256 = ((n / 256 : Nat) : Int) := rfl
  have r2 : Int.tdiv ((n : Nat) : Int) 65536 = ((n / 65536 : Nat) : Int) := rfl
  have r3 : Int.tdiv ((n : Nat) : Int) 16777216 = ((n / 16777216 : Nat) : Int) := rfl
  rw [r1, r2, r3, t3 _ (Nat.div_le_self _ _), t3 _ (Nat.div_le_self _ _), t3 _ (Nat.div_le_self _ _), t2, t2, t2, wu8, wu8, wu8, wu8]
  unfold le4 byteV
  simp only [List.map_cons, List.map_nil, UInt8.toNat_ofNat']
  refine congr (congrArg List.cons ?_) (congr (congrArg List.cons ?_) (congr (congrArg List.cons ?_) (congr (congrArg List.cons ?_) rfl))) <;> congr 1 <;> omega
theorem hdr_bytes {n : Nat} (h : n ≤ 1024) : [(Value.int .u8 (IntKind.wrap .u8 (Int.fdiv ((n : Nat) : Int) (2 ^ (min (Int.toNat (8)) (IntKind.bits .i64)))))), (Value.int .u8 (IntKind.wrap .u8 ((n : Nat) : Int)))] = (hdrL n).map byteV := by
  have a1 : (2 : Int) ^ (min (Int.toNat (8)) (IntKind.bits .i64)) = 256 := by decide
  rw [a1, Int.fdiv_eq_ediv_of_nonneg _ (by omega), wu8, wu8]
  unfold hdrL byteV
  simp only [List.map_cons, List.map_nil, UInt8.toNat_ofNat']
  rfl
theorem hdr_bytes2 {n : Nat} (h : n ≤ 1024) : [(Value.int .u8 (IntKind.wrap .u8 (IntKind.wrap .i64 (Int.tdiv ((n : Nat) : Int) (256))))), (Value.int .u8 (IntKind.wrap .u8 (Int.tmod ((n : Nat) : Int) (256))))] = (hdrL n).map byteV := by
  have r1 : Int.tdiv ((n : Nat) : Int) 256 = ((n / 256 : Nat) : Int) := rfl
  have r2 : Int.tmod ((n : Nat) : Int) 256 = ((n % 256 : Nat) : Int) := rfl
  rw [r1, r2, w64 (by omega) (by omega), wu8, wu8]
  unfold hdrL byteV
  simp only [List.map_cons, List.map_nil, UInt8.toNat_ofNat']
  refine congr (congrArg List.cons ?_) (congr (congrArg List.cons ?_) rfl) <;> congr 1 <;> omega
theorem TK.byteStr2 : byteStr PG TY.s_uint8 TY.string = true := by kernel_rfl
theorem TK.slc_strs : slcB PG TY.s_string = some (TY.string, 1, 16) := by kernel_rfl
theorem TK.zero_str : zeroB PG TY.string = some [.string ByteArray.empty] := by kernel_rfl
theorem TK.sl_strs : slT PG TY.s_string = true := by kernel_rfl
def strC (l : List UInt8) : List Value := [.string (ba l)]
theorem strC_len (l : List UInt8) : (strC l).length = 1 := rfl
section
variable {B : RO} {h h0 : Heap} {L : List (Option (Nat × AObj))}
theorem bytes_str {k n : Nat} {vs : List Value} {bs : List UInt8} {K : Value → Heap → Prop} (hk : h k = some (.vec TY.uint8 (plains vs) n)) (hv : vs = bs.map byteV) (hn : bs.length ≤ n) (hK : K (.string (ba bs)) h) :
    semH PG B (convert TY.s_uint8 TY.string (.slice (some ⟨k, 0, none⟩) bs.length bs.length)) h K := by
  subst hv
  refine semH_convB TK.byteStr2 (semH_bytesToString (e := TY.uint8) (bs := bs) (.inr ⟨k, bs.length, bs.length, n, [], rfl, by rw [List.append_nil]; exact hk, by simp, by omega, by omega⟩) hK)
theorem wsum_wp {s : ByteArray} {Q : Int → Heap → Prop} (hs : s.size ≤ 1099511627776) (hQ : Q ((crcL (bl s) : Nat) : Int) h) : C_wafer_Sum B s h Q := by
  refine C_wafer_Sum.of ?_
  unfold S_wafer_Sum
  refine ⟨fun a i m h' => ∃ j : Nat, j ≤ s.size ∧ i = j ∧ a = ((crcRaw ((bl s).take j)).toNat : Nat) ∧ m = s.size - j ∧ h' = h, s.size, Fin.of ⟨0, by omega, rfl, rfl, by omega, rfl⟩, ?_⟩
  rintro _ _ _ h5 ⟨j, hj, rfl, rfl, rfl, rfl⟩
  refine ⟨fun hlt => ⟨by omega, hlt, ?_⟩, fun hge => Fin.of ?_⟩
  · have hj' : j < s.size := by omega
    obtain ⟨b, hb1, hb2⟩ := byteAt_w hj'
    have e0 : Int.toNat (j : Int) = j := by omega
    rw [e0, hb2, progByte]
    refine ⟨fun a k m h' => ∃ (n : Nat) (c : BitVec 32), n ≤ 8 ∧ k = n ∧ a = (c.toNat : Nat) ∧ crcBits (8 - n) c = crcByte (crcRaw ((bl s).take j)) b ∧ m = 8 - n ∧ h' = h5, 8, Fin.of ⟨0, _, by omega, rfl, rfl, rfl, by omega, rfl⟩, ?_⟩
    rintro _ _ _ h13 ⟨n, c, hn, rfl, rfl, hc, rfl, rfl⟩
    refine ⟨fun h8 => ⟨by decide, Fin.of ?_⟩, fun h8 => Fin.of ?_⟩
    · rw [progBit]
      refine ⟨8 - (n + 1), by omega, n + 1, crcBit c, by omega, ?_, rfl, ?_, rfl, rfl⟩
      · rw [w64 (by omega) (by omega)]; omega
      · rw [← hc, show 8 - n = (8 - (n + 1)) + 1 by omega]; rfl
    · have : n = 8 := by omega
      subst this
      refine ⟨s.size - (j + 1), by omega, j + 1, by omega, ?_, ?_, rfl, rfl⟩
      · rw [w64 (by omega) (by omega)]; omega
      · rw [crcRaw_take _ _ _ hb1, ← hc]; rfl
  · have : j = s.size := by omega
    subst this
    rw [← bl_length, List.take_length]
    have e : IntKind.wrap .u32 (((BitVec.ofInt (IntKind.bits .u32) (if IntKind.signed .u32 then (-1 : Int) else IntKind.max .u32) ^^^ BitVec.ofInt (IntKind.bits .u32) (((crcRaw (bl s)).toNat : Nat) : Int)).toNat : Nat) : Int) = ((crcL (bl s) : Nat) : Int) := by
      have e1 : BitVec.ofInt (IntKind.bits .u32) (if IntKind.signed .u32 then (-1 : Int) else IntKind.max .u32) = (4294967295#32 : BitVec 32) := by
        show BitVec.ofInt 32 4294967295 = (4294967295#32 : BitVec 32)
        decide
      rw [e1]
      show IntKind.wrap .u32 (((4294967295#32 ^^^ BitVec.ofInt 32 (((crcRaw (bl s)).toNat : Nat) : Int)).toNat : Nat) : Int) = _
      rw [bvInt, wrapBv]; rfl
    rw [e]; exact hQ
theorem rsum_wp {s : ByteArray} {Q : Int → Heap → Prop} (hs : s.size ≤ 1099511627776) (hQ : Q ((crcL (bl s) : Nat) : Int) h) : C_countermandref02_Sum B s h Q := by
  refine C_countermandref02_Sum.of ?_
  unfold S_countermandref02_Sum
  refine ⟨fun a i m h' => ∃ j : Nat, j ≤ s.size ∧ i = j ∧ a = ((crcRaw ((bl s).take j)).toNat : Nat) ∧ m = s.size - j ∧ h' = h, s.size, Fin.of ⟨0, by omega, rfl, rfl, by omega, rfl⟩, ?_⟩
  rintro _ _ _ h5 ⟨j, hj, rfl, rfl, rfl, rfl⟩
  refine ⟨fun hlt => ⟨by omega, hlt, ?_⟩, fun hge => Fin.of ?_⟩
  · have hj' : j < s.size := by omega
    obtain ⟨b, hb1, hb2⟩ := byteAt_w hj'
    have e0 : Int.toNat (j : Int) = j := by omega
    rw [e0, hb2]
    refine ⟨fun a b' k m h' => ∃ (n : Nat) (c : BitVec 32) (x : Nat), n ≤ 8 ∧ k = n ∧ a = (c.toNat : Nat) ∧ b' = x ∧ x < 2 ^ (8 - n) ∧ crcBits (8 - n) (c ^^^ BitVec.ofNat 32 x) = crcByte (crcRaw ((bl s).take j)) b ∧ m = 8 - n ∧ h' = h5, 8, Fin.of ⟨0, _, b.toNat, by omega, rfl, rfl, rfl, b.toNat_lt, rfl, by omega, rfl⟩, ?_⟩
    rintro _ _ _ _ h14 ⟨n, c, x, hn, rfl, rfl, rfl, hx, hc, rfl, rfl⟩
    have hx8 : x < 256 := Nat.lt_of_lt_of_le hx (Nat.le_trans (Nat.pow_le_pow_right (by omega) (show 8 - n ≤ 8 by omega)) (by decide))
    have hcl := c.isLt
    refine ⟨fun h8 => ⟨by decide, by decide, ?_⟩, fun h8 => Fin.of ?_⟩
    · have hxs : x / 2 < 2 ^ (8 - (n + 1)) := by
        rw [show 8 - n = (8 - (n + 1)) + 1 by omega, Nat.pow_succ] at hx; omega
      have hw : IntKind.wrap .i64 ((n : Int) + 1) = ((n + 1 : Nat) : Int) := by rw [w64 (by omega) (by omega)]; omega
      have t1 : Int.tmod ((c.toNat : Nat) : Int) 2 = ((c.toNat % 2 : Nat) : Int) := rfl
      have t2 : Int.tmod ((x : Nat) : Int) 2 = ((x % 2 : Nat) : Int) := rfl
      have t3 : Int.tdiv ((c.toNat : Nat) : Int) 2 = ((c.toNat / 2 : Nat) : Int) := rfl
      have t4 : Int.tdiv ((x : Nat) : Int) 2 = ((x / 2 : Nat) : Int) := rfl
      have t5 : IntKind.wrap .u8 ((x / 2 : Nat) : Int) = ((x / 2 : Nat) : Int) := by rw [wu8]; omega
      have t6 : IntKind.wrap .u32 ((c.toNat / 2 : Nat) : Int) = (((c >>> 1).toNat : Nat) : Int) := by rw [← shr1_toNat, wrapBv]
      rw [t1, t2, t3, t4, t5, t6]
      have hcs : crcBits (8 - (n + 1)) (crcBit (c ^^^ BitVec.ofNat 32 x)) = crcByte (crcRaw ((bl s).take j)) b := by
        rw [← hc, show 8 - n = (8 - (n + 1)) + 1 by omega]; rfl
      have hp : ((((c.toNat % 2 : Nat) : Int) == 1) = (((x % 2 : Nat) : Int) == 1)) ↔ c.toNat % 2 = x % 2 := by
        rw [Bool.eq_iff_iff, beq_iff_eq, beq_iff_eq]; omega
      refine ⟨fun he => ⟨by decide, by decide, Fin.of ?_⟩, fun he => ⟨by decide, by decide, Fin.of ?_⟩⟩
      · rw [crcBit_even2 hx8 (hp.1 he)] at hcs
        exact ⟨8 - (n + 1), by omega, n + 1, c >>> 1, x / 2, by omega, hw, rfl, rfl, hxs, hcs, rfl, rfl⟩
      · rw [crcBit_odd2 hx8 (fun z => he (hp.2 z))] at hcs
        refine ⟨8 - (n + 1), by omega, n + 1, (c >>> 1) ^^^ polyV, x / 2, by omega, hw, ?_, rfl, hxs, hcs, rfl, rfl⟩
        show IntKind.wrap .u32 (((BitVec.ofInt 32 (((c >>> 1).toNat : Nat) : Int) ^^^ BitVec.ofInt 32 2197175160).toNat : Nat) : Int) = _
        rw [bvInt, show BitVec.ofInt 32 2197175160 = polyV by decide, wrapBv]
    · have : n = 8 := by omega
      subst this
      have hx0 : x = 0 := by simpa using hx
      subst hx0
      refine ⟨s.size - (j + 1), by omega, j + 1, by omega, ?_, ?_, rfl, rfl⟩
      · rw [w64 (by omega) (by omega)]; omega
      · rw [crcRaw_take _ _ _ hb1, ← hc]
        show _ = (((c ^^^ 0#32).toNat : Nat) : Int)
        rw [BitVec.xor_zero]
  · have : j = s.size := by omega
    subst this
    rw [← bl_length, List.take_length]
    have hl := (crcRaw (bl s)).isLt
    have e : IntKind.wrap .u32 (4294967295 - (((crcRaw (bl s)).toNat : Nat) : Int)) = ((crcL (bl s) : Nat) : Int) := by
      rw [wu32, crcL, compl_toNat]; omega
    rw [e]; exact hQ
theorem foots_wp {n : Nat} {Q : ByteArray → Heap → Prop} (hn : n < 4294967296) (hQ : Q (ba (le4 n)) h) : C_wafer_foots B ((n : Nat) : Int) h Q := by
  refine C_wafer_foots.of ?_
  unfold S_wafer_foots
  refine ⟨by decide, by decide, by decide, fun k a b h4 e4 => ?_⟩
  obtain ⟨g, l, -⟩ := Heap.made a e4
  exact bytes_str (bs := le4 n) g (le4_bytes hn) (by simp [le4]) ⟨_, rfl, Fin.ent (Ent.forget l) (Fin.of hQ)⟩
theorem wclose_wp {s : ByteArray} {Q : ByteArray → Heap → Prop} (hs : s.size ≤ 1099511627776) (hQ : Q (ba (closeL (bl s))) h) : C_wafer_Close B s h Q := by
  refine C_wafer_Close.of ?_
  unfold S_wafer_Close
  refine ⟨fun hgt => Fin.of ?_, fun hle => ⟨by decide, fun k a b h4 e4 => ?_⟩⟩
  · rw [closeL, if_pos (by rw [bl_length]; omega)] at hQ; exact hQ
  · obtain ⟨g, l, -⟩ := Heap.made a e4
    refine bytes_str (bs := hdrL s.size) g (hdr_bytes (by omega)) (by simp [hdrL]) ⟨_, rfl, ?_⟩
    have hz : (ba (hdrL s.size)).size = 2 := by rw [ba_size]; rfl
    refine ⟨by rw [hz]; omega, wsum_wp (by rw [ByteArray.size_append, hz]; omega) (foots_wp (crcL_lt _) ⟨by rw [ByteArray.size_append, hz, ba_size]; simp [le4]; omega, Fin.ent (Ent.forget l) (Fin.of ?_)⟩)⟩
    have : ba (closeL (bl s)) = ba (hdrL s.size) ++ s ++ ba (le4 (crcL (bl (ba (hdrL s.size) ++ s)))) := by
      apply bl_inj
      simp only [bl_ba, bl_append, closeL, bl_length]
      rw [if_neg (by omega)]
    rw [← this]; exact hQ
theorem rclose_wp {s : ByteArray} {Q : ByteArray → Heap → Prop} (hs : s.size ≤ 1099511627776) (hQ : Q (ba (closeL (bl s))) h) : C_countermandref02_Close B s h Q := by
  refine C_countermandref02_Close.of ?_
  unfold S_countermandref02_Close
  refine ⟨fun hgt => Fin.of ?_, fun hle => ⟨by decide, by decide, fun k a b h4 e4 => ?_⟩⟩
  · rw [closeL, if_pos (by rw [bl_length]; omega)] at hQ; exact hQ
  · obtain ⟨g, l, -⟩ := Heap.made a e4
    refine bytes_str (bs := hdrL s.size) g (hdr_bytes2 (by omega)) (by simp [hdrL]) ⟨_, rfl, ?_⟩
    have hz : (ba (hdrL s.size)).size = 2 := by rw [ba_size]; rfl
    refine ⟨by rw [hz]; omega, rsum_wp (by rw [ByteArray.size_append, hz]; omega) ⟨by decide, by decide, by decide, by decide, by decide, by decide, fun k10 a10 b10 h11 e11 => ?_⟩⟩
    obtain ⟨g11, l11, -⟩ := Heap.made a10 e11
    refine bytes_str (bs := le4 (crcL (bl (ba (hdrL s.size) ++ s)))) g11 (le4_bytes2 (crcL_lt _)) (by simp [le4]) ⟨_, rfl, ?_⟩
    refine ⟨by rw [ByteArray.size_append, hz, ba_size]; simp [le4]; omega, Fin.ent (Ent.forget (Le.trans l l11)) (Fin.of ?_)⟩
    have : ba (closeL (bl s)) = ba (hdrL s.size) ++ s ++ ba (le4 (crcL (bl (ba (hdrL s.size) ++ s)))) := by
      apply bl_inj
      simp only [bl_ba, bl_append, closeL, bl_length]
      rw [if_neg (by omega)]
    rw [← this]; exact hQ
end
end Go.Proofs.Ytlehephbflgblaa.H
