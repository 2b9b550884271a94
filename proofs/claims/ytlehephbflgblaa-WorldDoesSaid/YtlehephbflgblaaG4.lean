/- What the law's proof stands on, part 4. No condition. -/
import Derived.Test.YtlehephbflgblaaG3
namespace Go.Proofs.Ytlehephbflgblaa.H
open Go
set_option linter.unusedVariables false
set_option maxRecDepth 100000
set_option maxHeartbeats 4000000
theorem C_vault_Vault_Append.of {B : RO} {p1 : Option Addr} {s2 : ByteArray} {h : Heap} {Q : Int → Heap → Prop} (s : S_vault_Vault_Append B p1 s2 h Q) : C_vault_Vault_Append B p1 s2 h Q := by
 refine zspec Try.func48 [ResultVar.tmp 4] rfl rfl rfl rfl rfl ?_
 refine au 4 rfl ?_
 refine Run.seqJ (fun e h5 => Agree [(0, (.pointer p1)), (1, (.string s2))] e ∧ S_vault_Vault_Append_J1 B p1 s2 h5 Q) ?_ fun j4 => ?_
 ·rintro e h5 ⟨hag, s⟩
  refine Run.env hag ?_; clear hag
  refine au 1 rfl ?_
  obtain ⟨A7, e8, s⟩ := s
  obtain ⟨p11, hl, s⟩ := s
  have f12 := hl
  refine Run.drawM (fun h' => cellH B h' (Addr.add A7 1) = some (.pointer p11) ∧ True) [] ⟨[0, 1, 2, 4, 0, 16, 0, 96, 136, 511], [1023, 1022, 1021, 1019, 1023, 1007, 1023, 927, 887, 767], [0, 0, 0, 0, 0, 0, 0, 0, 0, 0], 0⟩ (.q 0 (.q 1 (.q 2 (.q 3 (.q 6 (.x 4 (.x 5 (.q 7 (.x 8 (.q 9 .nil) .no)) .no) .no)))))) TF.mixed (by kernel_rfl) ⟨f12, trivial⟩ ?_
  refine auT 1 rfl ?_
  refine zq rfl (fun _ hC => sem_nilCheck A7 (congrArg Value.pointer e8) ⟨rfl, rfl⟩) ?_
  refine auT 1 rfl ?_
  refine zq rfl (fun _ hC => sem_load1 (Addr.add A7 1) ((.pointer p11)) rfl TF.agg_133 hC.1 ⟨rfl, rfl⟩) ?_
  refine auT 1 rfl ?_
  refine ⟨zo rfl (sem_buildSliceL [(0, (.int .u8 (1)))] [(.int .u8 (1))] TF.slc_63 TF.zero_5 rfl (by decide) (by decide) rfl rfl (fun k14 hb1 hb2 h15 hb3 => ?_)), trivial⟩
  have s := s k14 hb1 hb2 h15 hb3
  obtain ⟨g16, s⟩ := s
  refine ⟨fun _ => ⟨g16, trivial⟩, ?_⟩
  refine ⟨zo rfl (sem_convW ((.slice (some ⟨k14, 0, none⟩) 1 1)) rfl (semH_mono (fun v h18 hv => ?_) s)), trivial⟩
  obtain ⟨s17, rfl, s⟩ := hv
  obtain ⟨g19, s⟩ := s
  refine ⟨fun _ => ⟨g19, trivial⟩, ?_⟩
  obtain ⟨hi0, s⟩ := s
  refine zq rfl (fun _ _ => sem_strAdd s17 s2 rfl rfl hi0 ⟨rfl, rfl⟩) ?_
  refine ⟨zo rfl (sem_callL [(.pointer p11), (.string (s17 ++ s2))] (TF.goes_71) rfl rfl (Spec.mono s fun v h20 hv => ?_)), trivial⟩
  obtain ⟨i21, rfl, s⟩ := hv
  obtain ⟨g22, s⟩ := s
  refine ⟨fun _ => ⟨g22, trivial⟩, ?_⟩
  refine auT 1 rfl ?_
  exact zr (s.imp fun _ q => ⟨_, rfl, q⟩)
 refine au 4 rfl ?_
 by_cases hb23 : p1 = none
 ·replace s := s.1 hb23
  refine zg rfl (sem_ptrNilT p1 (.inl rfl) true rfl rfl TF.ptr_97 hb23 rfl ?_)
  refine au 7 rfl ?_
  exact zr (s.imp fun _ q => ⟨_, rfl, q⟩)
 ·replace s := s.2 hb23
  refine zg rfl (sem_ptrNilF p1 (.inl rfl) false rfl rfl TF.ptr_97 hb23 rfl ?_)
  refine au 6 rfl ?_
  refine znil s rfl rfl fun A24 s => ?_
  refine au 1 rfl ?_
  refine zl s rfl rfl TF.agg_4 fun b26 s => ?_
  cases b26
  ·replace s := s.2 rfl
   refine au 8 rfl ?_
   exact zr (s.imp fun _ q => ⟨_, rfl, q⟩)
  ·replace s := s.1 rfl
   refine au 6 rfl ?_
   exact Run.of_fin (s.imp fun h' s => j4 _ _ ⟨⟨rfl, rfl, trivial⟩, s⟩)
theorem C_redo_Bytes.of {B : RO} {i1 : Int} {p2 : Option Addr} {h : Heap} {Q : ByteArray → Heap → Prop} (s : S_redo_Bytes B i1 p2 h Q) : C_redo_Bytes B i1 p2 h Q := by
 refine zspec Try.func49 [ResultVar.tmp 4] rfl rfl rfl rfl rfl ?_
 refine au 6 rfl ?_
 refine zg rfl (sem_buildSL [] [(.slice none 0 0)] TF.zero_152 TF.places_152 rfl rfl ?_)
 refine zbn s rfl rfl rfl fun k4 h5 s => ?_
 refine zal s rfl TF.zero_150 rfl fun k6 h7 s => ?_
 refine zs1 s rfl rfl rfl rfl TF.sz_150 fun h8 s => ?_
 refine au 3 rfl ?_
 refine zl s rfl rfl TF.agg_150 fun p9 s => ?_
 refine au 1 rfl ?_
 refine zg rfl (sem_buildSliceL [(0, (.int .i64 (i1)))] [(.int .i64 (i1))] TF.slc_119 TF.zero_3 rfl (by decide) (by decide) rfl rfl (fun k10 hb1 hb2 h11 hb3 => ?_))
 have s := s k10 hb1 hb2 h11 hb3
 refine zcall s rfl rfl TF.goes_65 ?_
 rintro _ h12 ⟨rfl, s⟩
 refine au 5 rfl ?_
 refine zcall s rfl rfl TF.goes_78 ?_
 rintro v14 h13 ⟨_, rfl, s⟩
 refine au 2 rfl ?_
 obtain ⟨xs22, G18, J21, hit, hins, hG, h0, s, hR⟩ := s
 refine Run.of_fin (h0.imp fun h' h0 => ?_)
 refine Run.range (v14) (xs22.map (fun x : Int × Bool × ByteArray => [(.int .i64 (x.1)), (.agg #[(.bool x.2.1), (.string x.2.2)])])) G18 J21 rfl hit hins hG h0 rfl (fun a ha => by obtain ⟨x, _, rfl⟩ := List.mem_map.1 ha; rfl) ?_ ?_
 ·rintro q20 args h19 ha hJ
  obtain ⟨⟨i15, b16, s17⟩, hx, rfl⟩ := Option.map_eq_some_iff.1 ((List.getElem?_map ..).symm.trans ha)
  have s := s q20 h19 i15 b16 s17 hx hJ; clear hJ hx ha
  refine zput rfl ?_
  refine au 5 rfl ?_
  refine zal s rfl TF.zero_111 rfl fun k23 h24 s => ?_
  refine zsn s rfl rfl rfl TF.sz_111 rfl fun h25 s => ?_
  refine au 1 rfl ?_
  refine Run.begin ⟨rfl, ?_⟩
  refine au 4 rfl ?_
  refine zl s rfl rfl TF.agg_4 fun b26 s => ?_
  cases b26
  ·replace s := s.2 rfl
   refine au 3 rfl ?_
   refine zl s rfl rfl TF.agg_150 fun p27 s => ?_
   refine au 1 rfl ?_
   refine zg rfl (sem_buildSliceL [(0, (.int .i64 (i15))), (1, (.int .i64 (0)))] [(.int .i64 (i15)), (.int .i64 (0))] TF.slc_119 TF.zero_3 rfl (by decide) (by decide) rfl rfl (fun k28 hb1 hb2 h29 hb3 => ?_))
   have s := s k28 hb1 hb2 h29 hb3
   refine zcall s rfl rfl TF.goes_65 ?_
   rintro _ h30 ⟨rfl, s⟩
   refine au 2 rfl ?_
   refine Run.of_fin (s.imp fun h' s => ?_)
   exact Run.fall (.inl ⟨rfl, s⟩)
  ·replace s := s.1 rfl
   refine au 4 rfl ?_
   refine zl s rfl rfl TF.agg_150 fun p31 s => ?_
   refine au 1 rfl ?_
   refine zg rfl (sem_buildSliceL [(0, (.int .i64 (i15))), (1, (.int .i64 (1)))] [(.int .i64 (i15)), (.int .i64 (1))] TF.slc_119 TF.zero_3 rfl (by decide) (by decide) rfl rfl (fun k32 hb1 hb2 h33 hb3 => ?_))
   have s := s k32 hb1 hb2 h33 hb3
   refine zcall s rfl rfl TF.goes_65 ?_
   rintro _ h34 ⟨rfl, s⟩
   refine au 2 rfl ?_
   refine zl s rfl rfl TF.agg_150 fun p35 s => ?_
   refine au 1 rfl ?_
   refine zl s rfl rfl TF.agg_9 fun s36 s => ?_
   refine zg rfl (sem_buildSliceL [(0, (.string s36))] [(.string s36)] TF.slc_35 TF.zero_9 rfl (by decide) (by decide) rfl rfl (fun k37 hb1 hb2 h38 hb3 => ?_))
   have s := s k37 hb1 hb2 h38 hb3
   refine zcall s rfl rfl TF.goes_79 ?_
   rintro _ h39 ⟨rfl, s⟩
   refine au 2 rfl ?_
   refine Run.of_fin (s.imp fun h' s => ?_)
   exact Run.fall (.inl ⟨rfl, s⟩)
 ·intro h19 hJ
  have s := hR h19 (by simpa using hJ); clear hJ hR
  refine au 3 rfl ?_
  refine zl s rfl rfl TF.agg_150 fun p40 s => ?_
  refine zcall s rfl rfl TF.goes_67 ?_
  rintro _ h41 ⟨s42, rfl, s⟩
  refine au 2 rfl ?_
  exact zr (s.imp fun _ q => ⟨_, rfl, q⟩)
theorem C_wire_Wire_at.of {B : RO} {p1 : Option Addr} {i2 : Int} {h : Heap} {Q : Option Addr → Heap → Prop} (s : S_wire_Wire_at B p1 i2 h Q) : C_wire_Wire_at B p1 i2 h Q := by
 refine zspec Try.func50 [ResultVar.tmp 4] rfl rfl rfl rfl rfl ?_
 refine au 5 rfl ?_
 refine Run.seqJ (fun e h6 => ∃ b5 : Bool, Agree [(0, (.pointer p1)), (1, (.int .i64 (i2))), (14, (.bool b5))] e ∧ S_wire_Wire_at_J1 B p1 i2 b5 h6 Q) ?_ fun j4 => ?_
 ·rintro e h6 ⟨b5, hag, s⟩
  refine Run.env hag ?_; clear hag
  cases b5
  ·replace s := s.2 rfl
   refine au 6 rfl ?_
   refine znil s rfl rfl fun A7 s => ?_
   refine au 1 rfl ?_
   obtain ⟨hi0, hi1, s⟩ := s
   refine zg rfl (sem_indexAddrA A7 .i64 (i2) rfl rfl TF.arr_158 hi0 hi1 ?_)
   refine au 2 rfl ?_
   exact zr (s.imp fun _ q => ⟨_, rfl, q⟩)
  ·replace s := s.1 rfl
   refine au 5 rfl ?_
   exact zr (s.imp fun _ q => ⟨_, rfl, q⟩)
 refine au 2 rfl ?_
 by_cases hb9 : p1 = none
 ·replace s := s.1 hb9
  refine zg rfl (sem_ptrNilT p1 (.inl rfl) true rfl rfl TF.ptr_73 hb9 rfl ?_)
  refine au 9 rfl ?_
  exact Run.of_fin (s.imp fun h' s => j4 _ _ ⟨(true), ⟨rfl, rfl, rfl, trivial⟩, s⟩)
 ·replace s := s.2 hb9
  refine zg rfl (sem_ptrNilF p1 (.inl rfl) false rfl rfl TF.ptr_73 hb9 rfl ?_)
  refine au 2 rfl ?_
  refine zt s rfl rfl rfl binI_lss_t binI_lss_f (fun s => ?_) fun s => ?_
  ·refine au 6 rfl ?_
   exact Run.of_fin (s.imp fun h' s => j4 _ _ ⟨(true), ⟨rfl, rfl, rfl, trivial⟩, s⟩)
  ·refine au 3 rfl ?_
   refine zt s rfl rfl rfl binI_geq_t binI_geq_f (fun s => ?_) fun s => ?_
   ·refine au 2 rfl ?_
    exact Run.of_fin (s.imp fun h' s => j4 _ _ ⟨(true), ⟨rfl, rfl, rfl, trivial⟩, s⟩)
   ·refine au 2 rfl ?_
    exact Run.of_fin (s.imp fun h' s => j4 _ _ ⟨(false), ⟨rfl, rfl, rfl, trivial⟩, s⟩)
theorem C_wal_Open.of {B : RO} {p1 : Option Addr} {i2 : Int} {h : Heap} {Q : Option Addr → Int → Heap → Prop} (s : S_wal_Open B p1 i2 h Q) : C_wal_Open B p1 i2 h Q := by
 refine zspec Try.func54 [ResultVar.tmp 4, ResultVar.tmp 5] rfl rfl rfl rfl rfl ?_
 refine au 5 rfl ?_
 refine Run.seqJ (fun e h6 => Agree [(0, (.pointer p1)), (1, (.int .i64 (i2)))] e ∧ S_wal_Open_J1 B p1 i2 h6 Q) ?_ fun j5 => ?_
 ·rintro e h6 ⟨hag, s⟩
  refine Run.env hag ?_; clear hag
  refine au 4 rfl ?_
  refine zcall s rfl rfl TF.goes_80 ?_
  rintro _ h7 ⟨s8, rfl, s⟩
  refine au 5 rfl ?_
  refine zcall s rfl rfl TF.goes_81 ?_
  rintro _ h9 ⟨i10, rfl, s⟩
  refine au 9 rfl ?_
  refine zg rfl (sem_lenStr s8 rfl TF.isStr_9 ?_)
  refine au 1 rfl ?_
  refine zg rfl (sem_buildSL [(0, (.pointer p1)), (1, (.int .i64 (i2))), (2, (.int .i64 (i10))), (3, (.bool (decide ((i10 : Int) < ((ByteArray.size s8 : Nat))))))] [(.pointer p1), (.int .i64 (i2)), (.int .i64 (i10)), (.bool (decide ((i10 : Int) < ((ByteArray.size s8 : Nat)))))] TF.zero_171 TF.places_171 rfl rfl ?_)
  refine zbn s rfl rfl rfl fun k11 h12 s => ?_
  refine au 3 rfl ?_
  exact zr (s.imp fun _ q => ⟨_, _, rfl, q⟩)
 refine au 4 rfl ?_
 by_cases hb13 : p1 = none
 ·replace s := s.1 hb13
  refine zg rfl (sem_ptrNilT p1 (.inl rfl) true rfl rfl TF.ptr_23 hb13 rfl ?_)
  refine au 8 rfl ?_
  exact zr (s.imp fun _ q => ⟨_, _, rfl, q⟩)
 ·replace s := s.2 hb13
  refine zg rfl (sem_ptrNilF p1 (.inl rfl) false rfl rfl TF.ptr_23 hb13 rfl ?_)
  refine au 6 rfl ?_
  refine zu s rfl rfl rfl binI_neq_t binI_neq_f (fun s => ?_) fun s => ?_
  ·refine au 9 rfl ?_
   exact Run.of_fin (s.imp fun h' s => j5 _ _ ⟨⟨rfl, rfl, trivial⟩, s⟩)
  ·refine au 2 rfl ?_
   refine zu s rfl rfl rfl binI_neq_t binI_neq_f (fun s => ?_) fun s => ?_
   ·refine au 6 rfl ?_
    exact Run.of_fin (s.imp fun h' s => j5 _ _ ⟨⟨rfl, rfl, trivial⟩, s⟩)
   ·refine au 9 rfl ?_
    exact zr (s.imp fun _ q => ⟨_, _, rfl, q⟩)
theorem C_vault_look.of {B : RO} {p1 : Option Addr} {h : Heap} {Q : Int → ByteArray → Option Addr → Nat → Nat → Heap → Prop} (s : S_vault_look B p1 h Q) : C_vault_look B p1 h Q := by
 refine zspec Try.func55 [ResultVar.cell 2 3, ResultVar.cell 3 99] rfl rfl rfl rfl rfl ?_
 refine au 2 rfl ?_
 refine zal s rfl TF.zero_3 rfl fun k7 h8 s => ?_
 refine zal s rfl TF.zero_99 rfl fun k9 h10 s => ?_
 refine au 3 rfl ?_
 refine zal s rfl TF.zero_99 rfl fun k11 h12 s => ?_
 refine au 3 rfl ?_
 refine zal s rfl TF.zero_3 rfl fun k13 h14 s => ?_
 refine zal s rfl TF.zero_3 rfl fun k15 h16 s => ?_
 refine zs1 s rfl rfl rfl rfl TF.sz_3 fun h17 s => ?_
 refine zs1 s rfl rfl rfl rfl TF.sz_3 fun h18 s => ?_
 refine au 5 rfl ?_
 refine zcall s rfl rfl TF.goes_82 ?_
 rintro v20 h19 ⟨_, rfl, s⟩
 refine au 2 rfl ?_
 obtain ⟨xs26, G22, J25, hit, hins, hG, h0, s, hR⟩ := s
 refine Run.of_fin (h0.imp fun h' h0 => ?_)
 refine Run.range (v20) (xs26.map (fun x : ByteArray => [(.string x)])) G22 J25 rfl hit hins hG h0 rfl (fun a ha => by obtain ⟨x, _, rfl⟩ := List.mem_map.1 ha; rfl) ?_ ?_
 ·rintro q24 args h23 ha hJ
  obtain ⟨s21, hx, rfl⟩ := Option.map_eq_some_iff.1 ((List.getElem?_map ..).symm.trans ha)
  have s := s q24 h23 s21 hx hJ; clear hJ hx ha
  refine zput rfl ?_
  refine au 3 rfl ?_
  refine Run.begin ⟨rfl, ?_⟩
  refine au 4 rfl ?_
  refine zl s rfl rfl TF.agg_3 fun i27 s => ?_
  refine au 1 rfl ?_
  refine zs1 s rfl rfl rfl rfl TF.sz_3 fun h28 s => ?_
  refine au 3 rfl ?_
  refine zl s rfl rfl TF.agg_3 fun i29 s => ?_
  refine zt s rfl rfl rfl binI_eql_t binI_eql_f (fun s => ?_) fun s => ?_
  ·refine au 5 rfl ?_
   refine zcall s rfl rfl TF.goes_83 ?_
   rintro _ h30 ⟨i31, s32, b33, rfl, s⟩
   refine au 3 rfl ?_
   cases b33
   ·replace s := s.2 rfl
    refine au 1 rfl ?_
    refine au 13 rfl ?_
    refine zg rfl (sem_buildSL [] [(.string ByteArray.empty), (.slice none 0 0)] TF.zero_99 TF.places_99 rfl rfl ?_)
    refine zs1 s rfl rfl rfl rfl TF.sz_3 fun h34 s => ?_
    refine zsn s rfl rfl rfl TF.sz_99 rfl fun h35 s => ?_
    refine au 1 rfl ?_
    refine Run.ret (.inr ⟨_, rfl, ?_⟩)
    obtain ⟨i36, hl0, s⟩ := s
    obtain ⟨s37, a38, n39, c40, hl1, s⟩ := s
    exact zr (⟨⟨k7, 0, none⟩, (.int .i64 (i36)), rfl, loadH1 TF.agg_3 hl0, ⟨⟨k9, 0, none⟩, (.agg #[(.string s37), (.slice a38 n39 c40)]), rfl, loadHN TF.agg_99 TF.sz_99 hl1, s.imp fun _ q => ⟨_, _, _, _, _, rfl, q⟩⟩⟩)
   ·replace s := s.1 rfl
    refine au 1 rfl ?_
    refine au 16 rfl ?_
    refine zs1 s rfl rfl rfl rfl TF.sz_3 fun h41 s => ?_
    refine au 1 rfl ?_
    refine zs1 s rfl rfl rfl rfl TF.sz_9 fun h42 s => ?_
    refine au 2 rfl ?_
    refine Run.of_fin (s.imp fun h' s => ?_)
    exact Run.fall (.inl ⟨rfl, s⟩)
  ·refine au 3 rfl ?_
   refine Run.seqJ (fun e h44 => Agree [(4, (.pointer (some ⟨k11, 0, none⟩))), (7, (.string s21))] e ∧ S_vault_look_J1 B k11 s21 q24 J25 h44 Q) ?_ fun j43 => ?_
   ·rintro e h44 ⟨hag, s⟩
    refine Run.env hag ?_; clear hag
    obtain ⟨a46, n47, c48, hl, s⟩ := s
    have f49 := hl
    obtain ⟨hi0, hi1, hi2, s⟩ := s
    have f52 := hi0; have f53 := hi1; have f54 := hi2
    refine Run.drawM (fun h' => cellH B h' ⟨k11, 1, none⟩ = some (.slice a46 n47 c48) ∧ True) [7] ⟨[0, 1, 0, 4, 8, 18, 63, 127], [255, 254, 255, 251, 247, 237, 255, 159], [0, 1, 0, 4, 12, 31, 63, 127], 128⟩ (.q 0 (.q 1 (.q 2 (.q 3 (.x 4 (.x 5 (.q 6 (.x 7 .nil .no)) .no) .no))))) TF.mixed (by kernel_rfl) ⟨f49, trivial⟩ ?_
    refine auT 1 rfl ?_
    refine zq rfl (fun _ hC => sem_load1 ⟨k11, 1, none⟩ ((.slice a46 n47 c48)) rfl TF.agg_35 hC.1 ⟨rfl, rfl⟩) ?_
    refine auT 1 rfl ?_
    refine zq rfl (fun _ hC => sem_sliceStrI s21 (1) ((ByteArray.size s21 : Nat)) rfl TF.isStr_9 ⟨_, rfl⟩ rfl f52 f53 f54 ⟨rfl, rfl⟩) ?_
    refine ⟨zo rfl (sem_buildSliceL [(0, (.string (ByteArray.extract s21 (Int.toNat (1)) (Int.toNat ((ByteArray.size s21 : Nat))))))] [(.string (ByteArray.extract s21 (Int.toNat (1)) (Int.toNat ((ByteArray.size s21 : Nat)))))] TF.slc_35 TF.zero_9 rfl (by decide) (by decide) rfl rfl (fun k55 hb1 hb2 h56 hb3 => ?_)), trivial⟩
    have s := s k55 hb1 hb2 h56 hb3
    obtain ⟨g57, s⟩ := s
    refine ⟨fun _ => ⟨g57, trivial⟩, ?_⟩
    refine ⟨zo rfl (sem_appendL [(.slice a46 n47 c48), (.slice (some ⟨k55, 0, none⟩) 1 1)] rfl (semH_mono (fun v h58 hv => ?_) s)), trivial⟩
    obtain ⟨a59, n60, c61, rfl, s⟩ := hv
    obtain ⟨g62, s⟩ := s
    refine ⟨fun _ => ⟨g62, trivial⟩, ?_⟩
    refine auT 1 rfl ?_
    obtain ⟨h63, hst, s⟩ := s
    refine ⟨zo0 rfl (sem_store1 ⟨k11, 1, none⟩ ((.slice a59 n60 c61)) h63 rfl rfl rfl TF.sz_35 hst ?_), trivial⟩
    refine ⟨fun hz => Bool.noConfusion hz, ?_⟩
    refine au 1 rfl ?_
    refine Run.of_fin (s.imp fun h' s => ?_)
    exact Run.fall (.inl ⟨rfl, s⟩)
   refine au 3 rfl ?_
   by_cases hb64 : s21 = (ByteArray.mk #[])
   ·replace s := s.1 hb64
    refine zg rfl (sem_strEqT s21 (ByteArray.mk #[]) rfl rfl hb64 ?_)
    refine au 7 rfl ?_
    refine Run.out rfl (.inr ⟨_, rfl, ?_⟩)
    refine au 2 rfl ?_
    obtain ⟨i65, hl, s⟩ := s
    have f66 := hl
    obtain ⟨s67, a68, n69, c70, hl, s⟩ := s
    have f71 := hl
    refine Run.drawM (fun h' => cellH B h' ⟨k13, 0, none⟩ = some (.int .i64 (i65)) ∧ CellsAt B h' ⟨k11, 0, none⟩ 0 [(.string s67), (.slice a68 n69 c70)] ∧ True) [3] ⟨[0, 0, 1, 7], [15, 15, 14, 13], [0, 0, 1, 7], 8⟩ (.q 0 (.q 1 (.x 2 (.x 3 .nil .no) .no))) TF.mixed (by kernel_rfl) ⟨f66, f71, trivial⟩ ?_
    refine zq rfl (fun _ hC => sem_load1 ⟨k13, 0, none⟩ ((.int .i64 (i65))) rfl TF.agg_3 hC.1 ⟨rfl, rfl⟩) ?_
    refine zq rfl (fun _ hC => sem_loadN ⟨k11, 0, none⟩ [(.string s67), (.slice a68 n69 c70)] rfl TF.agg_99 TF.sz_99 hC.2.1 ⟨rfl, rfl⟩) ?_
    obtain ⟨h72, hst, s⟩ := s
    refine ⟨zo0 rfl (sem_store1 ⟨k7, 0, none⟩ ((.int .i64 (i65))) h72 rfl rfl rfl TF.sz_3 hst ?_), trivial⟩
    obtain ⟨g73, g74, s⟩ := s
    refine ⟨fun _ => ⟨g73, g74, trivial⟩, ?_⟩
    obtain ⟨h75, hst, s⟩ := s
    refine ⟨zo0 rfl (sem_storeN ⟨k9, 0, none⟩ [(.string s67), (.slice a68 n69 c70)] h75 rfl rfl TF.sz_99 hst ?_), trivial⟩
    refine ⟨fun hz => Bool.noConfusion hz, ?_⟩
    obtain ⟨i76, hl0, s⟩ := s
    obtain ⟨s77, a78, n79, c80, hl1, s⟩ := s
    exact zr (⟨⟨k7, 0, none⟩, (.int .i64 (i76)), rfl, loadH1 TF.agg_3 hl0, ⟨⟨k9, 0, none⟩, (.agg #[(.string s77), (.slice a78 n79 c80)]), rfl, loadHN TF.agg_99 TF.sz_99 hl1, s.imp fun _ q => ⟨_, _, _, _, _, rfl, q⟩⟩⟩)
   ·replace s := s.2 hb64
    refine zg rfl (sem_strEqF s21 (ByteArray.mk #[]) rfl rfl hb64 ?_)
    refine au 2 rfl ?_
    obtain ⟨hi0, hi1, s⟩ := s
    refine zg rfl (sem_indexStr' s21 .i64 (0) rfl rfl TF.isStr_9 hi0 hi1 ?_)
    refine zu s rfl rfl rfl binI_neq_t binI_neq_f (fun s => ?_) fun s => ?_
    ·refine au 4 rfl ?_
     exact Run.of_fin (s.imp fun h' s => j43 _ _ ⟨⟨rfl, rfl, trivial⟩, s⟩)
    ·refine au 3 rfl ?_
     refine Run.out rfl (.inr ⟨_, rfl, ?_⟩)
     refine au 2 rfl ?_
     obtain ⟨i81, hl, s⟩ := s
     have f82 := hl
     obtain ⟨s83, a84, n85, c86, hl, s⟩ := s
     have f87 := hl
     refine Run.drawM (fun h' => cellH B h' ⟨k13, 0, none⟩ = some (.int .i64 (i81)) ∧ CellsAt B h' ⟨k11, 0, none⟩ 0 [(.string s83), (.slice a84 n85 c86)] ∧ True) [3] ⟨[0, 0, 1, 7], [15, 15, 14, 13], [0, 0, 1, 7], 8⟩ (.q 0 (.q 1 (.x 2 (.x 3 .nil .no) .no))) TF.mixed (by kernel_rfl) ⟨f82, f87, trivial⟩ ?_
     refine zq rfl (fun _ hC => sem_load1 ⟨k13, 0, none⟩ ((.int .i64 (i81))) rfl TF.agg_3 hC.1 ⟨rfl, rfl⟩) ?_
     refine zq rfl (fun _ hC => sem_loadN ⟨k11, 0, none⟩ [(.string s83), (.slice a84 n85 c86)] rfl TF.agg_99 TF.sz_99 hC.2.1 ⟨rfl, rfl⟩) ?_
     obtain ⟨h88, hst, s⟩ := s
     refine ⟨zo0 rfl (sem_store1 ⟨k7, 0, none⟩ ((.int .i64 (i81))) h88 rfl rfl rfl TF.sz_3 hst ?_), trivial⟩
     obtain ⟨g89, g90, s⟩ := s
     refine ⟨fun _ => ⟨g89, g90, trivial⟩, ?_⟩
     obtain ⟨h91, hst, s⟩ := s
     refine ⟨zo0 rfl (sem_storeN ⟨k9, 0, none⟩ [(.string s83), (.slice a84 n85 c86)] h91 rfl rfl TF.sz_99 hst ?_), trivial⟩
     refine ⟨fun hz => Bool.noConfusion hz, ?_⟩
     obtain ⟨i92, hl0, s⟩ := s
     obtain ⟨s93, a94, n95, c96, hl1, s⟩ := s
     exact zr (⟨⟨k7, 0, none⟩, (.int .i64 (i92)), rfl, loadH1 TF.agg_3 hl0, ⟨⟨k9, 0, none⟩, (.agg #[(.string s93), (.slice a94 n95 c96)]), rfl, loadHN TF.agg_99 TF.sz_99 hl1, s.imp fun _ q => ⟨_, _, _, _, _, rfl, q⟩⟩⟩)
 ·intro h23 hJ
  have s := hR h23 (by simpa using hJ); clear hJ hR
  refine au 2 rfl ?_
  obtain ⟨i97, hl, s⟩ := s
  have f98 := hl
  obtain ⟨s99, a100, n101, c102, hl, s⟩ := s
  have f103 := hl
  refine Run.drawM (fun h' => cellH B h' ⟨k13, 0, none⟩ = some (.int .i64 (i97)) ∧ CellsAt B h' ⟨k11, 0, none⟩ 0 [(.string s99), (.slice a100 n101 c102)] ∧ True) [3] ⟨[0, 0, 1, 7], [15, 15, 14, 13], [0, 0, 1, 7], 8⟩ (.q 0 (.q 1 (.x 2 (.x 3 .nil .no) .no))) TF.mixed (by kernel_rfl) ⟨f98, f103, trivial⟩ ?_
  refine zq rfl (fun _ hC => sem_load1 ⟨k13, 0, none⟩ ((.int .i64 (i97))) rfl TF.agg_3 hC.1 ⟨rfl, rfl⟩) ?_
  refine zq rfl (fun _ hC => sem_loadN ⟨k11, 0, none⟩ [(.string s99), (.slice a100 n101 c102)] rfl TF.agg_99 TF.sz_99 hC.2.1 ⟨rfl, rfl⟩) ?_
  obtain ⟨h104, hst, s⟩ := s
  refine ⟨zo0 rfl (sem_store1 ⟨k7, 0, none⟩ ((.int .i64 (i97))) h104 rfl rfl rfl TF.sz_3 hst ?_), trivial⟩
  obtain ⟨g105, g106, s⟩ := s
  refine ⟨fun _ => ⟨g105, g106, trivial⟩, ?_⟩
  obtain ⟨h107, hst, s⟩ := s
  refine ⟨zo0 rfl (sem_storeN ⟨k9, 0, none⟩ [(.string s99), (.slice a100 n101 c102)] h107 rfl rfl TF.sz_99 hst ?_), trivial⟩
  refine ⟨fun hz => Bool.noConfusion hz, ?_⟩
  obtain ⟨i108, hl0, s⟩ := s
  obtain ⟨s109, a110, n111, c112, hl1, s⟩ := s
  exact zr (⟨⟨k7, 0, none⟩, (.int .i64 (i108)), rfl, loadH1 TF.agg_3 hl0, ⟨⟨k9, 0, none⟩, (.agg #[(.string s109), (.slice a110 n111 c112)]), rfl, loadHN TF.agg_99 TF.sz_99 hl1, s.imp fun _ q => ⟨_, _, _, _, _, rfl, q⟩⟩⟩)
theorem C_tome_New.of {B : RO} {h : Heap} {Q : Option Addr → Heap → Prop} (s : S_tome_New B h Q) : C_tome_New B h Q := by
 refine zspec Try.func56 [ResultVar.tmp 0] rfl rfl rfl rfl rfl ?_
 refine au 6 rfl ?_
 refine zg rfl (sem_buildSL [] [(.bool false), (.string ByteArray.empty)] TF.zero_111 TF.places_111 rfl rfl ?_)
 refine zcall s rfl rfl TF.goes_84 ?_
 rintro _ h2 ⟨p3, rfl, s⟩
 refine zg rfl (sem_buildSL [(0, (.pointer p3))] [(.pointer p3)] TF.zero_164 TF.places_164 rfl rfl ?_)
 refine zbn s rfl rfl rfl fun k4 h5 s => ?_
 refine au 2 rfl ?_
 exact zr (s.imp fun _ q => ⟨_, rfl, q⟩)
theorem C_stylus_Of.of {B : RO} {s1 : ByteArray} {h : Heap} {Q : Option Addr → Heap → Prop} (s : S_stylus_Of B s1 h Q) : C_stylus_Of B s1 h Q := by
 refine zspec Try.func57 [ResultVar.tmp 2] rfl rfl rfl rfl rfl ?_
 refine au 7 rfl ?_
 refine zg rfl (sem_buildSL [(0, (.string s1))] [(.string s1), (.bool false)] TF.zero_178 TF.places_178 rfl rfl ?_)
 refine zbn s rfl rfl rfl fun k3 h4 s => ?_
 refine au 2 rfl ?_
 exact zr (s.imp fun _ q => ⟨_, rfl, q⟩)
theorem C_stylus_Reader_Nat.of {B : RO} {p1 : Option Addr} {i2 : Int} {h : Heap} {Q : Int → Heap → Prop} (s : S_stylus_Reader_Nat B p1 i2 h Q) : C_stylus_Reader_Nat B p1 i2 h Q := by
 refine zspec Try.func58 [ResultVar.tmp 4] rfl rfl rfl rfl rfl ?_
 refine au 7 rfl ?_
 refine zcall s rfl rfl TF.goes_85 ?_
 rintro _ h4 ⟨i5, rfl, s⟩
 refine au 6 rfl ?_
 refine zt s rfl rfl rfl binI_lss_t binI_lss_f (fun s => ?_) fun s => ?_
 ·refine au 11 rfl ?_
  refine zcall s rfl rfl TF.goes_86 ?_
  rintro _ h6 ⟨rfl, s⟩
  refine au 5 rfl ?_
  exact zr (s.imp fun _ q => ⟨_, rfl, q⟩)
 ·refine au 3 rfl ?_
  refine zg rfl (sem_convI .i64 .u64 (i2) rfl TF.int_3 TF.int_88 ?_)
  refine zt s rfl rfl rfl binI_gtr_t binI_gtr_f (fun s => ?_) fun s => ?_
  ·refine au 6 rfl ?_
   refine zcall s rfl rfl TF.goes_86 ?_
   rintro _ h7 ⟨rfl, s⟩
   refine au 5 rfl ?_
   exact zr (s.imp fun _ q => ⟨_, rfl, q⟩)
  ·refine au 7 rfl ?_
   refine zg rfl (sem_convI .u64 .i64 (i5) rfl TF.int_88 TF.int_3 ?_)
   refine au 2 rfl ?_
   exact zr (s.imp fun _ q => ⟨_, rfl, q⟩)
theorem C_stylus_Reader_Bad.of {B : RO} {p1 : Option Addr} {h : Heap} {Q : Bool → Heap → Prop} (s : S_stylus_Reader_Bad B p1 h Q) : C_stylus_Reader_Bad B p1 h Q := by
 refine zspec Try.func59 [ResultVar.tmp 2] rfl rfl rfl rfl rfl ?_
 refine au 7 rfl ?_
 by_cases hb3 : p1 = none
 ·replace s := s.1 hb3
  refine zg rfl (sem_ptrNilT p1 (.inl rfl) true rfl rfl TF.ptr_141 hb3 rfl ?_)
  refine au 8 rfl ?_
  exact zr (s.imp fun _ q => ⟨_, rfl, q⟩)
 ·replace s := s.2 hb3
  refine zg rfl (sem_ptrNilF p1 (.inl rfl) false rfl rfl TF.ptr_141 hb3 rfl ?_)
  refine au 2 rfl ?_
  refine znil s rfl rfl fun A4 s => ?_
  refine au 1 rfl ?_
  refine zl s rfl rfl TF.agg_4 fun b6 s => ?_
  refine au 3 rfl ?_
  exact zr (s.imp fun _ q => ⟨_, rfl, q⟩)
theorem C_tome_Read.of {B : RO} {s1 : ByteArray} {h : Heap} {Q : Option Addr → Bool → Heap → Prop} (s : S_tome_Read B s1 h Q) : C_tome_Read B s1 h Q := by
 refine zspec Try.func60 [ResultVar.tmp 2, ResultVar.tmp 3] rfl rfl rfl rfl rfl ?_
 refine au 7 rfl ?_
 refine zcall s rfl rfl TF.goes_56 ?_
 rintro _ h4 ⟨p5, rfl, s⟩
 refine au 5 rfl ?_
 refine zcall s rfl rfl TF.goes_57 ?_
 rintro _ h6 ⟨p7, rfl, s⟩
 refine au 8 rfl ?_
 obtain ⟨J13, m11, h0, s⟩ := s
 refine Run.of_fin (h0.imp fun h' h0 => ?_)
 refine Run.loop (σ := Int × Nat) (fun x e h => J13 x.1 x.2 h ∧ Agree [(4, (.pointer p5)), (5, (.pointer p7)), (6, (.int .i64 (x.1)))] e) (fun x => x.2) (((-1)), m11) ⟨h0, ⟨rfl, rfl, rfl, trivial⟩⟩ ?_; clear h0
 rintro ⟨i8, m10⟩ e h9 ⟨hJ, hag⟩ ih12
 have s := s i8 m10 h9 hJ; clear hJ
 refine Run.env hag ?_; clear hag
 refine au 4 rfl ?_
 refine zcall s rfl rfl TF.goes_62 ?_
 rintro _ h14 ⟨i15, rfl, s⟩
 refine zt s rfl rfl rfl binI_gtr_t binI_gtr_f (fun s => ?_) fun s => ?_
 ·refine au 7 rfl ?_
  refine zcall s rfl rfl TF.goes_58 ?_
  rintro _ h16 ⟨i17, rfl, s⟩
  refine au 5 rfl ?_
  refine zcall s rfl rfl TF.goes_87 ?_
  rintro _ h18 ⟨s19, rfl, s⟩
  refine au 2 rfl ?_
  refine Run.seqJ (fun e h21 => Agree [(4, (.pointer p5)), (5, (.pointer p7)), (7, (.int .i64 (i17))), (8, (.string s19))] e ∧ S_tome_Read_J1 B p5 p7 m10 J13 i17 s19 h21 Q) ?_ fun j20 => ?_
  ·rintro e h21 ⟨hag, s⟩
   refine Run.env hag ?_; clear hag
   refine au 5 rfl ?_
   refine zg rfl (sem_buildSL [(0, (.bool true)), (1, (.string s19))] [(.bool true), (.string s19)] TF.zero_111 TF.places_111 rfl rfl ?_)
   refine zcall s rfl rfl TF.goes_88 ?_
   rintro _ h22 ⟨b23, rfl, s⟩
   refine au 6 rfl ?_
   exact Run.of_fin (s.imp fun h' ⟨m', hm, s⟩ => ih12 ((i17), m') _ _ ⟨s, ⟨rfl, rfl, rfl, trivial⟩⟩ hm)
  refine au 3 rfl ?_
  refine zcall s rfl rfl TF.goes_59 ?_
  rintro _ h24 ⟨b25, rfl, s⟩
  cases b25
  ·replace s := s.2 rfl
   refine au 3 rfl ?_
   refine zt s rfl rfl rfl binI_leq_t binI_leq_f (fun s => ?_) fun s => ?_
   ·refine au 8 rfl ?_
    exact zr (s.imp fun _ q => ⟨_, _, rfl, q⟩)
   ·refine au 4 rfl ?_
    exact Run.of_fin (s.imp fun h' s => j20 _ _ ⟨⟨rfl, rfl, rfl, rfl, trivial⟩, s⟩)
  ·replace s := s.1 rfl
   refine au 12 rfl ?_
   exact zr (s.imp fun _ q => ⟨_, _, rfl, q⟩)
 ·refine au 9 rfl ?_
  exact zr (s.imp fun _ q => ⟨_, _, rfl, q⟩)
theorem C_stylus_Reader_Raw.of {B : RO} {p1 : Option Addr} {i2 : Int} {h : Heap} {Q : ByteArray → Heap → Prop} (s : S_stylus_Reader_Raw B p1 i2 h Q) : C_stylus_Reader_Raw B p1 i2 h Q := by
 refine zspec Try.func61 [ResultVar.tmp 4] rfl rfl rfl rfl rfl ?_
 refine au 4 rfl ?_
 refine Run.seqJ (fun e h5 => Agree [(0, (.pointer p1)), (1, (.int .i64 (i2)))] e ∧ S_stylus_Reader_Raw_J1 B p1 i2 h5 Q) ?_ fun j4 => ?_
 ·rintro e h5 ⟨hag, s⟩
  refine Run.env hag ?_; clear hag
  refine au 3 rfl ?_
  refine znil s rfl rfl fun A6 s => ?_
  refine au 1 rfl ?_
  refine zl s rfl rfl TF.agg_9 fun s8 s => ?_
  refine au 1 rfl ?_
  obtain ⟨hi0, hi1, hi2, s⟩ := s
  refine zg rfl (sem_sliceStrI s8 (0) (i2) rfl TF.isStr_9 rfl ⟨_, rfl⟩ hi0 hi1 hi2 ?_)
  refine au 6 rfl ?_
  refine znil s rfl rfl fun A9 s => ?_
  refine au 1 rfl ?_
  refine zl s rfl rfl TF.agg_9 fun s11 s => ?_
  refine au 1 rfl ?_
  obtain ⟨hi0, hi1, hi2, s⟩ := s
  refine zg rfl (sem_sliceStrI s11 (i2) ((ByteArray.size s11 : Nat)) rfl TF.isStr_9 ⟨_, rfl⟩ rfl hi0 hi1 hi2 ?_)
  refine znil s rfl rfl fun A12 s => ?_
  refine au 1 rfl ?_
  refine zs1 s rfl rfl rfl rfl TF.sz_9 fun h14 s => ?_
  refine au 6 rfl ?_
  exact zr (s.imp fun _ q => ⟨_, rfl, q⟩)
 refine au 3 rfl ?_
 by_cases hb15 : p1 = none
 ·replace s := s.1 hb15
  refine zg rfl (sem_ptrNilT p1 (.inl rfl) true rfl rfl TF.ptr_141 hb15 rfl ?_)
  refine au 24 rfl ?_
  refine zcall s rfl rfl TF.goes_86 ?_
  rintro _ h16 ⟨rfl, s⟩
  refine au 5 rfl ?_
  exact zr (s.imp fun _ q => ⟨_, rfl, q⟩)
 ·replace s := s.2 hb15
  refine zg rfl (sem_ptrNilF p1 (.inl rfl) false rfl rfl TF.ptr_141 hb15 rfl ?_)
  refine au 2 rfl ?_
  refine znil s rfl rfl fun A17 s => ?_
  refine au 1 rfl ?_
  refine zl s rfl rfl TF.agg_4 fun b19 s => ?_
  cases b19
  ·replace s := s.2 rfl
   refine au 3 rfl ?_
   refine zt s rfl rfl rfl binI_lss_t binI_lss_f (fun s => ?_) fun s => ?_
   ·refine au 15 rfl ?_
    refine zcall s rfl rfl TF.goes_86 ?_
    rintro _ h20 ⟨rfl, s⟩
    refine au 5 rfl ?_
    exact zr (s.imp fun _ q => ⟨_, rfl, q⟩)
   ·refine au 4 rfl ?_
    refine znil s rfl rfl fun A21 s => ?_
    refine au 1 rfl ?_
    refine zl s rfl rfl TF.agg_9 fun s23 s => ?_
    refine zg rfl (sem_lenStr s23 rfl TF.isStr_9 ?_)
    refine zt s rfl rfl rfl binI_gtr_t binI_gtr_f (fun s => ?_) fun s => ?_
    ·refine au 6 rfl ?_
     refine zcall s rfl rfl TF.goes_86 ?_
     rintro _ h24 ⟨rfl, s⟩
     refine au 5 rfl ?_
     exact zr (s.imp fun _ q => ⟨_, rfl, q⟩)
    ·refine au 4 rfl ?_
     exact Run.of_fin (s.imp fun h' s => j4 _ _ ⟨⟨rfl, rfl, trivial⟩, s⟩)
  ·replace s := s.1 rfl
   refine au 19 rfl ?_
   refine zcall s rfl rfl TF.goes_86 ?_
   rintro _ h25 ⟨rfl, s⟩
   refine au 5 rfl ?_
   exact zr (s.imp fun _ q => ⟨_, rfl, q⟩)
theorem C_stylus_Reader_Left.of {B : RO} {p1 : Option Addr} {h : Heap} {Q : Int → Heap → Prop} (s : S_stylus_Reader_Left B p1 h Q) : C_stylus_Reader_Left B p1 h Q := by
 refine zspec Try.func62 [ResultVar.tmp 2] rfl rfl rfl rfl rfl ?_
 refine au 8 rfl ?_
 by_cases hb3 : p1 = none
 ·replace s := s.1 hb3
  refine zg rfl (sem_ptrNilT p1 (.inl rfl) true rfl rfl TF.ptr_141 hb3 rfl ?_)
  refine au 6 rfl ?_
  exact zr (s.imp fun _ q => ⟨_, rfl, q⟩)
 ·replace s := s.2 hb3
  refine zg rfl (sem_ptrNilF p1 (.inl rfl) false rfl rfl TF.ptr_141 hb3 rfl ?_)
  refine au 6 rfl ?_
  refine znil s rfl rfl fun A4 s => ?_
  refine au 1 rfl ?_
  refine zl s rfl rfl TF.agg_9 fun s6 s => ?_
  refine zg rfl (sem_lenStr s6 rfl TF.isStr_9 ?_)
  refine au 2 rfl ?_
  exact zr (s.imp fun _ q => ⟨_, rfl, q⟩)
theorem C_redo_Read.of {B : RO} {s1 : ByteArray} {h : Heap} {Q : Int → Option Addr → Nat → Nat → Bool → Heap → Prop} (s : S_redo_Read B s1 h Q) : C_redo_Read B s1 h Q := by
 refine zspec Try.func63 [ResultVar.tmp 2, ResultVar.tmp 3, ResultVar.tmp 4] rfl rfl rfl rfl rfl ?_
 refine au 9 rfl ?_
 refine zcall s rfl rfl TF.goes_57 ?_
 rintro _ h7 ⟨p8, rfl, s⟩
 refine au 5 rfl ?_
 refine zcall s rfl rfl TF.goes_58 ?_
 rintro _ h9 ⟨i10, rfl, s⟩
 refine au 6 rfl ?_
 refine Run.seqJ (fun e h15 => ∃ a12 : Option Addr, ∃ n13 : Nat, ∃ c14 : Nat, Agree [(5, (.pointer p8)), (6, (.int .i64 (i10))), (7, (.slice a12 n13 c14))] e ∧ S_redo_Read_J1 B p8 i10 a12 n13 c14 h15 Q) ?_ fun j11 => ?_
 ·rintro e h15 ⟨a12, n13, c14, hag, s⟩
  refine Run.env hag ?_; clear hag
  refine au 4 rfl ?_
  refine zcall s rfl rfl TF.goes_59 ?_
  rintro _ h16 ⟨b17, rfl, s⟩
  cases b17
  ·replace s := s.2 rfl
   refine au 11 rfl ?_
   exact zr (s.imp fun _ q => ⟨_, _, _, _, _, rfl, q⟩)
  ·replace s := s.1 rfl
   refine au 8 rfl ?_
   exact zr (s.imp fun _ q => ⟨_, _, _, _, _, rfl, q⟩)
 refine au 5 rfl ?_
 obtain ⟨J26, m24, h0, s⟩ := s
 refine Run.of_fin (h0.imp fun h' h0 => ?_)
 refine Run.loop (σ := (Option Addr) × Nat × Nat × Int × Nat) (fun x e h => J26 x.1 x.2.1 x.2.2.1 x.2.2.2.1 x.2.2.2.2 h ∧ Agree [(5, (.pointer p8)), (6, (.int .i64 (i10))), (7, (.slice x.1 x.2.1 x.2.2.1)), (8, (.int .i64 (x.2.2.2.1)))] e) (fun x => x.2.2.2.2) (none, 0, 0, ((-1)), m24) ⟨h0, ⟨rfl, rfl, rfl, rfl, trivial⟩⟩ ?_; clear h0
 rintro ⟨a18, n19, c20, i21, m23⟩ e h22 ⟨hJ, hag⟩ ih25
 have s := s a18 n19 c20 i21 m23 h22 hJ; clear hJ
 refine Run.env hag ?_; clear hag
 refine au 4 rfl ?_
 refine zcall s rfl rfl TF.goes_62 ?_
 rintro _ h27 ⟨i28, rfl, s⟩
 refine zt s rfl rfl rfl binI_gtr_t binI_gtr_f (fun s => ?_) fun s => ?_
 ·refine au 7 rfl ?_
  refine zcall s rfl rfl TF.goes_58 ?_
  rintro _ h29 ⟨i30, rfl, s⟩
  refine zg rfl (sem_buildSL [(0, (.int .i64 (i30)))] [(.int .i64 (i30)), (.bool false), (.string ByteArray.empty)] TF.zero_182 TF.places_182 rfl rfl ?_)
  refine zal s rfl TF.zero_182 rfl fun k31 h32 s => ?_
  refine zsn s rfl rfl rfl TF.sz_182 rfl fun h33 s => ?_
  refine au 1 rfl ?_
  refine Run.seqJ (fun e h35 => Agree [(5, (.pointer p8)), (6, (.int .i64 (i10))), (7, (.slice a18 n19 c20)), (8, (.int .i64 (i21))), (9, (.pointer (some ⟨k31, 0, none⟩)))] e ∧ S_redo_Read_J2 B p8 i10 a18 n19 c20 i21 m23 J26 k31 h35 Q) ?_ fun j34 => ?_
  ·rintro e h35 ⟨hag, s⟩
   refine Run.env hag ?_; clear hag
   refine Run.seqJ (fun e h37 => Agree [(5, (.pointer p8)), (6, (.int .i64 (i10))), (7, (.slice a18 n19 c20)), (9, (.pointer (some ⟨k31, 0, none⟩)))] e ∧ S_redo_Read_J3 B p8 i10 a18 n19 c20 m23 J26 k31 h37 Q) ?_ fun j36 => ?_
   ·rintro e h37 ⟨hag, s⟩
    refine Run.env hag ?_; clear hag
    refine au 3 rfl ?_
    refine zl s rfl rfl TF.agg_3 fun i38 s => ?_
    refine au 4 rfl ?_
    obtain ⟨i39, b40, s41, hl, s⟩ := s
    refine zn hl rfl rfl TF.agg_182 TF.sz_182 rfl ?_
    refine zg rfl (sem_buildSliceL [(0, (.agg #[(.int .i64 (i39)), (.bool b40), (.string s41)]))] [(.int .i64 (i39)), (.bool b40), (.string s41)] TF.slc_146 TF.zero_182 rfl (by decide) (by decide) rfl rfl (fun k42 hb1 hb2 h43 hb3 => ?_))
    have s := s k42 hb1 hb2 h43 hb3
    refine zg rfl (sem_appendL [(.slice a18 n19 c20), (.slice (some ⟨k42, 0, none⟩) 1 1)] rfl (semH_mono (fun v h44 hv => ?_) s))
    obtain ⟨a45, n46, c47, rfl, s⟩ := hv
    refine au 3 rfl ?_
    exact Run.of_fin (s.imp fun h' ⟨m', hm, s⟩ => ih25 (a45, n46, c47, (i38), m') _ _ ⟨s, ⟨rfl, rfl, rfl, rfl, trivial⟩⟩ hm)
   refine au 3 rfl ?_
   refine zcall s rfl rfl TF.goes_59 ?_
   rintro _ h48 ⟨b49, rfl, s⟩
   cases b49
   ·replace s := s.2 rfl
    refine au 2 rfl ?_
    refine zl s rfl rfl TF.agg_3 fun i50 s => ?_
    refine au 1 rfl ?_
    refine zt s rfl rfl rfl binI_leq_t binI_leq_f (fun s => ?_) fun s => ?_
    ·refine au 9 rfl ?_
     exact zr (s.imp fun _ q => ⟨_, _, _, _, _, rfl, q⟩)
    ·refine au 4 rfl ?_
     exact Run.of_fin (s.imp fun h' s => j36 _ _ ⟨⟨rfl, rfl, rfl, rfl, trivial⟩, s⟩)
   ·replace s := s.1 rfl
    refine au 14 rfl ?_
    exact zr (s.imp fun _ q => ⟨_, _, _, _, _, rfl, q⟩)
  refine au 3 rfl ?_
  refine zcall s rfl rfl TF.goes_58 ?_
  rintro _ h51 ⟨i52, rfl, s⟩
  refine zt s rfl rfl rfl binI_eql_t binI_eql_f (fun s => ?_) fun s => ?_
  ·refine au 4 rfl ?_
   refine zcall s rfl rfl TF.goes_87 ?_
   rintro _ h53 ⟨s54, rfl, s⟩
   refine zg rfl (sem_buildSL [(0, (.bool true)), (1, (.string s54))] [(.bool true), (.string s54)] TF.zero_111 TF.places_111 rfl rfl ?_)
   refine au 1 rfl ?_
   refine zsn s rfl rfl rfl TF.sz_111 rfl fun h55 s => ?_
   refine au 1 rfl ?_
   exact Run.of_fin (s.imp fun h' s => j34 _ _ ⟨⟨rfl, rfl, rfl, rfl, rfl, trivial⟩, s⟩)
  ·refine au 3 rfl ?_
   exact Run.of_fin (s.imp fun h' s => j34 _ _ ⟨⟨rfl, rfl, rfl, rfl, rfl, trivial⟩, s⟩)
 ·refine au 3 rfl ?_
  exact Run.of_fin (s.imp fun h' s => j11 _ _ ⟨a18, n19, c20, ⟨rfl, rfl, rfl, trivial⟩, s⟩)
theorem C_redo_Apply.of {B : RO} {p1 : Option Addr} {a2 : Option Addr} {n3 : Nat} {c4 : Nat} {i5 : Int} {h : Heap} {Q : Heap → Prop} (s : S_redo_Apply B p1 a2 n3 c4 i5 h Q) : C_redo_Apply B p1 a2 n3 c4 i5 h Q := by
 refine zspec Try.func64 [] rfl rfl rfl rfl rfl ?_
 refine au 3 rfl ?_
 refine zg rfl (sem_lenSl a2 n3 c4 rfl TF.sl_146 ?_)
 refine au 3 rfl ?_
 obtain ⟨J11, m9, h0, s⟩ := s
 refine Run.of_fin (h0.imp fun h' h0 => ?_)
 refine Run.loop (σ := Int × Nat) (fun x e h => J11 x.1 x.2 h ∧ Agree [(0, (.pointer p1)), (2, (.int .i64 (i5))), (8, (.slice a2 n3 c4)), (9, (.int .i64 ((n3 : Nat)))), (10, (.int .i64 (x.1)))] e) (fun x => x.2) ((0), m9) ⟨h0, ⟨rfl, rfl, rfl, rfl, rfl, trivial⟩⟩ ?_; clear h0
 rintro ⟨i6, m8⟩ e h7 ⟨hJ, hag⟩ ih10
 have s := s i6 m8 h7 hJ; clear hJ
 refine Run.env hag ?_; clear hag
 refine au 2 rfl ?_
 refine zt s rfl rfl rfl binI_lss_t binI_lss_f (fun s => ?_) fun s => ?_
 ·refine au 8 rfl ?_
  obtain ⟨A12, e13, hi0, hi1, s⟩ := s
  refine zg rfl (sem_indexAddrS A12 n3 c4 .i64 (i6) (congrArg (fun a => Value.slice a n3 c4) e13) rfl TF.slc_146 hi0 hi1 ?_)
  obtain ⟨i14, b15, s16, hl, s⟩ := s
  refine zn hl rfl rfl TF.agg_182 TF.sz_182 rfl ?_
  refine zal s rfl TF.zero_182 rfl fun k17 h18 s => ?_
  refine zsn s rfl rfl rfl TF.sz_182 rfl fun h19 s => ?_
  refine au 4 rfl ?_
  refine zl s rfl rfl TF.agg_3 fun i20 s => ?_
  refine au 1 rfl ?_
  obtain ⟨b21, s22, hl, s⟩ := s
  refine zn hl rfl rfl TF.agg_111 TF.sz_111 rfl ?_
  refine au 1 rfl ?_
  refine zcall s rfl rfl TF.goes_88 ?_
  rintro _ h23 ⟨b24, rfl, s⟩
  refine au 6 rfl ?_
  exact Run.of_fin (s.imp fun h' ⟨m', hm, s⟩ => ih10 ((IntKind.wrap .i64 ((i6) + (1))), m') _ _ ⟨s, ⟨rfl, rfl, rfl, rfl, rfl, trivial⟩⟩ hm)
 ·refine au 4 rfl ?_
  exact zf (s.imp fun _ q => ⟨rfl, q⟩)
theorem C_stylus_Stylus_Nat.of {B : RO} {p1 : Option Addr} {a2 : Option Addr} {n3 : Nat} {c4 : Nat} {h : Heap} {Q : Heap → Prop} (s : S_stylus_Stylus_Nat B p1 a2 n3 c4 h Q) : C_stylus_Stylus_Nat B p1 a2 n3 c4 h Q := by
 refine zspec Try.func65 [] rfl rfl rfl rfl rfl ?_
 refine au 3 rfl ?_
 refine zg rfl (sem_lenSl a2 n3 c4 rfl TF.sl_119 ?_)
 refine au 3 rfl ?_
 obtain ⟨J10, m8, h0, s⟩ := s
 refine Run.of_fin (h0.imp fun h' h0 => ?_)
 refine Run.loop (σ := Int × Nat) (fun x e h => J10 x.1 x.2 h ∧ Agree [(0, (.pointer p1)), (6, (.slice a2 n3 c4)), (7, (.int .i64 ((n3 : Nat)))), (8, (.int .i64 (x.1)))] e) (fun x => x.2) ((0), m8) ⟨h0, ⟨rfl, rfl, rfl, rfl, trivial⟩⟩ ?_; clear h0
 rintro ⟨i5, m7⟩ e h6 ⟨hJ, hag⟩ ih9
 have s := s i5 m7 h6 hJ; clear hJ
 refine Run.env hag ?_; clear hag
 refine au 2 rfl ?_
 refine zt s rfl rfl rfl binI_lss_t binI_lss_f (fun s => ?_) fun s => ?_
 ·refine au 8 rfl ?_
  obtain ⟨A11, e12, hi0, hi1, s⟩ := s
  refine zg rfl (sem_indexAddrS A11 n3 c4 .i64 (i5) (congrArg (fun a => Value.slice a n3 c4) e12) rfl TF.slc_119 hi0 hi1 ?_)
  refine zl s rfl rfl TF.agg_3 fun i13 s => ?_
  refine au 6 rfl ?_
  refine zt s rfl rfl rfl binI_lss_t binI_lss_f (fun s => ?_) fun s => ?_
  ·refine au 7 rfl ?_
   exact Run.of_fin (s.imp fun h' ⟨m', hm, s⟩ => ih9 ((IntKind.wrap .i64 ((i5) + (1))), m') _ _ ⟨s, ⟨rfl, rfl, rfl, rfl, trivial⟩⟩ hm)
  ·refine au 3 rfl ?_
   refine Run.seqJ (fun e h16 => ∃ i15 : Int, Agree [(0, (.pointer p1)), (5, (.int .i64 (i15))), (6, (.slice a2 n3 c4)), (7, (.int .i64 ((n3 : Nat)))), (8, (.int .i64 (i5)))] e ∧ S_stylus_Stylus_Nat_J1 B p1 a2 n3 c4 i5 m7 J10 i15 h16 Q) ?_ fun j14 => ?_
   ·rintro e h16 ⟨i15, hag, s⟩
    refine Run.env hag ?_; clear hag
    refine au 3 rfl ?_
    refine znil s rfl rfl fun A17 s => ?_
    refine au 1 rfl ?_
    refine Run.ldSl s fun a19 n20 c21 h22 hl s => ?_
    refine zg rfl (sem_load1 A17 ((.slice a19 n20 c21)) rfl TF.agg_63 hl ?_)
    refine au 1 rfl ?_
    refine zg rfl (sem_convI .i64 .u8 (i15) rfl TF.int_3 TF.int_5 ?_)
    refine zg rfl (sem_buildSliceL [(0, (.int .u8 (IntKind.wrap .u8 (i15))))] [(.int .u8 (IntKind.wrap .u8 (i15)))] TF.slc_63 TF.zero_5 rfl (by decide) (by decide) rfl rfl (fun k23 hb1 hb2 h24 hb3 => ?_))
    have s := s k23 hb1 hb2 h24 hb3
    refine zg rfl (sem_appendL [(.slice a19 n20 c21), (.slice (some ⟨k23, 0, none⟩) 1 1)] rfl (semH_mono (fun v h25 hv => ?_) s))
    obtain ⟨a26, n27, c28, rfl, s⟩ := hv
    refine znil s rfl rfl fun A29 s => ?_
    refine au 1 rfl ?_
    refine zs1 s rfl rfl rfl rfl TF.sz_63 fun h31 s => ?_
    refine au 6 rfl ?_
    exact Run.of_fin (s.imp fun h' ⟨m', hm, s⟩ => ih9 ((IntKind.wrap .i64 ((i5) + (1))), m') _ _ ⟨s, ⟨rfl, rfl, rfl, rfl, trivial⟩⟩ hm)
   refine au 1 rfl ?_
   obtain ⟨J37, m35, h0, s⟩ := s
   refine Run.of_fin (h0.imp fun h' h0 => ?_)
   refine Run.loop (σ := Int × Nat) (fun x e h => J37 x.1 x.2 h ∧ Agree [(0, (.pointer p1)), (5, (.int .i64 (x.1))), (6, (.slice a2 n3 c4)), (7, (.int .i64 ((n3 : Nat)))), (8, (.int .i64 (i5)))] e) (fun x => x.2) ((i13), m35) ⟨h0, ⟨rfl, rfl, rfl, rfl, rfl, trivial⟩⟩ ?_; clear h0
   rintro ⟨i32, m34⟩ e h33 ⟨hJ, hag⟩ ih36
   have s := s i32 m34 h33 hJ; clear hJ
   refine Run.env hag ?_; clear hag
   refine au 4 rfl ?_
   refine zt s rfl rfl rfl binI_geq_t binI_geq_f (fun s => ?_) fun s => ?_
   ·refine au 8 rfl ?_
    refine znil s rfl rfl fun A38 s => ?_
    refine au 1 rfl ?_
    refine Run.ldSl s fun a40 n41 c42 h43 hl s => ?_
    refine zg rfl (sem_load1 A38 ((.slice a40 n41 c42)) rfl TF.agg_63 hl ?_)
    refine au 1 rfl ?_
    refine zg rfl (sem_convI .i64 .u8 (i32) rfl TF.int_3 TF.int_5 ?_)
    refine au 1 rfl ?_
    refine zg rfl (sem_buildSliceL [(0, (.int .u8 (IntKind.wrap .u8 ((BitVec.ofInt (IntKind.bits .u8) (IntKind.wrap .u8 (i32)) ||| BitVec.ofInt (IntKind.bits .u8) (128)).toNat : Int))))] [(.int .u8 (IntKind.wrap .u8 ((BitVec.ofInt (IntKind.bits .u8) (IntKind.wrap .u8 (i32)) ||| BitVec.ofInt (IntKind.bits .u8) (128)).toNat : Int)))] TF.slc_63 TF.zero_5 rfl (by decide) (by decide) rfl rfl (fun k44 hb1 hb2 h45 hb3 => ?_))
    have s := s k44 hb1 hb2 h45 hb3
    refine zg rfl (sem_appendL [(.slice a40 n41 c42), (.slice (some ⟨k44, 0, none⟩) 1 1)] rfl (semH_mono (fun v h46 hv => ?_) s))
    obtain ⟨a47, n48, c49, rfl, s⟩ := hv
    refine znil s rfl rfl fun A50 s => ?_
    refine au 1 rfl ?_
    refine zs1 s rfl rfl rfl rfl TF.sz_63 fun h52 s => ?_
    refine au 3 rfl ?_
    obtain ⟨hi0, s⟩ := s
    refine zg rfl (sem_shr .i64 .u64 (i32) (7) rfl rfl hi0 ?_)
    refine au 3 rfl ?_
    exact Run.of_fin (s.imp fun h' ⟨m', hm, s⟩ => ih36 ((Int.fdiv (i32) (2 ^ (min (Int.toNat (7)) (IntKind.bits .i64)))), m') _ _ ⟨s, ⟨rfl, rfl, rfl, rfl, rfl, trivial⟩⟩ hm)
   ·refine au 3 rfl ?_
    exact Run.of_fin (s.imp fun h' s => j14 _ _ ⟨(i32), ⟨rfl, rfl, rfl, rfl, rfl, trivial⟩, s⟩)
 ·refine au 4 rfl ?_
  exact zf (s.imp fun _ q => ⟨rfl, q⟩)
theorem C_stylus_Stylus_Raw.of {B : RO} {p1 : Option Addr} {s2 : ByteArray} {h : Heap} {Q : Heap → Prop} (s : S_stylus_Stylus_Raw B p1 s2 h Q) : C_stylus_Stylus_Raw B p1 s2 h Q := by
 refine zspec Try.func66 [] rfl rfl rfl rfl rfl ?_
 refine au 3 rfl ?_
 refine znil s rfl rfl fun A3 s => ?_
 refine au 1 rfl ?_
 refine Run.ldSl s fun a5 n6 c7 h8 hl s => ?_
 refine zg rfl (sem_load1 A3 ((.slice a5 n6 c7)) rfl TF.agg_63 hl ?_)
 refine au 1 rfl ?_
 refine zg rfl (sem_appendL [(.slice a5 n6 c7), (.string s2)] rfl (semH_mono (fun v h9 hv => ?_) s))
 obtain ⟨a10, n11, c12, rfl, s⟩ := hv
 refine znil s rfl rfl fun A13 s => ?_
 refine au 1 rfl ?_
 refine zs1 s rfl rfl rfl rfl TF.sz_63 fun h15 s => ?_
 refine au 1 rfl ?_
 exact zf (s.imp fun _ q => ⟨rfl, q⟩)
theorem C_stylus_Stylus_Bytes.of {B : RO} {p1 : Option Addr} {h : Heap} {Q : ByteArray → Heap → Prop} (s : S_stylus_Stylus_Bytes B p1 h Q) : C_stylus_Stylus_Bytes B p1 h Q := by
 refine zspec Try.func67 [ResultVar.tmp 2] rfl rfl rfl rfl rfl ?_
 refine au 7 rfl ?_
 refine znil s rfl rfl fun A3 s => ?_
 refine au 1 rfl ?_
 refine Run.ldSl s fun a5 n6 c7 h8 hl s => ?_
 refine zg rfl (sem_load1 A3 ((.slice a5 n6 c7)) rfl TF.agg_63 hl ?_)
 refine zg rfl (sem_convW ((.slice a5 n6 c7)) rfl (semH_mono (fun v h10 hv => ?_) s))
 obtain ⟨s9, rfl, s⟩ := hv
 refine au 2 rfl ?_
 exact zr (s.imp fun _ q => ⟨_, rfl, q⟩)
theorem C_wal_Log_Area.of {B : RO} {p1 : Option Addr} {h : Heap} {Q : Int → Heap → Prop} (s : S_wal_Log_Area B p1 h Q) : C_wal_Log_Area B p1 h Q := by
 refine zspec Try.func68 [ResultVar.tmp 2] rfl rfl rfl rfl rfl ?_
 refine au 8 rfl ?_
 by_cases hb3 : p1 = none
 ·replace s := s.1 hb3
  refine zg rfl (sem_ptrNilT p1 (.inl rfl) true rfl rfl TF.ptr_133 hb3 rfl ?_)
  refine au 6 rfl ?_
  exact zr (s.imp fun _ q => ⟨_, rfl, q⟩)
 ·replace s := s.2 hb3
  refine zg rfl (sem_ptrNilF p1 (.inl rfl) false rfl rfl TF.ptr_133 hb3 rfl ?_)
  refine au 6 rfl ?_
  refine znil s rfl rfl fun A4 s => ?_
  refine au 1 rfl ?_
  refine zl s rfl rfl TF.agg_3 fun i6 s => ?_
  refine au 2 rfl ?_
  exact zr (s.imp fun _ q => ⟨_, rfl, q⟩)
theorem C_wal_Log_Clear.of {B : RO} {p1 : Option Addr} {h : Heap} {Q : Heap → Prop} (s : S_wal_Log_Clear B p1 h Q) : C_wal_Log_Clear B p1 h Q := by
 refine zspec Try.func69 [] rfl rfl rfl rfl rfl ?_
 refine au 3 rfl ?_
 by_cases hb2 : p1 = none
 ·replace s := s.1 hb2
  refine zg rfl (sem_ptrNilT p1 (.inr rfl) false rfl rfl TF.ptr_133 hb2 rfl ?_)
  refine au 3 rfl ?_
  exact zf (s.imp fun _ q => ⟨rfl, q⟩)
 ·replace s := s.2 hb2
  refine zg rfl (sem_ptrNilF p1 (.inr rfl) true rfl rfl TF.ptr_133 hb2 rfl ?_)
  refine au 3 rfl ?_
  refine Run.drawM (fun h' => h' = h) [8] ⟨[0, 1, 2, 4, 0, 16, 32, 64, 136], [511, 510, 509, 507, 511, 495, 479, 447, 375], [0, 1, 3, 7, 0, 16, 48, 112, 255], 256⟩ (.q 0 (.q 1 (.q 2 (.q 3 (.q 4 (.q 5 (.q 6 (.q 7 (.x 8 .nil .no))))))))) TF.mixed (by kernel_rfl) rfl ?_
  refine auT 1 rfl ?_
  obtain ⟨A3, e4, s⟩ := s
  refine zqe rfl (sem_nilCheck A3 (congrArg Value.pointer e4) ⟨rfl, rfl⟩) ?_
  refine auT 1 rfl ?_
  obtain ⟨p5, hl, s⟩ := s
  refine zqe rfl (sem_load1 A3 ((.pointer p5)) rfl TF.agg_23 hl ⟨rfl, rfl⟩) ?_
  refine auT 1 rfl ?_
  obtain ⟨A6, e7, s⟩ := s
  refine zqe rfl (sem_nilCheck A6 (congrArg Value.pointer e7) ⟨rfl, rfl⟩) ?_
  refine auT 1 rfl ?_
  obtain ⟨i8, hl, s⟩ := s
  refine zqe rfl (sem_load1 (Addr.add A6 1) ((.int .i64 (i8))) rfl TF.agg_3 hl ⟨rfl, rfl⟩) ?_
  refine ⟨zo rfl (sem_callL [(.pointer p5), (.int .i64 (i8))] (TF.goes_89) rfl rfl (Spec.mono s fun v h9 hv => ?_)), trivial⟩
  obtain ⟨i10, rfl, s⟩ := hv
  refine ⟨fun hz => Bool.noConfusion hz, ?_⟩
  refine au 3 rfl ?_
  refine znil s rfl rfl fun A11 s => ?_
  refine au 1 rfl ?_
  refine zs1 s rfl rfl rfl rfl TF.sz_3 fun h13 s => ?_
  refine znil s rfl rfl fun A14 s => ?_
  refine au 1 rfl ?_
  refine zs1 s rfl rfl rfl rfl TF.sz_4 fun h16 s => ?_
  refine au 1 rfl ?_
  exact zf (s.imp fun _ q => ⟨rfl, q⟩)
theorem C_wal_Log_Force.of {B : RO} {p1 : Option Addr} {h : Heap} {Q : Heap → Prop} (s : S_wal_Log_Force B p1 h Q) : C_wal_Log_Force B p1 h Q := by
 refine zspec Try.func70 [] rfl rfl rfl rfl rfl ?_
 refine au 3 rfl ?_
 by_cases hb2 : p1 = none
 ·replace s := s.1 hb2
  refine zg rfl (sem_ptrNilT p1 (.inr rfl) false rfl rfl TF.ptr_133 hb2 rfl ?_)
  refine au 3 rfl ?_
  exact zf (s.imp fun _ q => ⟨rfl, q⟩)
 ·replace s := s.2 hb2
  refine zg rfl (sem_ptrNilF p1 (.inr rfl) true rfl rfl TF.ptr_133 hb2 rfl ?_)
  refine au 4 rfl ?_
  refine znil s rfl rfl fun A3 s => ?_
  refine au 1 rfl ?_
  refine zl s rfl rfl TF.agg_23 fun p5 s => ?_
  refine zcall s rfl rfl TF.goes_90 ?_
  rintro _ h6 ⟨rfl, s⟩
  refine au 1 rfl ?_
  exact zf (s.imp fun _ q => ⟨rfl, q⟩)
theorem C_wal_Log_Append.of {B : RO} {p1 : Option Addr} {s2 : ByteArray} {h : Heap} {Q : Int → Heap → Prop} (s : S_wal_Log_Append B p1 s2 h Q) : C_wal_Log_Append B p1 s2 h Q := by
 refine zspec Try.func71 [ResultVar.tmp 4] rfl rfl rfl rfl rfl ?_
 refine au 4 rfl ?_
 refine Run.seqJ (fun e h5 => Agree [(0, (.pointer p1)), (1, (.string s2))] e ∧ S_wal_Log_Append_J1 B p1 s2 h5 Q) ?_ fun j4 => ?_
 ·rintro e h5 ⟨hag, s⟩
  refine Run.env hag ?_; clear hag
  refine au 3 rfl ?_
  refine zcall s rfl rfl TF.goes_91 ?_
  rintro _ h6 ⟨s7, rfl, s⟩
  refine au 4 rfl ?_
  obtain ⟨A9, e10, s⟩ := s
  obtain ⟨p13, hl, s⟩ := s
  have f14 := hl
  obtain ⟨A16, e17, s⟩ := s
  obtain ⟨i20, hl, s⟩ := s
  have f21 := hl
  refine Run.drawM (fun h' => cellH B h' A9 = some (.pointer p13) ∧ cellH B h' (Addr.add A16 1) = some (.int .i64 (i20)) ∧ True) [] ⟨[0, 1, 2, 4, 0, 16, 32, 64, 0, 392, 1023], [2047, 2046, 2045, 2043, 2047, 2031, 2015, 1983, 2047, 1655, 1535], [0, 0, 0, 0, 0, 0, 0, 0, 0, 0, 0], 0⟩ (.q 0 (.q 1 (.q 2 (.q 3 (.q 4 (.q 5 (.q 6 (.q 7 (.q 8 (.x 9 (.q 10 .nil) .no)))))))))) TF.mixed (by kernel_rfl) ⟨f14, f21, trivial⟩ ?_
  refine auT 1 rfl ?_
  refine zq rfl (fun _ hC => sem_nilCheck A9 (congrArg Value.pointer e10) ⟨rfl, rfl⟩) ?_
  refine auT 1 rfl ?_
  refine zq rfl (fun _ hC => sem_load1 A9 ((.pointer p13)) rfl TF.agg_23 hC.1 ⟨rfl, rfl⟩) ?_
  refine auT 1 rfl ?_
  refine zq rfl (fun _ hC => sem_nilCheck A16 (congrArg Value.pointer e17) ⟨rfl, rfl⟩) ?_
  refine auT 1 rfl ?_
  refine zq rfl (fun _ hC => sem_load1 (Addr.add A16 1) ((.int .i64 (i20))) rfl TF.agg_3 hC.2.1 ⟨rfl, rfl⟩) ?_
  refine auT 1 rfl ?_
  refine ⟨zo rfl (sem_callL [(.pointer p13), (.int .i64 (i20)), (.string s7)] (TF.goes_7) rfl rfl (Spec.mono s fun v h23 hv => ?_)), trivial⟩
  obtain ⟨i24, rfl, s⟩ := hv
  obtain ⟨g25, g26, s⟩ := s
  refine ⟨fun _ => ⟨g25, g26, trivial⟩, ?_⟩
  refine auT 1 rfl ?_
  refine au 3 rfl ?_
  refine zu s rfl rfl rfl binI_neq_t binI_neq_f (fun s => ?_) fun s => ?_
  ·refine au 6 rfl ?_
   refine znil s rfl rfl fun A27 s => ?_
   refine au 1 rfl ?_
   refine zl s rfl rfl TF.agg_3 fun i29 s => ?_
   refine au 1 rfl ?_
   refine zg rfl (sem_lenStr s7 rfl TF.isStr_9 ?_)
   refine au 1 rfl ?_
   refine znil s rfl rfl fun A30 s => ?_
   refine au 1 rfl ?_
   refine zs1 s rfl rfl rfl rfl TF.sz_3 fun h32 s => ?_
   refine au 5 rfl ?_
   exact zr (s.imp fun _ q => ⟨_, rfl, q⟩)
  ·refine au 7 rfl ?_
   exact zr (s.imp fun _ q => ⟨_, rfl, q⟩)
 refine au 4 rfl ?_
 by_cases hb33 : p1 = none
 ·replace s := s.1 hb33
  refine zg rfl (sem_ptrNilT p1 (.inl rfl) true rfl rfl TF.ptr_133 hb33 rfl ?_)
  refine au 7 rfl ?_
  exact zr (s.imp fun _ q => ⟨_, rfl, q⟩)
 ·replace s := s.2 hb33
  refine zg rfl (sem_ptrNilF p1 (.inl rfl) false rfl rfl TF.ptr_133 hb33 rfl ?_)
  refine au 6 rfl ?_
  refine zg rfl (sem_lenStr s2 rfl TF.isStr_9 ?_)
  refine zt s rfl rfl rfl binI_gtr_t binI_gtr_f (fun s => ?_) fun s => ?_
  ·refine au 7 rfl ?_
   exact zr (s.imp fun _ q => ⟨_, rfl, q⟩)
  ·refine au 6 rfl ?_
   refine znil s rfl rfl fun A34 s => ?_
   refine au 1 rfl ?_
   refine zl s rfl rfl TF.agg_4 fun b36 s => ?_
   cases b36
   ·replace s := s.2 rfl
    refine au 5 rfl ?_
    exact Run.of_fin (s.imp fun h' s => j4 _ _ ⟨⟨rfl, rfl, trivial⟩, s⟩)
   ·replace s := s.1 rfl
    refine au 7 rfl ?_
    exact zr (s.imp fun _ q => ⟨_, rfl, q⟩)
theorem C_tome_Tome_Bytes.of {B : RO} {p1 : Option Addr} {h : Heap} {Q : ByteArray → Heap → Prop} (s : S_tome_Tome_Bytes B p1 h Q) : C_tome_Tome_Bytes B p1 h Q := by
 refine zspec Try.func72 [ResultVar.tmp 2] rfl rfl rfl rfl rfl ?_
 refine au 6 rfl ?_
 refine zg rfl (sem_buildSL [] [(.slice none 0 0)] TF.zero_152 TF.places_152 rfl rfl ?_)
 refine zbn s rfl rfl rfl fun k3 h4 s => ?_
 refine zal s rfl TF.zero_150 rfl fun k5 h6 s => ?_
 refine zs1 s rfl rfl rfl rfl TF.sz_150 fun h7 s => ?_
 refine au 5 rfl ?_
 refine zcall s rfl rfl TF.goes_92 ?_
 rintro v9 h8 ⟨_, rfl, s⟩
 refine au 2 rfl ?_
 obtain ⟨xs17, G13, J16, hit, hins, hG, h0, s, hR⟩ := s
 refine Run.of_fin (h0.imp fun h' h0 => ?_)
 refine Run.range (v9) (xs17.map (fun x : Int × Bool × ByteArray => [(.int .i64 (x.1)), (.agg #[(.bool x.2.1), (.string x.2.2)])])) G13 J16 rfl hit hins hG h0 rfl (fun a ha => by obtain ⟨x, _, rfl⟩ := List.mem_map.1 ha; rfl) ?_ ?_
 ·rintro q15 args h14 ha hJ
  obtain ⟨⟨i10, b11, s12⟩, hx, rfl⟩ := Option.map_eq_some_iff.1 ((List.getElem?_map ..).symm.trans ha)
  have s := s q15 h14 i10 b11 s12 hx hJ; clear hJ hx ha
  refine zput rfl ?_
  refine au 5 rfl ?_
  refine zal s rfl TF.zero_111 rfl fun k18 h19 s => ?_
  refine zsn s rfl rfl rfl TF.sz_111 rfl fun h20 s => ?_
  refine au 1 rfl ?_
  refine Run.begin ⟨rfl, ?_⟩
  refine au 3 rfl ?_
  refine zl s rfl rfl TF.agg_150 fun p21 s => ?_
  refine au 1 rfl ?_
  refine zg rfl (sem_buildSliceL [(0, (.int .i64 (i10)))] [(.int .i64 (i10))] TF.slc_119 TF.zero_3 rfl (by decide) (by decide) rfl rfl (fun k22 hb1 hb2 h23 hb3 => ?_))
  have s := s k22 hb1 hb2 h23 hb3
  refine zcall s rfl rfl TF.goes_65 ?_
  rintro _ h24 ⟨rfl, s⟩
  refine au 2 rfl ?_
  refine zl s rfl rfl TF.agg_150 fun p25 s => ?_
  refine au 1 rfl ?_
  refine zl s rfl rfl TF.agg_9 fun s26 s => ?_
  refine zg rfl (sem_buildSliceL [(0, (.string s26))] [(.string s26)] TF.slc_35 TF.zero_9 rfl (by decide) (by decide) rfl rfl (fun k27 hb1 hb2 h28 hb3 => ?_))
  have s := s k27 hb1 hb2 h28 hb3
  refine zcall s rfl rfl TF.goes_79 ?_
  rintro _ h29 ⟨rfl, s⟩
  refine au 2 rfl ?_
  refine Run.of_fin (s.imp fun h' s => ?_)
  exact Run.fall (.inl ⟨rfl, s⟩)
 ·intro h14 hJ
  have s := hR h14 (by simpa using hJ); clear hJ hR
  refine au 3 rfl ?_
  refine zl s rfl rfl TF.agg_150 fun p30 s => ?_
  refine zcall s rfl rfl TF.goes_67 ?_
  rintro _ h31 ⟨s32, rfl, s⟩
  refine au 2 rfl ?_
  exact zr (s.imp fun _ q => ⟨_, rfl, q⟩)
theorem C_cell_New_int.of {B : RO} {i1 : Int} {i2 : Int} {h : Heap} {Q : Option Addr → Heap → Prop} (s : S_cell_New_int B i1 i2 h Q) : C_cell_New_int B i1 i2 h Q := by
 refine zspec Try.func73 [ResultVar.tmp 4] rfl rfl rfl rfl rfl ?_
 refine au 6 rfl ?_
 refine zg rfl (sem_buildSL [] [(.slice none 0 0)] TF.zero_188 TF.places_188 rfl rfl ?_)
 refine zbn s rfl rfl rfl fun k4 h5 s => ?_
 refine au 9 rfl ?_
 obtain ⟨J11, m9, h0, s⟩ := s
 refine Run.of_fin (h0.imp fun h' h0 => ?_)
 refine Run.loop (σ := Int × Nat) (fun x e h => J11 x.1 x.2 h ∧ Agree [(1, (.int .i64 (i2))), (5, (.pointer (some ⟨k4, 0, none⟩))), (8, (.int .i64 (i1))), (9, (.int .i64 (x.1)))] e) (fun x => x.2) ((0), m9) ⟨h0, ⟨rfl, rfl, rfl, rfl, trivial⟩⟩ ?_; clear h0
 rintro ⟨i6, m8⟩ e h7 ⟨hJ, hag⟩ ih10
 have s := s i6 m8 h7 hJ; clear hJ
 refine Run.env hag ?_; clear hag
 refine au 2 rfl ?_
 refine zt s rfl rfl rfl binI_lss_t binI_lss_f (fun s => ?_) fun s => ?_
 ·refine au 11 rfl ?_
  refine Run.ldSl s fun a12 n13 c14 h15 hl s => ?_
  refine zg rfl (sem_load1 ⟨k4, 0, none⟩ ((.slice a12 n13 c14)) rfl TF.agg_186 hl ?_)
  refine au 1 rfl ?_
  refine zg rfl (sem_buildSL [(0, (.int .i64 (i2)))] [(.int .i64 (i2)), (.int .i64 (0))] TF.zero_190 TF.places_190 rfl rfl ?_)
  refine zg rfl (sem_buildSliceL [(0, (.agg #[(.int .i64 (i2)), (.int .i64 (0))]))] [(.int .i64 (i2)), (.int .i64 (0))] TF.slc_186 TF.zero_190 rfl (by decide) (by decide) rfl rfl (fun k16 hb1 hb2 h17 hb3 => ?_))
  have s := s k16 hb1 hb2 h17 hb3
  refine zg rfl (sem_appendL [(.slice a12 n13 c14), (.slice (some ⟨k16, 0, none⟩) 1 1)] rfl (semH_mono (fun v h18 hv => ?_) s))
  obtain ⟨a19, n20, c21, rfl, s⟩ := hv
  refine au 2 rfl ?_
  refine zs1 s rfl rfl rfl rfl TF.sz_186 fun h22 s => ?_
  refine au 6 rfl ?_
  exact Run.of_fin (s.imp fun h' ⟨m', hm, s⟩ => ih10 ((IntKind.wrap .i64 ((i6) + (1))), m') _ _ ⟨s, ⟨rfl, rfl, rfl, rfl, trivial⟩⟩ hm)
 ·refine au 9 rfl ?_
  exact zr (s.imp fun _ q => ⟨_, rfl, q⟩)
theorem C_feed_New.of {B : RO} {h : Heap} {Q : Option Addr → Heap → Prop} (s : S_feed_New B h Q) : C_feed_New B h Q := by
 refine zspec Try.func74 [ResultVar.tmp 0] rfl rfl rfl rfl rfl ?_
 refine au 6 rfl ?_
 refine zcall s rfl rfl TF.goes_73 ?_
 rintro _ h2 ⟨p3, rfl, s⟩
 refine zg rfl (sem_buildSL [(1, (.pointer p3))] [(.string ByteArray.empty), (.string ByteArray.empty), (.string ByteArray.empty), (.pointer p3)] TF.zero_192 TF.places_192 rfl rfl ?_)
 refine zbn s rfl rfl rfl fun k4 h5 s => ?_
 refine au 2 rfl ?_
 exact zr (s.imp fun _ q => ⟨_, rfl, q⟩)
theorem C_wal_Log_Size.of {B : RO} {p1 : Option Addr} {h : Heap} {Q : Int → Heap → Prop} (s : S_wal_Log_Size B p1 h Q) : C_wal_Log_Size B p1 h Q := by
 refine zspec Try.func77 [ResultVar.tmp 2] rfl rfl rfl rfl rfl ?_
 refine au 8 rfl ?_
 by_cases hb3 : p1 = none
 ·replace s := s.1 hb3
  refine zg rfl (sem_ptrNilT p1 (.inl rfl) true rfl rfl TF.ptr_133 hb3 rfl ?_)
  refine au 6 rfl ?_
  exact zr (s.imp fun _ q => ⟨_, rfl, q⟩)
 ·replace s := s.2 hb3
  refine zg rfl (sem_ptrNilF p1 (.inl rfl) false rfl rfl TF.ptr_133 hb3 rfl ?_)
  refine au 6 rfl ?_
  refine znil s rfl rfl fun A4 s => ?_
  refine au 1 rfl ?_
  refine zl s rfl rfl TF.agg_3 fun i6 s => ?_
  refine au 2 rfl ?_
  exact zr (s.imp fun _ q => ⟨_, rfl, q⟩)
theorem C_draft_Draft_file_File_All.of {B : RO} {p1 : Option Addr} {h : Heap} {Q : Value → Heap → Prop} (s : S_draft_Draft_file_File_All B p1 h Q) : C_draft_Draft_file_File_All B p1 h Q := by
 refine zspec Try.func78 [ResultVar.tmp 2] rfl rfl rfl rfl rfl ?_
 refine au 2 rfl ?_
 refine zb1 s rfl rfl rfl rfl fun k3 h4 s => ?_
 refine au 7 rfl ?_
 exact zr (s.imp fun _ q => ⟨_, rfl, q⟩)
theorem C_stylus_Stylus_Text.of {B : RO} {p1 : Option Addr} {a2 : Option Addr} {n3 : Nat} {c4 : Nat} {h : Heap} {Q : Heap → Prop} (s : S_stylus_Stylus_Text B p1 a2 n3 c4 h Q) : C_stylus_Stylus_Text B p1 a2 n3 c4 h Q := by
 refine zspec Try.func79 [] rfl rfl rfl rfl rfl ?_
 refine au 3 rfl ?_
 refine zg rfl (sem_lenSl a2 n3 c4 rfl TF.sl_35 ?_)
 refine au 3 rfl ?_
 obtain ⟨J10, m8, h0, s⟩ := s
 refine Run.of_fin (h0.imp fun h' h0 => ?_)
 refine Run.loop (σ := Int × Nat) (fun x e h => J10 x.1 x.2 h ∧ Agree [(0, (.pointer p1)), (6, (.slice a2 n3 c4)), (7, (.int .i64 ((n3 : Nat)))), (8, (.int .i64 (x.1)))] e) (fun x => x.2) ((0), m8) ⟨h0, ⟨rfl, rfl, rfl, rfl, trivial⟩⟩ ?_; clear h0
 rintro ⟨i5, m7⟩ e h6 ⟨hJ, hag⟩ ih9
 have s := s i5 m7 h6 hJ; clear hJ
 refine Run.env hag ?_; clear hag
 refine au 2 rfl ?_
 refine zt s rfl rfl rfl binI_lss_t binI_lss_f (fun s => ?_) fun s => ?_
 ·refine au 8 rfl ?_
  obtain ⟨A11, e12, hi0, hi1, s⟩ := s
  refine zg rfl (sem_indexAddrS A11 n3 c4 .i64 (i5) (congrArg (fun a => Value.slice a n3 c4) e12) rfl TF.slc_35 hi0 hi1 ?_)
  refine zl s rfl rfl TF.agg_9 fun s13 s => ?_
  refine au 6 rfl ?_
  refine zg rfl (sem_lenStr s13 rfl TF.isStr_9 ?_)
  refine zg rfl (sem_buildSliceL [(0, (.int .i64 ((ByteArray.size s13 : Nat))))] [(.int .i64 ((ByteArray.size s13 : Nat)))] TF.slc_119 TF.zero_3 rfl (by decide) (by decide) rfl rfl (fun k14 hb1 hb2 h15 hb3 => ?_))
  have s := s k14 hb1 hb2 h15 hb3
  refine zcall s rfl rfl TF.goes_65 ?_
  rintro _ h16 ⟨rfl, s⟩
  refine au 4 rfl ?_
  refine zcall s rfl rfl TF.goes_66 ?_
  rintro _ h17 ⟨rfl, s⟩
  refine au 6 rfl ?_
  exact Run.of_fin (s.imp fun h' ⟨m', hm, s⟩ => ih9 ((IntKind.wrap .i64 ((i5) + (1))), m') _ _ ⟨s, ⟨rfl, rfl, rfl, rfl, trivial⟩⟩ hm)
 ·refine au 4 rfl ?_
  exact zf (s.imp fun _ q => ⟨rfl, q⟩)
theorem C_disk_Disk_Read.of {B : RO} {p1 : Option Addr} {i2 : Int} {h : Heap} {Q : ByteArray → Heap → Prop} (s : S_disk_Disk_Read B p1 i2 h Q) : C_disk_Disk_Read B p1 i2 h Q := by
 refine zspec Try.func80 [ResultVar.tmp 4] rfl rfl rfl rfl rfl ?_
 refine au 4 rfl ?_
 refine Run.seqJ (fun e h5 => Agree [(0, (.pointer p1)), (1, (.int .i64 (i2)))] e ∧ S_disk_Disk_Read_J1 B p1 i2 h5 Q) ?_ fun j4 => ?_
 ·rintro e h5 ⟨hag, s⟩
  refine Run.env hag ?_; clear hag
  refine au 4 rfl ?_
  refine znil s rfl rfl fun A6 s => ?_
  refine au 1 rfl ?_
  obtain ⟨hi0, hi1, s⟩ := s
  refine zg rfl (sem_indexAddrA A6 .i64 (i2) rfl rfl TF.arr_82 hi0 hi1 ?_)
  refine au 1 rfl ?_
  refine zl s rfl rfl TF.agg_9 fun s8 s => ?_
  refine au 2 rfl ?_
  exact zr (s.imp fun _ q => ⟨_, rfl, q⟩)
 refine au 3 rfl ?_
 by_cases hb9 : p1 = none
 ·replace s := s.1 hb9
  refine zg rfl (sem_ptrNilT p1 (.inl rfl) true rfl rfl TF.ptr_23 hb9 rfl ?_)
  refine au 11 rfl ?_
  exact zr (s.imp fun _ q => ⟨_, rfl, q⟩)
 ·replace s := s.2 hb9
  refine zg rfl (sem_ptrNilF p1 (.inl rfl) false rfl rfl TF.ptr_23 hb9 rfl ?_)
  refine au 2 rfl ?_
  refine zcall s rfl rfl TF.goes_29 ?_
  rintro _ h10 ⟨b11, rfl, s⟩
  cases b11
  ·replace s := s.2 rfl
   refine au 8 rfl ?_
   exact zr (s.imp fun _ q => ⟨_, rfl, q⟩)
  ·replace s := s.1 rfl
   refine au 5 rfl ?_
   exact Run.of_fin (s.imp fun h' s => j4 _ _ ⟨⟨rfl, rfl, trivial⟩, s⟩)
theorem C_wafer_Whole.of {B : RO} {s1 : ByteArray} {h : Heap} {Q : Int → Heap → Prop} (s : S_wafer_Whole B s1 h Q) : C_wafer_Whole B s1 h Q := by
 refine zspec Try.func81 [ResultVar.tmp 2] rfl rfl rfl rfl rfl ?_
 refine au 6 rfl ?_
 refine zal s rfl TF.zero_3 rfl fun k3 h4 s => ?_
 refine zs1 s rfl rfl rfl rfl TF.sz_3 fun h5 s => ?_
 refine au 5 rfl ?_
 refine zcall s rfl rfl TF.goes_96 ?_
 rintro v7 h6 ⟨_, rfl, s⟩
 refine au 2 rfl ?_
 obtain ⟨xs13, G9, J12, hit, hins, hG, h0, s, hR⟩ := s
 refine Run.of_fin (h0.imp fun h' h0 => ?_)
 refine Run.range (v7) (xs13.map (fun x : ByteArray => [(.string x)])) G9 J12 rfl hit hins hG h0 rfl (fun a ha => by obtain ⟨x, _, rfl⟩ := List.mem_map.1 ha; rfl) ?_ ?_
 ·rintro q11 args h10 ha hJ
  obtain ⟨s8, hx, rfl⟩ := Option.map_eq_some_iff.1 ((List.getElem?_map ..).symm.trans ha)
  have s := s q11 h10 s8 hx hJ; clear hJ hx ha
  refine zput rfl ?_
  refine au 3 rfl ?_
  refine Run.begin ⟨rfl, ?_⟩
  refine au 2 rfl ?_
  refine zl s rfl rfl TF.agg_3 fun i14 s => ?_
  refine au 1 rfl ?_
  refine zg rfl (sem_lenStr s8 rfl TF.isStr_9 ?_)
  refine au 3 rfl ?_
  refine zs1 s rfl rfl rfl rfl TF.sz_3 fun h15 s => ?_
  refine au 2 rfl ?_
  refine Run.of_fin (s.imp fun h' s => ?_)
  exact Run.fall (.inl ⟨rfl, s⟩)
 ·intro h10 hJ
  have s := hR h10 (by simpa using hJ); clear hJ hR
  refine au 3 rfl ?_
  refine zl s rfl rfl TF.agg_3 fun i16 s => ?_
  refine au 2 rfl ?_
  exact zr (s.imp fun _ q => ⟨_, rfl, q⟩)
theorem C_wal_Log_All.of {B : RO} {p1 : Option Addr} {h : Heap} {Q : Value → Heap → Prop} (s : S_wal_Log_All B p1 h Q) : C_wal_Log_All B p1 h Q := by
 refine zspec Try.func82 [ResultVar.tmp 2] rfl rfl rfl rfl rfl ?_
 refine au 2 rfl ?_
 refine zb1 s rfl rfl rfl rfl fun k3 h4 s => ?_
 refine au 7 rfl ?_
 exact zr (s.imp fun _ q => ⟨_, rfl, q⟩)
theorem C_vault_first.of {B : RO} {s1 : ByteArray} {h : Heap} {Q : Int → ByteArray → Bool → Heap → Prop} (s : S_vault_first B s1 h Q) : C_vault_first B s1 h Q := by
 refine zspec Try.func83 [ResultVar.tmp 2, ResultVar.tmp 3, ResultVar.tmp 4] rfl rfl rfl rfl rfl ?_
 refine au 9 rfl ?_
 refine zcall s rfl rfl TF.goes_57 ?_
 rintro _ h5 ⟨p6, rfl, s⟩
 refine au 5 rfl ?_
 refine zcall s rfl rfl TF.goes_58 ?_
 rintro _ h7 ⟨i8, rfl, s⟩
 refine au 5 rfl ?_
 refine zcall s rfl rfl TF.goes_58 ?_
 rintro _ h9 ⟨i10, rfl, s⟩
 refine au 2 rfl ?_
 refine zcall s rfl rfl TF.goes_62 ?_
 rintro _ h11 ⟨i12, rfl, s⟩
 refine zcall s rfl rfl TF.goes_61 ?_
 rintro _ h13 ⟨s14, rfl, s⟩
 refine au 8 rfl ?_
 refine zcall s rfl rfl TF.goes_59 ?_
 rintro _ h15 ⟨b16, rfl, s⟩
 cases b16
 ·replace s := s.2 rfl
  refine au 3 rfl ?_
  refine zt s rfl rfl rfl binI_eql_t binI_eql_f (fun s => ?_) fun s => ?_
  ·refine au 9 rfl ?_
   exact zr (s.imp fun _ q => ⟨_, _, _, rfl, q⟩)
  ·refine au 9 rfl ?_
   exact zr (s.imp fun _ q => ⟨_, _, _, rfl, q⟩)
 ·replace s := s.1 rfl
  refine au 13 rfl ?_
  exact zr (s.imp fun _ q => ⟨_, _, _, rfl, q⟩)
theorem C_cell_New_file_File.of {B : RO} {i1 : Int} {b2 : Bool} {s3 : ByteArray} {h : Heap} {Q : Option Addr → Heap → Prop} (s : S_cell_New_file_File B i1 b2 s3 h Q) : C_cell_New_file_File B i1 b2 s3 h Q := by
 refine zspec Try.func84 [ResultVar.tmp 4] rfl rfl rfl rfl rfl ?_
 refine au 2 rfl ?_
 refine zbn s rfl rfl rfl fun k5 h6 s => ?_
 refine au 4 rfl ?_
 refine zg rfl (sem_buildSL [] [(.slice none 0 0)] TF.zero_199 TF.places_199 rfl rfl ?_)
 refine zbn s rfl rfl rfl fun k7 h8 s => ?_
 refine au 9 rfl ?_
 obtain ⟨J14, m12, h0, s⟩ := s
 refine Run.of_fin (h0.imp fun h' h0 => ?_)
 refine Run.loop (σ := Int × Nat) (fun x e h => J14 x.1 x.2 h ∧ Agree [(3, (.pointer (some ⟨k5, 0, none⟩))), (5, (.pointer (some ⟨k7, 0, none⟩))), (8, (.int .i64 (i1))), (9, (.int .i64 (x.1)))] e) (fun x => x.2) ((0), m12) ⟨h0, ⟨rfl, rfl, rfl, rfl, trivial⟩⟩ ?_; clear h0
 rintro ⟨i9, m11⟩ e h10 ⟨hJ, hag⟩ ih13
 have s := s i9 m11 h10 hJ; clear hJ
 refine Run.env hag ?_; clear hag
 refine au 2 rfl ?_
 refine zt s rfl rfl rfl binI_lss_t binI_lss_f (fun s => ?_) fun s => ?_
 ·refine au 6 rfl ?_
  obtain ⟨a19, n20, c21, hl, s⟩ := s
  have f22 := hl
  obtain ⟨b23, s24, hl, s⟩ := s
  have f25 := hl
  refine Run.drawM (fun h' => cellH B h' ⟨k7, 0, none⟩ = some (.slice a19 n20 c21) ∧ CellsAt B h' ⟨k5, 0, none⟩ 0 [(.bool b23), (.string s24)] ∧ True) [11] ⟨[0, 0, 2, 4, 8, 0, 32, 64, 144, 511, 1023, 1535], [4095, 4095, 4093, 4091, 4087, 4095, 4063, 4031, 3951, 4094, 3583, 2815], [0, 0, 2, 6, 14, 0, 32, 96, 254, 511, 1023, 2047], 2048⟩ (.q 0 (.q 1 (.q 2 (.q 3 (.q 4 (.q 5 (.q 6 (.x 7 (.x 8 (.q 9 (.q 10 (.x 11 .nil .no))) .no) .no)))))))) TF.mixed (by kernel_rfl) ⟨f22, f25, trivial⟩ ?_
  refine auT 4 rfl ?_
  refine zq rfl (fun _ hC => sem_load1 ⟨k7, 0, none⟩ ((.slice a19 n20 c21)) rfl TF.agg_197 hC.1 ⟨rfl, rfl⟩) ?_
  refine zq rfl (fun _ hC => sem_loadN ⟨k5, 0, none⟩ [(.bool b23), (.string s24)] rfl TF.agg_111 TF.sz_111 hC.2.1 ⟨rfl, rfl⟩) ?_
  refine zq rfl (fun _ hC => sem_buildSL [(0, (.agg #[(.bool b23), (.string s24)]))] [(.bool b23), (.string s24), (.int .i64 (0))] TF.zero_196 TF.places_196 rfl rfl ⟨rfl, rfl⟩) ?_
  refine ⟨zo rfl (sem_buildSliceL [(0, (.agg #[(.bool b23), (.string s24), (.int .i64 (0))]))] [(.bool b23), (.string s24), (.int .i64 (0))] TF.slc_197 TF.zero_196 rfl (by decide) (by decide) rfl rfl (fun k27 hb1 hb2 h28 hb3 => ?_)), trivial⟩
  have s := s k27 hb1 hb2 h28 hb3
  obtain ⟨g29, g30, s⟩ := s
  refine ⟨fun _ => ⟨g29, g30, trivial⟩, ?_⟩
  refine ⟨zo rfl (sem_appendL [(.slice a19 n20 c21), (.slice (some ⟨k27, 0, none⟩) 1 1)] rfl (semH_mono (fun v h31 hv => ?_) s)), trivial⟩
  obtain ⟨a32, n33, c34, rfl, s⟩ := hv
  obtain ⟨g35, g36, s⟩ := s
  refine ⟨fun _ => ⟨g35, g36, trivial⟩, ?_⟩
  refine auT 2 rfl ?_
  obtain ⟨h37, hst, s⟩ := s
  refine ⟨zo0 rfl (sem_store1 ⟨k7, 0, none⟩ ((.slice a32 n33 c34)) h37 rfl rfl rfl TF.sz_197 hst ?_), trivial⟩
  refine ⟨fun hz => Bool.noConfusion hz, ?_⟩
  refine au 5 rfl ?_
  exact Run.of_fin (s.imp fun h' ⟨m', hm, s⟩ => ih13 ((IntKind.wrap .i64 ((i9) + (1))), m') _ _ ⟨s, ⟨rfl, rfl, rfl, rfl, trivial⟩⟩ hm)
 ·refine au 9 rfl ?_
  exact zr (s.imp fun _ q => ⟨_, rfl, q⟩)
theorem C_stylus_Reader_word.of {B : RO} {p1 : Option Addr} {h : Heap} {Q : Int → Heap → Prop} (s : S_stylus_Reader_word B p1 h Q) : C_stylus_Reader_word B p1 h Q := by
 refine zspec Try.func85 [ResultVar.tmp 2] rfl rfl rfl rfl rfl ?_
 refine au 14 rfl ?_
 obtain ⟨J9, m7, h0, s⟩ := s
 refine Run.of_fin (h0.imp fun h' h0 => ?_)
 refine Run.loop (σ := Int × Int × Nat) (fun x e h => J9 x.1 x.2.1 x.2.2 h ∧ Agree [(0, (.pointer p1)), (3, (.int .u64 (x.1))), (4, (.int .i64 (x.2.1)))] e) (fun x => x.2.2) ((0), (0), m7) ⟨h0, ⟨rfl, rfl, rfl, trivial⟩⟩ ?_; clear h0
 rintro ⟨i3, i4, m6⟩ e h5 ⟨hJ, hag⟩ ih8
 have s := s i3 i4 m6 h5 hJ; clear hJ
 refine Run.env hag ?_; clear hag
 refine au 4 rfl ?_
 refine zt s rfl rfl rfl binI_lss_t binI_lss_f (fun s => ?_) fun s => ?_
 ·refine au 8 rfl ?_
  refine zcall s rfl rfl TF.goes_61 ?_
  rintro _ h10 ⟨s11, rfl, s⟩
  refine au 2 rfl ?_
  refine Run.seqJ (fun e h13 => Agree [(0, (.pointer p1)), (3, (.int .u64 (i3))), (4, (.int .i64 (i4))), (5, (.string s11))] e ∧ S_stylus_Reader_word_J1 B p1 i3 i4 m6 J9 s11 h13 Q) ?_ fun j12 => ?_
  ·rintro e h13 ⟨hag, s⟩
   refine Run.env hag ?_; clear hag
   refine au 4 rfl ?_
   obtain ⟨hi0, hi1, s⟩ := s
   refine zg rfl (sem_indexStr' s11 .i64 (0) rfl rfl TF.isStr_9 hi0 hi1 ?_)
   refine au 1 rfl ?_
   refine zg rfl (sem_convI .u8 .u64 (IntKind.wrap .u8 ((BitVec.ofInt (IntKind.bits .u8) (byteAt s11 (Int.toNat (0))) &&& BitVec.ofInt (IntKind.bits .u8) (127)).toNat : Int)) rfl TF.int_5 TF.int_88 ?_)
   refine au 1 rfl ?_
   obtain ⟨hi0, s⟩ := s
   refine zg rfl (sem_shl .u64 .i64 (IntKind.wrap .u64 (IntKind.wrap .u8 ((BitVec.ofInt (IntKind.bits .u8) (byteAt s11 (Int.toNat (0))) &&& BitVec.ofInt (IntKind.bits .u8) (127)).toNat : Int))) (i4) rfl rfl hi0 ?_)
   refine au 6 rfl ?_
   obtain ⟨hi0, hi1, s⟩ := s
   refine zg rfl (sem_indexStr' s11 .i64 (0) rfl rfl TF.isStr_9 hi0 hi1 ?_)
   refine zt s rfl rfl rfl binI_lss_t binI_lss_f (fun s => ?_) fun s => ?_
   ·refine au 7 rfl ?_
    exact zr (s.imp fun _ q => ⟨_, rfl, q⟩)
   ·refine au 9 rfl ?_
    exact Run.of_fin (s.imp fun h' ⟨m', hm, s⟩ => ih8 ((IntKind.wrap .u64 ((BitVec.ofInt (IntKind.bits .u64) (i3) ||| BitVec.ofInt (IntKind.bits .u64) (IntKind.wrap .u64 ((IntKind.wrap .u64 (IntKind.wrap .u8 ((BitVec.ofInt (IntKind.bits .u8) (byteAt s11 (Int.toNat (0))) &&& BitVec.ofInt (IntKind.bits .u8) (127)).toNat : Int))) * 2 ^ (min (Int.toNat (i4)) (IntKind.bits .u64))))).toNat : Int)), (IntKind.wrap .i64 ((i4) + (7))), m') _ _ ⟨s, ⟨rfl, rfl, rfl, trivial⟩⟩ hm)
  refine au 3 rfl ?_
  by_cases hb14 : s11 = (ByteArray.mk #[])
  ·replace s := s.1 hb14
   refine zg rfl (sem_strEqT s11 (ByteArray.mk #[]) rfl rfl hb14 ?_)
   refine au 24 rfl ?_
   refine zcall s rfl rfl TF.goes_86 ?_
   rintro _ h15 ⟨rfl, s⟩
   refine au 5 rfl ?_
   exact zr (s.imp fun _ q => ⟨_, rfl, q⟩)
  ·replace s := s.2 hb14
   refine zg rfl (sem_strEqF s11 (ByteArray.mk #[]) rfl rfl hb14 ?_)
   refine au 2 rfl ?_
   refine zt s rfl rfl rfl binI_eql_t binI_eql_f (fun s => ?_) fun s => ?_
   ·refine au 2 rfl ?_
    obtain ⟨hi0, hi1, s⟩ := s
    refine zg rfl (sem_indexStr' s11 .i64 (0) rfl rfl TF.isStr_9 hi0 hi1 ?_)
    refine zt s rfl rfl rfl binI_gtr_t binI_gtr_f (fun s => ?_) fun s => ?_
    ·refine au 17 rfl ?_
     refine zcall s rfl rfl TF.goes_86 ?_
     rintro _ h16 ⟨rfl, s⟩
     refine au 5 rfl ?_
     exact zr (s.imp fun _ q => ⟨_, rfl, q⟩)
    ·refine au 4 rfl ?_
     refine zt s rfl rfl rfl binI_gtr_t binI_gtr_f (fun s => ?_) fun s => ?_
     ·refine au 2 rfl ?_
      obtain ⟨hi0, hi1, s⟩ := s
      refine zg rfl (sem_indexStr' s11 .i64 (0) rfl rfl TF.isStr_9 hi0 hi1 ?_)
      refine zt s rfl rfl rfl binI_eql_t binI_eql_f (fun s => ?_) fun s => ?_
      ·refine au 8 rfl ?_
       refine zcall s rfl rfl TF.goes_86 ?_
       rintro _ h17 ⟨rfl, s⟩
       refine au 5 rfl ?_
       exact zr (s.imp fun _ q => ⟨_, rfl, q⟩)
      ·refine au 5 rfl ?_
       exact Run.of_fin (s.imp fun h' s => j12 _ _ ⟨⟨rfl, rfl, rfl, rfl, trivial⟩, s⟩)
     ·refine au 9 rfl ?_
      exact Run.of_fin (s.imp fun h' s => j12 _ _ ⟨⟨rfl, rfl, rfl, rfl, trivial⟩, s⟩)
   ·refine au 8 rfl ?_
    refine zt s rfl rfl rfl binI_gtr_t binI_gtr_f (fun s => ?_) fun s => ?_
    ·refine au 2 rfl ?_
     obtain ⟨hi0, hi1, s⟩ := s
     refine zg rfl (sem_indexStr' s11 .i64 (0) rfl rfl TF.isStr_9 hi0 hi1 ?_)
     refine zt s rfl rfl rfl binI_eql_t binI_eql_f (fun s => ?_) fun s => ?_
     ·refine au 8 rfl ?_
      refine zcall s rfl rfl TF.goes_86 ?_
      rintro _ h18 ⟨rfl, s⟩
      refine au 5 rfl ?_
      exact zr (s.imp fun _ q => ⟨_, rfl, q⟩)
     ·refine au 5 rfl ?_
      exact Run.of_fin (s.imp fun h' s => j12 _ _ ⟨⟨rfl, rfl, rfl, rfl, trivial⟩, s⟩)
    ·refine au 9 rfl ?_
     exact Run.of_fin (s.imp fun h' s => j12 _ _ ⟨⟨rfl, rfl, rfl, rfl, trivial⟩, s⟩)
 ·refine au 6 rfl ?_
  refine zcall s rfl rfl TF.goes_86 ?_
  rintro _ h19 ⟨rfl, s⟩
  refine au 5 rfl ?_
  exact zr (s.imp fun _ q => ⟨_, rfl, q⟩)
theorem C_stylus_Reader_Spoil.of {B : RO} {p1 : Option Addr} {h : Heap} {Q : Heap → Prop} (s : S_stylus_Reader_Spoil B p1 h Q) : C_stylus_Reader_Spoil B p1 h Q := by
 refine zspec Try.func86 [] rfl rfl rfl rfl rfl ?_
 refine au 3 rfl ?_
 by_cases hb2 : p1 = none
 ·replace s := s.1 hb2
  refine zg rfl (sem_ptrNilT p1 (.inr rfl) false rfl rfl TF.ptr_141 hb2 rfl ?_)
  refine au 3 rfl ?_
  exact zf (s.imp fun _ q => ⟨rfl, q⟩)
 ·replace s := s.2 hb2
  refine zg rfl (sem_ptrNilF p1 (.inr rfl) true rfl rfl TF.ptr_141 hb2 rfl ?_)
  refine au 5 rfl ?_
  refine znil s rfl rfl fun A3 s => ?_
  refine au 1 rfl ?_
  refine zs1 s rfl rfl rfl rfl TF.sz_9 fun h5 s => ?_
  refine znil s rfl rfl fun A6 s => ?_
  refine au 1 rfl ?_
  refine zs1 s rfl rfl rfl rfl TF.sz_4 fun h8 s => ?_
  refine au 1 rfl ?_
  exact zf (s.imp fun _ q => ⟨rfl, q⟩)
theorem C_stylus_Reader_Text.of {B : RO} {p1 : Option Addr} {i2 : Int} {h : Heap} {Q : ByteArray → Heap → Prop} (s : S_stylus_Reader_Text B p1 i2 h Q) : C_stylus_Reader_Text B p1 i2 h Q := by
 refine zspec Try.func87 [ResultVar.tmp 4] rfl rfl rfl rfl rfl ?_
 refine au 9 rfl ?_
 refine zcall s rfl rfl TF.goes_58 ?_
 rintro _ h4 ⟨i5, rfl, s⟩
 refine zcall s rfl rfl TF.goes_61 ?_
 rintro _ h6 ⟨s7, rfl, s⟩
 refine au 2 rfl ?_
 exact zr (s.imp fun _ q => ⟨_, rfl, q⟩)
theorem C_tome_Tome_Set.of {B : RO} {p1 : Option Addr} {i2 : Int} {b3 : Bool} {s4 : ByteArray} {i5 : Int} {h : Heap} {Q : Bool → Heap → Prop} (s : S_tome_Tome_Set B p1 i2 b3 s4 i5 h Q) : C_tome_Tome_Set B p1 i2 b3 s4 i5 h Q := by
 refine zspec Try.func88 [ResultVar.tmp 8] rfl rfl rfl rfl rfl ?_
 refine au 2 rfl ?_
 refine zbn s rfl rfl rfl fun k7 h8 s => ?_
 refine au 3 rfl ?_
 by_cases hb10 : p1 = none
 ·replace s := s.1 hb10
  refine Run.drawM (fun h' => True) [] ⟨[0, 1, 2, 4, 12, 20, 48, 64, 192, 320, 576, 64, 64, 64, 15424, 16448, 65535], [131071, 131070, 131069, 131067, 131059, 131051, 131039, 131007, 130879, 130751, 130495, 131007, 131007, 131007, 115647, 114623, 98303], [0, 0, 0, 0, 0, 0, 0, 0, 0, 0, 0, 0, 0, 0, 0, 0, 0], 0⟩ (.q 0 (.q 1 (.q 2 (.q 3 (.x 4 (.q 5 (.q 6 (.q 7 (.q 8 (.q 9 (.q 11 (.q 13 (.x 10 (.x 12 (.x 14 (.q 15 (.q 16 .nil)) .no) .no) (.x 12 (.x 10 (.x 14 (.q 15 (.q 16 .nil)) .no) .no) .no))))))))) .no))))) TF.mixed (by kernel_rfl) trivial ?_
  refine auT 1 rfl ?_
  refine zq rfl (fun _ hC => sem_ptrNilT p1 (.inr rfl) false rfl rfl TF.ptr_41 hb10 rfl ⟨rfl, rfl⟩) ?_
  refine auT 2 rfl ?_
  refine ⟨zon rfl ⟨fun _ => trivial, ?_⟩, trivial⟩
  refine auT 7 rfl ?_
  refine RunT.joinJ (t := (.x 14 (.q 15 (.q 16 .nil)) .no)) (fun e h14 => Agree [(8, (.bool false)), (15, (.bool false))] e ∧ S_tome_Tome_Set_J1 B h14 Q) ?_ fun j13 => ?_
  ·rintro e h14 ⟨hag, s⟩
   refine RunT.env hag ?_; clear hag
   refine ⟨zon rfl ⟨fun _ => trivial, ?_⟩, trivial⟩
   refine auT 2 rfl ?_
   exact zr (s.imp fun _ q => ⟨_, rfl, q⟩)
  refine ⟨?_, ?_, trivial⟩
  ·have s := s.1
   refine zon rfl ⟨fun _ => trivial, ?_⟩
   refine ⟨zon rfl ⟨fun _ => trivial, ?_⟩, trivial⟩
   exact j13 _ _ ⟨⟨rfl, rfl, trivial⟩, s⟩
  ·have s := s.2
   refine zon rfl ⟨fun _ => trivial, ?_⟩
   refine ⟨zon rfl ⟨fun _ => trivial, ?_⟩, trivial⟩
   exact j13 _ _ ⟨⟨rfl, rfl, trivial⟩, s⟩
 ·replace s := s.2 hb10
  obtain ⟨b17, s18, hl, s⟩ := s
  have f19 := hl
  refine Run.drawM (fun h' => CellsAt B h' ⟨k7, 0, none⟩ 0 [(.bool b17), (.string s18)] ∧ True) [] ⟨[0, 1, 2, 4, 12, 20, 48, 64, 192, 320, 576, 64, 64, 64, 15424, 16448, 65535], [131071, 131070, 131069, 131067, 131059, 131051, 131039, 131007, 130879, 130751, 130495, 131007, 131007, 131007, 115647, 114623, 98303], [0, 0, 0, 0, 0, 0, 0, 0, 0, 0, 0, 0, 0, 0, 0, 0, 0], 0⟩ (.q 0 (.q 1 (.q 2 (.q 3 (.x 4 (.q 5 (.q 6 (.q 7 (.q 8 (.q 9 (.q 11 (.q 13 (.x 10 (.x 12 (.x 14 (.q 15 (.q 16 .nil)) .no) .no) (.x 12 (.x 10 (.x 14 (.q 15 (.q 16 .nil)) .no) .no) .no))))))))) .no))))) TF.mixed (by kernel_rfl) ⟨f19, trivial⟩ ?_
  refine auT 1 rfl ?_
  refine zq rfl (fun _ hC => sem_ptrNilF p1 (.inr rfl) true rfl rfl TF.ptr_41 hb10 rfl ⟨rfl, rfl⟩) ?_
  refine auT 1 rfl ?_
  refine zq rfl (fun _ hC => sem_loadN ⟨k7, 0, none⟩ [(.bool b17), (.string s18)] rfl TF.agg_111 TF.sz_111 hC.1 ⟨rfl, rfl⟩) ?_
  refine ⟨zo rfl (sem_callL [(.agg #[(.bool b17), (.string s18)])] (TF.goes_98) rfl rfl (Spec.mono s fun v h20 hv => ?_)), trivial⟩
  obtain ⟨b21, rfl, s⟩ := hv
  cases b21
  ·replace s := s.2 rfl
   obtain ⟨g22, s⟩ := s
   refine ⟨fun _ => ⟨g22, trivial⟩, ?_⟩
   refine auT 7 rfl ?_
   refine RunT.joinJ (t := (.x 14 (.q 15 (.q 16 .nil)) .no)) (fun e h24 => Agree [(8, (.bool false)), (15, (.bool false))] e ∧ CellsAt B h24 ⟨k7, 0, none⟩ 0 [(.bool b17), (.string s18)] ∧ S_tome_Tome_Set_J2 B k7 b17 s18 h24 Q) ?_ fun j23 => ?_
   ·rintro e h24 ⟨hag, g25, s⟩
    refine RunT.env hag ?_; clear hag
    refine ⟨zon rfl ⟨fun _ => ⟨g25, trivial⟩, ?_⟩, trivial⟩
    refine auT 2 rfl ?_
    exact zr (s.imp fun _ q => ⟨_, rfl, q⟩)
   refine ⟨?_, ?_, trivial⟩
   ·have s := s.1
    refine zon rfl ⟨fun _ => ⟨g22, trivial⟩, ?_⟩
    refine ⟨zon rfl ⟨fun _ => ⟨g22, trivial⟩, ?_⟩, trivial⟩
    exact j23 _ _ ⟨⟨rfl, rfl, trivial⟩, g22, s⟩
   ·have s := s.2
    refine zon rfl ⟨fun _ => ⟨g22, trivial⟩, ?_⟩
    refine ⟨zon rfl ⟨fun _ => ⟨g22, trivial⟩, ?_⟩, trivial⟩
    exact j23 _ _ ⟨⟨rfl, rfl, trivial⟩, g22, s⟩
  ·replace s := s.1 rfl
   obtain ⟨g26, s⟩ := s
   refine ⟨fun _ => ⟨g26, trivial⟩, ?_⟩
   refine auT 3 rfl ?_
   obtain ⟨A27, e28, s⟩ := s
   refine zq rfl (fun _ _ => sem_nilCheck A27 (congrArg Value.pointer e28) ⟨rfl, rfl⟩) ?_
   refine auT 3 rfl ?_
   refine RunT.joinJ (t := (.x 14 (.q 15 (.q 16 .nil)) .no)) (fun e h39 => ∃ p36 : Option Addr, ∃ b37 : Bool, ∃ s38 : ByteArray, Agree [(8, (.bool false)), (15, (.bool true)), (19, (.pointer p36)), (20, (.int .i64 (i2))), (21, (.agg #[(.bool b37), (.string s38)])), (22, (.int .i64 (i5)))] e ∧ CellsAt B h39 ⟨k7, 0, none⟩ 0 [(.bool b17), (.string s18)] ∧ S_tome_Tome_Set_J3 B i2 i5 k7 b17 s18 p36 b37 s38 h39 Q) ?_ fun j35 => ?_
   ·rintro e h39 ⟨p36, b37, s38, hag, g40, s⟩
    refine RunT.env hag ?_; clear hag
    refine ⟨zo rfl (sem_callL [(.pointer p36), (.int .i64 (i2)), (.agg #[(.bool b37), (.string s38)]), (.int .i64 (i5))] (TF.goes_99) rfl rfl (Spec.mono s fun v h41 hv => ?_)), trivial⟩
    obtain ⟨b42, rfl, s⟩ := hv
    obtain ⟨g43, s⟩ := s
    refine ⟨fun _ => ⟨g43, trivial⟩, ?_⟩
    refine auT 2 rfl ?_
    exact zr (s.imp fun _ q => ⟨_, rfl, q⟩)
   refine ⟨?_, ?_, trivial⟩
   ·have s := s.1
    obtain ⟨p44, hl, s⟩ := s
    refine zo rfl (sem_load1 A27 ((.pointer p44)) rfl TF.agg_162 hl ?_)
    refine ⟨fun _ => ⟨g26, trivial⟩, ?_⟩
    obtain ⟨b45, s46, hl, s⟩ := s
    refine ⟨zo rfl (sem_loadN ⟨k7, 0, none⟩ [(.bool b45), (.string s46)] rfl TF.agg_111 TF.sz_111 hl ?_), trivial⟩
    refine ⟨fun _ => ⟨g26, trivial⟩, ?_⟩
    exact j35 _ _ ⟨p44, (b45), s46, ⟨rfl, rfl, rfl, rfl, rfl, rfl, trivial⟩, g26, s⟩
   ·have s := s.2
    obtain ⟨b47, s48, hl, s⟩ := s
    refine zo rfl (sem_loadN ⟨k7, 0, none⟩ [(.bool b47), (.string s48)] rfl TF.agg_111 TF.sz_111 hl ?_)
    refine ⟨fun _ => ⟨g26, trivial⟩, ?_⟩
    obtain ⟨p49, hl, s⟩ := s
    refine ⟨zo rfl (sem_load1 A27 ((.pointer p49)) rfl TF.agg_162 hl ?_), trivial⟩
    refine ⟨fun _ => ⟨g26, trivial⟩, ?_⟩
    exact j35 _ _ ⟨p49, (b47), s48, ⟨rfl, rfl, rfl, rfl, rfl, rfl, trivial⟩, g26, s⟩
theorem C_disk_Disk_Reset.of {B : RO} {p1 : Option Addr} {i2 : Int} {h : Heap} {Q : Int → Heap → Prop} (s : S_disk_Disk_Reset B p1 i2 h Q) : C_disk_Disk_Reset B p1 i2 h Q := by
 refine zspec Try.func89 [ResultVar.tmp 4] rfl rfl rfl rfl rfl ?_
 refine au 4 rfl ?_
 refine Run.seqJ (fun e h5 => Agree [(0, (.pointer p1)), (1, (.int .i64 (i2)))] e ∧ S_disk_Disk_Reset_J1 B p1 i2 h5 Q) ?_ fun j4 => ?_
 ·rintro e h5 ⟨hag, s⟩
  refine Run.env hag ?_; clear hag
  refine au 4 rfl ?_
  refine znil s rfl rfl fun A6 s => ?_
  refine au 1 rfl ?_
  obtain ⟨hi0, hi1, s⟩ := s
  refine zg rfl (sem_indexAddrA A6 .i64 (i2) rfl rfl TF.arr_82 hi0 hi1 ?_)
  refine au 1 rfl ?_
  refine zs1 s rfl rfl rfl rfl TF.sz_9 fun h8 s => ?_
  refine au 5 rfl ?_
  refine znil s rfl rfl fun A9 s => ?_
  refine au 1 rfl ?_
  refine Run.ldSl s fun a11 n12 c13 h14 hl s => ?_
  refine zg rfl (sem_load1 (Addr.add A9 4) ((.slice a11 n12 c13)) rfl TF.agg_83 hl ?_)
  refine au 1 rfl ?_
  refine zg rfl (sem_buildSL [(0, (.int .i64 (i2))), (1, (.bool true))] [(.int .i64 (i2)), (.bool true), (.string ByteArray.empty)] TF.zero_87 TF.places_87 rfl rfl ?_)
  refine zg rfl (sem_buildSliceL [(0, (.agg #[(.int .i64 (i2)), (.bool true), (.string ByteArray.empty)]))] [(.int .i64 (i2)), (.bool true), (.string ByteArray.empty)] TF.slc_83 TF.zero_87 rfl (by decide) (by decide) rfl rfl (fun k15 hb1 hb2 h16 hb3 => ?_))
  have s := s k15 hb1 hb2 h16 hb3
  refine zg rfl (sem_appendL [(.slice a11 n12 c13), (.slice (some ⟨k15, 0, none⟩) 1 1)] rfl (semH_mono (fun v h17 hv => ?_) s))
  obtain ⟨a18, n19, c20, rfl, s⟩ := hv
  refine znil s rfl rfl fun A21 s => ?_
  refine au 1 rfl ?_
  refine zs1 s rfl rfl rfl rfl TF.sz_83 fun h23 s => ?_
  refine au 5 rfl ?_
  exact zr (s.imp fun _ q => ⟨_, rfl, q⟩)
 refine au 4 rfl ?_
 by_cases hb24 : p1 = none
 ·replace s := s.1 hb24
  refine zg rfl (sem_ptrNilT p1 (.inl rfl) true rfl rfl TF.ptr_23 hb24 rfl ?_)
  refine au 7 rfl ?_
  exact zr (s.imp fun _ q => ⟨_, rfl, q⟩)
 ·replace s := s.2 hb24
  refine zg rfl (sem_ptrNilF p1 (.inl rfl) false rfl rfl TF.ptr_23 hb24 rfl ?_)
  refine au 6 rfl ?_
  refine zcall s rfl rfl TF.goes_29 ?_
  rintro _ h25 ⟨b26, rfl, s⟩
  cases b26
  ·replace s := s.2 rfl
   refine au 8 rfl ?_
   exact zr (s.imp fun _ q => ⟨_, rfl, q⟩)
  ·replace s := s.1 rfl
   refine au 6 rfl ?_
   exact Run.of_fin (s.imp fun h' s => j4 _ _ ⟨⟨rfl, rfl, trivial⟩, s⟩)
theorem C_disk_Disk_Sync.of {B : RO} {p1 : Option Addr} {h : Heap} {Q : Heap → Prop} (s : S_disk_Disk_Sync B p1 h Q) : C_disk_Disk_Sync B p1 h Q := by
 refine zspec Try.func90 [] rfl rfl rfl rfl rfl ?_
 refine au 4 rfl ?_
 by_cases hb2 : p1 = none
 ·replace s := s.1 hb2
  refine zg rfl (sem_ptrNilT p1 (.inl rfl) true rfl rfl TF.ptr_23 hb2 rfl ?_)
  refine au 2 rfl ?_
  exact zr (s.imp fun _ q => ⟨rfl, q⟩)
 ·replace s := s.2 hb2
  refine zg rfl (sem_ptrNilF p1 (.inl rfl) false rfl rfl TF.ptr_23 hb2 rfl ?_)
  refine au 7 rfl ?_
  refine znil s rfl rfl fun A3 s => ?_
  refine au 1 rfl ?_
  refine Run.ldSl s fun a5 n6 c7 h8 hl s => ?_
  refine zg rfl (sem_load1 (Addr.add A3 4) ((.slice a5 n6 c7)) rfl TF.agg_83 hl ?_)
  refine zg rfl (sem_lenSl a5 n6 c7 rfl TF.sl_83 ?_)
  refine au 3 rfl ?_
  obtain ⟨J14, m12, h0, s⟩ := s
  refine Run.of_fin (h0.imp fun h' h0 => ?_)
  refine Run.loop (σ := Int × Nat) (fun x e h => J14 x.1 x.2 h ∧ Agree [(0, (.pointer p1)), (9, (.slice a5 n6 c7)), (10, (.int .i64 ((n6 : Nat)))), (11, (.int .i64 (x.1)))] e) (fun x => x.2) ((0), m12) ⟨h0, ⟨rfl, rfl, rfl, rfl, trivial⟩⟩ ?_; clear h0
  rintro ⟨i9, m11⟩ e h10 ⟨hJ, hag⟩ ih13
  have s := s i9 m11 h10 hJ; clear hJ
  refine Run.env hag ?_; clear hag
  refine au 2 rfl ?_
  refine zt s rfl rfl rfl binI_lss_t binI_lss_f (fun s => ?_) fun s => ?_
  ·refine au 8 rfl ?_
   obtain ⟨A15, e16, hi0, hi1, s⟩ := s
   refine zg rfl (sem_indexAddrS A15 n6 c7 .i64 (i9) (congrArg (fun a => Value.slice a n6 c7) e16) rfl TF.slc_83 hi0 hi1 ?_)
   obtain ⟨i17, b18, s19, hl, s⟩ := s
   refine zn hl rfl rfl TF.agg_87 TF.sz_87 rfl ?_
   refine zal s rfl TF.zero_87 rfl fun k20 h21 s => ?_
   refine zsn s rfl rfl rfl TF.sz_87 rfl fun h22 s => ?_
   refine au 3 rfl ?_
   obtain ⟨i23, b24, s25, hl, s⟩ := s
   refine zn hl rfl rfl TF.agg_87 TF.sz_87 rfl ?_
   refine zcall s rfl rfl TF.goes_45 ?_
   rintro _ h26 ⟨rfl, s⟩
   refine au 6 rfl ?_
   exact Run.of_fin (s.imp fun h' ⟨m', hm, s⟩ => ih13 ((IntKind.wrap .i64 ((i9) + (1))), m') _ _ ⟨s, ⟨rfl, rfl, rfl, rfl, trivial⟩⟩ hm)
  ·refine au 6 rfl ?_
   refine znil s rfl rfl fun A27 s => ?_
   refine au 1 rfl ?_
   refine zs1 s rfl rfl rfl rfl TF.sz_83 fun h29 s => ?_
   refine au 1 rfl ?_
   exact zf (s.imp fun _ q => ⟨rfl, q⟩)
theorem C_wafer_Close.of {B : RO} {s1 : ByteArray} {h : Heap} {Q : ByteArray → Heap → Prop} (s : S_wafer_Close B s1 h Q) : C_wafer_Close B s1 h Q := by
 refine zspec Try.func91 [ResultVar.tmp 2] rfl rfl rfl rfl rfl ?_
 refine au 7 rfl ?_
 refine zg rfl (sem_lenStr s1 rfl TF.isStr_9 ?_)
 refine au 6 rfl ?_
 refine zt s rfl rfl rfl binI_gtr_t binI_gtr_f (fun s => ?_) fun s => ?_
 ·refine au 6 rfl ?_
  exact zr (s.imp fun _ q => ⟨_, rfl, q⟩)
 ·refine au 6 rfl ?_
  obtain ⟨hi0, s⟩ := s
  refine zg rfl (sem_shr .i64 .u64 ((ByteArray.size s1 : Nat)) (8) rfl rfl hi0 ?_)
  refine zg rfl (sem_convI .i64 .u8 (Int.fdiv ((ByteArray.size s1 : Nat)) (2 ^ (min (Int.toNat (8)) (IntKind.bits .i64)))) rfl TF.int_3 TF.int_5 ?_)
  refine au 1 rfl ?_
  refine zg rfl (sem_convI .i64 .u8 ((ByteArray.size s1 : Nat)) rfl TF.int_3 TF.int_5 ?_)
  refine zg rfl (sem_buildSliceL [(0, (.int .u8 (IntKind.wrap .u8 (Int.fdiv ((ByteArray.size s1 : Nat)) (2 ^ (min (Int.toNat (8)) (IntKind.bits .i64))))))), (1, (.int .u8 (IntKind.wrap .u8 ((ByteArray.size s1 : Nat)))))] [(.int .u8 (IntKind.wrap .u8 (Int.fdiv ((ByteArray.size s1 : Nat)) (2 ^ (min (Int.toNat (8)) (IntKind.bits .i64)))))), (.int .u8 (IntKind.wrap .u8 ((ByteArray.size s1 : Nat))))] TF.slc_63 TF.zero_5 rfl (by decide) (by decide) rfl rfl (fun k3 hb1 hb2 h4 hb3 => ?_))
  have s := s k3 hb1 hb2 h4 hb3
  refine zg rfl (sem_convW ((.slice (some ⟨k3, 0, none⟩) 2 2)) rfl (semH_mono (fun v h6 hv => ?_) s))
  obtain ⟨s5, rfl, s⟩ := hv
  refine au 1 rfl ?_
  obtain ⟨hi0, s⟩ := s
  refine zg rfl (sem_strAdd s5 s1 rfl rfl hi0 ?_)
  refine au 6 rfl ?_
  refine zcall s rfl rfl TF.goes_101 ?_
  rintro _ h7 ⟨i8, rfl, s⟩
  refine zcall s rfl rfl TF.goes_100 ?_
  rintro _ h9 ⟨s10, rfl, s⟩
  obtain ⟨hi0, s⟩ := s
  refine zg rfl (sem_strAdd (s5 ++ s1) s10 rfl rfl hi0 ?_)
  refine au 2 rfl ?_
  exact zr (s.imp fun _ q => ⟨_, rfl, q⟩)
theorem C_tome_Tome_All.of {B : RO} {p1 : Option Addr} {h : Heap} {Q : Value → Heap → Prop} (s : S_tome_Tome_All B p1 h Q) : C_tome_Tome_All B p1 h Q := by
 refine zspec Try.func92 [ResultVar.tmp 2] rfl rfl rfl rfl rfl ?_
 refine au 2 rfl ?_
 refine zb1 s rfl rfl rfl rfl fun k3 h4 s => ?_
 refine au 7 rfl ?_
 exact zr (s.imp fun _ q => ⟨_, rfl, q⟩)
theorem C_cell_Row_file_File_is.of {B : RO} {p1 : Option Addr} {i2 : Int} {h : Heap} {Q : Bool → Heap → Prop} (s : S_cell_Row_file_File_is B p1 i2 h Q) : C_cell_Row_file_File_is B p1 i2 h Q := by
 refine zspec Try.func94 [ResultVar.tmp 4] rfl rfl rfl rfl rfl ?_
 refine au 7 rfl ?_
 by_cases hb4 : p1 = none
 ·replace s := s.1 hb4
  refine zg rfl (sem_ptrNilT p1 (.inr rfl) false rfl rfl TF.ptr_162 hb4 rfl ?_)
  refine au 15 rfl ?_
  exact zr (s.imp fun _ q => ⟨_, rfl, q⟩)
 ·replace s := s.2 hb4
  refine zg rfl (sem_ptrNilF p1 (.inr rfl) true rfl rfl TF.ptr_162 hb4 rfl ?_)
  refine au 2 rfl ?_
  refine zt s rfl rfl rfl binI_geq_t binI_geq_f (fun s => ?_) fun s => ?_
  ·refine au 4 rfl ?_
   refine znil s rfl rfl fun A5 s => ?_
   refine au 1 rfl ?_
   refine Run.ldSl s fun a7 n8 c9 h10 hl s => ?_
   refine zg rfl (sem_load1 A5 ((.slice a7 n8 c9)) rfl TF.agg_197 hl ?_)
   refine zg rfl (sem_lenSl a7 n8 c9 rfl TF.sl_197 ?_)
   refine au 4 rfl ?_
   exact zr (s.imp fun _ q => ⟨_, rfl, q⟩)
  ·refine au 12 rfl ?_
   exact zr (s.imp fun _ q => ⟨_, rfl, q⟩)
theorem C_draft_Draft_file_File_All_1.of {B : RO} {v1 : Value} {A2 : Addr} {h : Heap} {Q : Heap → Prop} (s : S_draft_Draft_file_File_All_1 B v1 A2 h Q) : C_draft_Draft_file_File_All_1 B v1 A2 h Q := by
 refine zspec Try.func95 [] rfl rfl rfl rfl rfl ?_
 refine au 3 rfl ?_
 refine zl s rfl rfl TF.agg_69 fun p3 s => ?_
 by_cases hb4 : p3 = none
 ·replace s := s.1 hb4
  refine zg rfl (sem_ptrNilT p3 (.inl rfl) true rfl rfl TF.ptr_69 hb4 rfl ?_)
  refine au 2 rfl ?_
  exact zr (s.imp fun _ q => ⟨rfl, q⟩)
 ·replace s := s.2 hb4
  refine zg rfl (sem_ptrNilF p3 (.inl rfl) false rfl rfl TF.ptr_69 hb4 rfl ?_)
  refine au 5 rfl ?_
  refine zl s rfl rfl TF.agg_69 fun p5 s => ?_
  refine znil s rfl rfl fun A6 s => ?_
  refine au 1 rfl ?_
  refine Run.ldSl s fun a8 n9 c10 h11 hl s => ?_
  refine zg rfl (sem_load1 A6 ((.slice a8 n9 c10)) rfl TF.agg_70 hl ?_)
  refine zg rfl (sem_lenSl a8 n9 c10 rfl TF.sl_70 ?_)
  refine au 3 rfl ?_
  obtain ⟨J17, m15, h0, s⟩ := s
  refine Run.of_fin (h0.imp fun h' h0 => ?_)
  refine Run.loop (σ := Int × Nat) (fun x e h => J17 x.1 x.2 h ∧ Agree [(0, v1), (10, (.slice a8 n9 c10)), (11, (.int .i64 ((n9 : Nat)))), (12, (.int .i64 (x.1)))] e) (fun x => x.2) ((0), m15) ⟨h0, ⟨rfl, rfl, rfl, rfl, trivial⟩⟩ ?_; clear h0
  rintro ⟨i12, m14⟩ e h13 ⟨hJ, hag⟩ ih16
  have s := s i12 m14 h13 hJ; clear hJ
  refine Run.env hag ?_; clear hag
  refine au 2 rfl ?_
  refine zt s rfl rfl rfl binI_lss_t binI_lss_f (fun s => ?_) fun s => ?_
  ·refine au 8 rfl ?_
   obtain ⟨A18, e19, hi0, hi1, s⟩ := s
   refine zg rfl (sem_indexAddrS A18 n9 c10 .i64 (i12) (congrArg (fun a => Value.slice a n9 c10) e19) rfl TF.slc_70 hi0 hi1 ?_)
   obtain ⟨i20, b21, s22, hl, s⟩ := s
   refine zn hl rfl rfl TF.agg_202 TF.sz_202 rfl ?_
   refine zal s rfl TF.zero_202 rfl fun k23 h24 s => ?_
   refine zsn s rfl rfl rfl TF.sz_202 rfl fun h25 s => ?_
   refine au 5 rfl ?_
   refine zl s rfl rfl TF.agg_3 fun i26 s => ?_
   refine au 1 rfl ?_
   obtain ⟨b27, s28, hl, s⟩ := s
   refine zn hl rfl rfl TF.agg_111 TF.sz_111 rfl ?_
   refine zg rfl (sem_callV (v1) [(.int .i64 (i26)), (.agg #[(.bool b27), (.string s28)])] rfl rfl s (fun nx h' ha => ha.mono fun v h29 hv => ?_))
   obtain ⟨b30, rfl, s⟩ := hv
   cases b30
   ·replace s := s.2 rfl
    refine au 3 rfl ?_
    exact zr (s.imp fun _ q => ⟨rfl, q⟩)
   ·replace s := s.1 rfl
    refine au 9 rfl ?_
    exact Run.of_fin (s.imp fun h' ⟨m', hm, s⟩ => ih16 ((IntKind.wrap .i64 ((i12) + (1))), m') _ _ ⟨s, ⟨rfl, rfl, rfl, rfl, trivial⟩⟩ hm)
  ·refine au 4 rfl ?_
   exact zf (s.imp fun _ q => ⟨rfl, q⟩)
theorem C_wafer_All.of {B : RO} {s1 : ByteArray} {h : Heap} {Q : Value → Heap → Prop} (s : S_wafer_All B s1 h Q) : C_wafer_All B s1 h Q := by
 refine zspec Try.func96 [ResultVar.tmp 2] rfl rfl rfl rfl rfl ?_
 refine au 2 rfl ?_
 refine zb1 s rfl rfl rfl rfl fun k3 h4 s => ?_
 refine au 7 rfl ?_
 exact zr (s.imp fun _ q => ⟨_, rfl, q⟩)
theorem C_wal_Log_All_1.of {B : RO} {v1 : Value} {A2 : Addr} {h : Heap} {Q : Heap → Prop} (s : S_wal_Log_All_1 B v1 A2 h Q) : C_wal_Log_All_1 B v1 A2 h Q := by
 refine zspec Try.func97 [] rfl rfl rfl rfl rfl ?_
 refine au 2 rfl ?_
 obtain ⟨hone, s⟩ := s
 refine zg rfl (sem_box1N (v1) rfl hone (fun k3 hb1 hb2 h4 hb3 => ?_))
 have s := s k3 hb1 hb2 h4 hb3
 refine au 4 rfl ?_
 refine zl s rfl rfl TF.agg_133 fun p5 s => ?_
 by_cases hb6 : p5 = none
 ·replace s := s.1 hb6
  refine zg rfl (sem_ptrNilT p5 (.inl rfl) true rfl rfl TF.ptr_133 hb6 rfl ?_)
  refine au 2 rfl ?_
  exact zr (s.imp fun _ q => ⟨rfl, q⟩)
 ·replace s := s.2 hb6
  refine zg rfl (sem_ptrNilF p5 (.inl rfl) false rfl rfl TF.ptr_133 hb6 rfl ?_)
  refine au 4 rfl ?_
  refine Run.drawM (fun h' => h' = h4) [8, 9] ⟨[0, 1, 2, 4, 0, 16, 32, 64, 136, 256], [1023, 1022, 1021, 1019, 1023, 1007, 991, 959, 887, 767], [0, 1, 3, 7, 0, 16, 48, 112, 255, 511], 768⟩ (.q 0 (.q 1 (.q 2 (.q 3 (.q 4 (.q 5 (.q 6 (.q 7 (.x 8 (.x 9 .nil .no) .no))))))))) TF.mixed (by kernel_rfl) rfl ?_
  obtain ⟨p7, hl, s⟩ := s
  refine zqe rfl (sem_load1 A2 ((.pointer p7)) rfl TF.agg_133 hl ⟨rfl, rfl⟩) ?_
  obtain ⟨A8, e9, s⟩ := s
  refine zqe rfl (sem_nilCheck A8 (congrArg Value.pointer e9) ⟨rfl, rfl⟩) ?_
  refine auT 1 rfl ?_
  obtain ⟨p10, hl, s⟩ := s
  refine zqe rfl (sem_load1 A8 ((.pointer p10)) rfl TF.agg_23 hl ⟨rfl, rfl⟩) ?_
  obtain ⟨p11, hl, s⟩ := s
  refine zqe rfl (sem_load1 A2 ((.pointer p11)) rfl TF.agg_133 hl ⟨rfl, rfl⟩) ?_
  obtain ⟨A12, e13, s⟩ := s
  refine zqe rfl (sem_nilCheck A12 (congrArg Value.pointer e13) ⟨rfl, rfl⟩) ?_
  refine auT 1 rfl ?_
  obtain ⟨i14, hl, s⟩ := s
  refine zqe rfl (sem_load1 (Addr.add A12 1) ((.int .i64 (i14))) rfl TF.agg_3 hl ⟨rfl, rfl⟩) ?_
  refine ⟨zo rfl (sem_callL [(.pointer p10), (.int .i64 (i14))] (TF.goes_80) rfl rfl (Spec.mono s fun v h15 hv => ?_)), trivial⟩
  obtain ⟨s16, rfl, s⟩ := hv
  refine ⟨fun hz => Bool.noConfusion hz, ?_⟩
  refine ⟨zo rfl (sem_callL [(.string s16)] (TF.goes_96) rfl rfl (Spec.mono s fun v18 h17 hv => ?_)), trivial⟩
  obtain ⟨_, rfl, s⟩ := hv
  refine ⟨fun hz => Bool.noConfusion hz, ?_⟩
  refine au 1 rfl ?_
  obtain ⟨xs24, G20, J23, hit, hins, hG, h0, s, hR⟩ := s
  refine Run.of_fin (h0.imp fun h' h0 => ?_)
  refine Run.range (v18) (xs24.map (fun x : ByteArray => [(.string x)])) G20 J23 rfl hit hins hG h0 rfl (fun a ha => by obtain ⟨x, _, rfl⟩ := List.mem_map.1 ha; rfl) ?_ ?_
  ·rintro q22 args h21 ha hJ
   obtain ⟨s19, hx, rfl⟩ := Option.map_eq_some_iff.1 ((List.getElem?_map ..).symm.trans ha)
   have s := s q22 h21 s19 hx hJ; clear hJ hx ha
   refine zput rfl ?_
   refine au 3 rfl ?_
   refine Run.begin ⟨rfl, ?_⟩
   refine au 3 rfl ?_
   refine zl s rfl rfl TF.agg_204 fun v25 s => ?_
   refine au 1 rfl ?_
   refine zg rfl (sem_callV (v25) [(.string s19)] rfl rfl s (fun nx h' ha => ha.mono fun v h26 hv => ?_))
   obtain ⟨b27, rfl, s⟩ := hv
   cases b27
   ·replace s := s.2 rfl
    refine au 3 rfl ?_
    refine Run.ret (.inr ⟨_, rfl, ?_⟩)
    exact zr (s.imp fun _ q => ⟨rfl, q⟩)
   ·replace s := s.1 rfl
    refine au 5 rfl ?_
    refine Run.of_fin (s.imp fun h' s => ?_)
    exact Run.fall (.inl ⟨rfl, s⟩)
  ·intro h21 hJ
   have s := hR h21 (by simpa using hJ); clear hJ hR
   refine au 1 rfl ?_
   exact zf (s.imp fun _ q => ⟨rfl, q⟩)
theorem C_file_Good.of {B : RO} {b1 : Bool} {s2 : ByteArray} {h : Heap} {Q : Bool → Heap → Prop} (s : S_file_Good B b1 s2 h Q) : C_file_Good B b1 s2 h Q := by
 refine zspec Try.func98 [ResultVar.tmp 2] rfl rfl rfl rfl rfl ?_
 refine au 2 rfl ?_
 refine zbn s rfl rfl rfl fun k4 h5 s => ?_
 refine au 5 rfl ?_
 refine zl s rfl rfl TF.agg_9 fun s6 s => ?_
 refine zg rfl (sem_lenStr s6 rfl TF.isStr_9 ?_)
 refine zt s rfl rfl rfl binI_leq_t binI_leq_f (fun s => ?_) fun s => ?_
 ·refine au 2 rfl ?_
  refine zl s rfl rfl TF.agg_4 fun b7 s => ?_
  cases b7
  ·replace s := s.2 rfl
   refine au 2 rfl ?_
   refine zl s rfl rfl TF.agg_9 fun s8 s => ?_
   refine zg rfl (sem_strEq s8 (ByteArray.mk #[]) rfl rfl ?_)
   refine au 4 rfl ?_
   exact zr (s.imp fun _ q => ⟨_, rfl, q⟩)
  ·replace s := s.1 rfl
   refine au 8 rfl ?_
   exact zr (s.imp fun _ q => ⟨_, rfl, q⟩)
 ·refine au 11 rfl ?_
  exact zr (s.imp fun _ q => ⟨_, rfl, q⟩)
theorem C_cell_Row_file_File_Set.of {B : RO} {p1 : Option Addr} {i2 : Int} {b3 : Bool} {s4 : ByteArray} {i5 : Int} {h : Heap} {Q : Bool → Heap → Prop} (s : S_cell_Row_file_File_Set B p1 i2 b3 s4 i5 h Q) : C_cell_Row_file_File_Set B p1 i2 b3 s4 i5 h Q := by
 refine zspec Try.func99 [ResultVar.tmp 8] rfl rfl rfl rfl rfl ?_
 refine au 2 rfl ?_
 refine zbn s rfl rfl rfl fun k7 h8 s => ?_
 refine au 7 rfl ?_
 refine zcall s rfl rfl TF.goes_94 ?_
 rintro _ h9 ⟨b10, rfl, s⟩
 cases b10
 ·replace s := s.2 rfl
  refine au 7 rfl ?_
  exact zr (s.imp fun _ q => ⟨_, rfl, q⟩)
 ·replace s := s.1 rfl
  refine au 5 rfl ?_
  refine Run.drawM (fun h' => h' = h9) [9] ⟨[0, 1, 2, 4, 0, 0, 0, 96, 255, 511], [1023, 1022, 1021, 1019, 1023, 1023, 1023, 927, 999, 639], [0, 1, 3, 7, 0, 0, 0, 96, 255, 511], 512⟩ (.q 0 (.q 1 (.q 2 (.q 3 (.q 4 (.q 5 (.q 6 (.q 7 (.q 8 (.x 9 .nil .no)))))))))) TF.mixed (by kernel_rfl) rfl ?_
  refine auT 1 rfl ?_
  obtain ⟨A11, e12, s⟩ := s
  refine zqe rfl (sem_nilCheck A11 (congrArg Value.pointer e12) ⟨rfl, rfl⟩) ?_
  refine auT 1 rfl ?_
  obtain ⟨a13, n14, c15, hl, s⟩ := s
  refine zqe rfl (sem_load1 A11 ((.slice a13 n14 c15)) rfl TF.agg_197 hl ⟨rfl, rfl⟩) ?_
  refine auT 1 rfl ?_
  obtain ⟨b16, s17, hl, s⟩ := s
  refine zqe rfl (sem_loadN ⟨k7, 0, none⟩ [(.bool b16), (.string s17)] rfl TF.agg_111 TF.sz_111 hl ⟨rfl, rfl⟩) ?_
  refine auT 1 rfl ?_
  refine zqe rfl (sem_buildSL [(0, (.agg #[(.bool b16), (.string s17)])), (1, (.int .i64 (i5)))] [(.bool b16), (.string s17), (.int .i64 (i5))] TF.zero_196 TF.places_196 rfl rfl ⟨rfl, rfl⟩) ?_
  obtain ⟨A18, e19, hi0, hi1, s⟩ := s
  refine zqe rfl (sem_indexAddrS A18 n14 c15 .i64 (i2) (congrArg (fun a => Value.slice a n14 c15) e19) rfl TF.slc_197 hi0 hi1 ⟨rfl, rfl⟩) ?_
  obtain ⟨h20, hst, s⟩ := s
  refine ⟨zo0 rfl (sem_storeN (Addr.add A18 (Int.toNat (i2) * 3)) [(.bool b16), (.string s17), (.int .i64 (i5))] h20 rfl rfl TF.sz_196 hst ?_), trivial⟩
  refine ⟨fun hz => Bool.noConfusion hz, ?_⟩
  refine au 4 rfl ?_
  exact zr (s.imp fun _ q => ⟨_, rfl, q⟩)
theorem C_wafer_foots.of {B : RO} {i1 : Int} {h : Heap} {Q : ByteArray → Heap → Prop} (s : S_wafer_foots B i1 h Q) : C_wafer_foots B i1 h Q := by
 refine zspec Try.func100 [ResultVar.tmp 2] rfl rfl rfl rfl rfl ?_
 refine au 7 rfl ?_
 refine zg rfl (sem_convI .u32 .u8 (i1) rfl TF.int_207 TF.int_5 ?_)
 refine au 1 rfl ?_
 obtain ⟨hi0, s⟩ := s
 refine zg rfl (sem_shr .u32 .u64 (i1) (8) rfl rfl hi0 ?_)
 refine zg rfl (sem_convI .u32 .u8 (Int.fdiv (i1) (2 ^ (min (Int.toNat (8)) (IntKind.bits .u32)))) rfl TF.int_207 TF.int_5 ?_)
 refine au 1 rfl ?_
 obtain ⟨hi0, s⟩ := s
 refine zg rfl (sem_shr .u32 .u64 (i1) (16) rfl rfl hi0 ?_)
 refine zg rfl (sem_convI .u32 .u8 (Int.fdiv (i1) (2 ^ (min (Int.toNat (16)) (IntKind.bits .u32)))) rfl TF.int_207 TF.int_5 ?_)
 refine au 1 rfl ?_
 obtain ⟨hi0, s⟩ := s
 refine zg rfl (sem_shr .u32 .u64 (i1) (24) rfl rfl hi0 ?_)
 refine zg rfl (sem_convI .u32 .u8 (Int.fdiv (i1) (2 ^ (min (Int.toNat (24)) (IntKind.bits .u32)))) rfl TF.int_207 TF.int_5 ?_)
 refine zg rfl (sem_buildSliceL [(0, (.int .u8 (IntKind.wrap .u8 (i1)))), (1, (.int .u8 (IntKind.wrap .u8 (Int.fdiv (i1) (2 ^ (min (Int.toNat (8)) (IntKind.bits .u32))))))), (2, (.int .u8 (IntKind.wrap .u8 (Int.fdiv (i1) (2 ^ (min (Int.toNat (16)) (IntKind.bits .u32))))))), (3, (.int .u8 (IntKind.wrap .u8 (Int.fdiv (i1) (2 ^ (min (Int.toNat (24)) (IntKind.bits .u32)))))))] [(.int .u8 (IntKind.wrap .u8 (i1))), (.int .u8 (IntKind.wrap .u8 (Int.fdiv (i1) (2 ^ (min (Int.toNat (8)) (IntKind.bits .u32)))))), (.int .u8 (IntKind.wrap .u8 (Int.fdiv (i1) (2 ^ (min (Int.toNat (16)) (IntKind.bits .u32)))))), (.int .u8 (IntKind.wrap .u8 (Int.fdiv (i1) (2 ^ (min (Int.toNat (24)) (IntKind.bits .u32))))))] TF.slc_63 TF.zero_5 rfl (by decide) (by decide) rfl rfl (fun k3 hb1 hb2 h4 hb3 => ?_))
 have s := s k3 hb1 hb2 h4 hb3
 refine zg rfl (sem_convW ((.slice (some ⟨k3, 0, none⟩) 4 4)) rfl (semH_mono (fun v h6 hv => ?_) s))
 obtain ⟨s5, rfl, s⟩ := hv
 refine au 2 rfl ?_
 exact zr (s.imp fun _ q => ⟨_, rfl, q⟩)
theorem C_wafer_Sum.of {B : RO} {s1 : ByteArray} {h : Heap} {Q : Int → Heap → Prop} (s : S_wafer_Sum B s1 h Q) : C_wafer_Sum B s1 h Q := by
 refine zspec Try.func101 [ResultVar.tmp 2] rfl rfl rfl rfl rfl ?_
 refine au 12 rfl ?_
 refine zg rfl (sem_lenStr s1 rfl TF.isStr_9 ?_)
 refine au 3 rfl ?_
 obtain ⟨J9, m7, h0, s⟩ := s
 refine Run.of_fin (h0.imp fun h' h0 => ?_)
 refine Run.loop (σ := Int × Int × Nat) (fun x e h => J9 x.1 x.2.1 x.2.2 h ∧ Agree [(0, (.string s1)), (3, (.int .u32 (x.1))), (6, (.int .i64 ((ByteArray.size s1 : Nat)))), (7, (.int .i64 (x.2.1)))] e) (fun x => x.2.2) ((4294967295), (0), m7) ⟨h0, ⟨rfl, rfl, rfl, rfl, trivial⟩⟩ ?_; clear h0
 rintro ⟨i3, i4, m6⟩ e h5 ⟨hJ, hag⟩ ih8
 have s := s i3 i4 m6 h5 hJ; clear hJ
 refine Run.env hag ?_; clear hag
 refine au 2 rfl ?_
 refine zt s rfl rfl rfl binI_lss_t binI_lss_f (fun s => ?_) fun s => ?_
 ·refine au 16 rfl ?_
  obtain ⟨hi0, hi1, s⟩ := s
  refine zg rfl (sem_indexStr' s1 .i64 (i4) rfl rfl TF.isStr_9 hi0 hi1 ?_)
  refine zg rfl (sem_convI .u8 .u32 (byteAt s1 (Int.toNat (i4))) rfl TF.int_5 TF.int_207 ?_)
  refine au 8 rfl ?_
  obtain ⟨J16, m14, h0, s⟩ := s
  refine Run.of_fin (h0.imp fun h' h0 => ?_)
  refine Run.loop (σ := Int × Int × Nat) (fun x e h => J16 x.1 x.2.1 x.2.2 h ∧ Agree [(0, (.string s1)), (3, (.int .u32 (x.1))), (6, (.int .i64 ((ByteArray.size s1 : Nat)))), (7, (.int .i64 (i4))), (16, (.int .i64 (x.2.1)))] e) (fun x => x.2.2) ((IntKind.wrap .u32 ((BitVec.ofInt (IntKind.bits .u32) (i3) ^^^ BitVec.ofInt (IntKind.bits .u32) (IntKind.wrap .u32 (byteAt s1 (Int.toNat (i4))))).toNat : Int)), (0), m14) ⟨h0, ⟨rfl, rfl, rfl, rfl, rfl, trivial⟩⟩ ?_; clear h0
  rintro ⟨i10, i11, m13⟩ e h12 ⟨hJ, hag⟩ ih15
  have s := s i10 i11 m13 h12 hJ; clear hJ
  refine Run.env hag ?_; clear hag
  refine au 2 rfl ?_
  refine zt s rfl rfl rfl binI_lss_t binI_lss_f (fun s => ?_) fun s => ?_
  ·refine au 8 rfl ?_
   obtain ⟨hi0, s⟩ := s
   refine zg rfl (sem_shr .u32 .u64 (i10) (1) rfl rfl hi0 ?_)
   refine au 2 rfl ?_
   refine zg rfl (sem_neg .u32 (IntKind.wrap .u32 ((BitVec.ofInt (IntKind.bits .u32) (i10) &&& BitVec.ofInt (IntKind.bits .u32) (1)).toNat : Int)) rfl ?_)
   refine au 9 rfl ?_
   exact Run.of_fin (s.imp fun h' ⟨m', hm, s⟩ => ih15 ((IntKind.wrap .u32 ((BitVec.ofInt (IntKind.bits .u32) (Int.fdiv (i10) (2 ^ (min (Int.toNat (1)) (IntKind.bits .u32)))) ^^^ BitVec.ofInt (IntKind.bits .u32) (IntKind.wrap .u32 ((BitVec.ofInt (IntKind.bits .u32) (2197175160) &&& BitVec.ofInt (IntKind.bits .u32) (IntKind.wrap .u32 (0 - (IntKind.wrap .u32 ((BitVec.ofInt (IntKind.bits .u32) (i10) &&& BitVec.ofInt (IntKind.bits .u32) (1)).toNat : Int))))).toNat : Int))).toNat : Int)), (IntKind.wrap .i64 ((i11) + (1))), m') _ _ ⟨s, ⟨rfl, rfl, rfl, rfl, rfl, trivial⟩⟩ hm)
  ·refine au 9 rfl ?_
   exact Run.of_fin (s.imp fun h' ⟨m', hm, s⟩ => ih8 ((i10), (IntKind.wrap .i64 ((i4) + (1))), m') _ _ ⟨s, ⟨rfl, rfl, rfl, rfl, trivial⟩⟩ hm)
 ·refine au 7 rfl ?_
  refine zg rfl (sem_xorU .u32 (i3) rfl (.int .u32 (IntKind.wrap .u32 (((BitVec.ofInt (IntKind.bits .u32) (if IntKind.signed .u32 then (-1 : Int) else IntKind.max .u32) ^^^ BitVec.ofInt (IntKind.bits .u32) (i3)).toNat : Int)))) ⟨rfl, rfl⟩ ?_)
  refine au 2 rfl ?_
  exact zr (s.imp fun _ q => ⟨_, rfl, q⟩)
theorem C_tome_Tome_All_1.of {B : RO} {v1 : Value} {A2 : Addr} {h : Heap} {Q : Heap → Prop} (s : S_tome_Tome_All_1 B v1 A2 h Q) : C_tome_Tome_All_1 B v1 A2 h Q := by
 refine zspec Try.func102 [] rfl rfl rfl rfl rfl ?_
 refine au 2 rfl ?_
 obtain ⟨hone, s⟩ := s
 refine zg rfl (sem_box1N (v1) rfl hone (fun k3 hb1 hb2 h4 hb3 => ?_))
 have s := s k3 hb1 hb2 h4 hb3
 refine au 4 rfl ?_
 refine zl s rfl rfl TF.agg_41 fun p5 s => ?_
 by_cases hb6 : p5 = none
 ·replace s := s.1 hb6
  refine zg rfl (sem_ptrNilT p5 (.inl rfl) true rfl rfl TF.ptr_41 hb6 rfl ?_)
  refine au 2 rfl ?_
  exact zr (s.imp fun _ q => ⟨rfl, q⟩)
 ·replace s := s.2 hb6
  refine zg rfl (sem_ptrNilF p5 (.inl rfl) false rfl rfl TF.ptr_41 hb6 rfl ?_)
  refine au 5 rfl ?_
  refine zl s rfl rfl TF.agg_41 fun p7 s => ?_
  refine znil s rfl rfl fun A8 s => ?_
  refine au 1 rfl ?_
  refine zl s rfl rfl TF.agg_162 fun p10 s => ?_
  refine zcall s rfl rfl TF.goes_103 ?_
  rintro v12 h11 ⟨_, rfl, s⟩
  refine au 2 rfl ?_
  obtain ⟨xs20, G16, J19, hit, hins, hG, h0, s, hR⟩ := s
  refine Run.of_fin (h0.imp fun h' h0 => ?_)
  refine Run.range (v12) (xs20.map (fun x : Int × Bool × ByteArray => [(.int .i64 (x.1)), (.agg #[(.bool x.2.1), (.string x.2.2)])])) G16 J19 rfl hit hins hG h0 rfl (fun a ha => by obtain ⟨x, _, rfl⟩ := List.mem_map.1 ha; rfl) ?_ ?_
  ·rintro q18 args h17 ha hJ
   obtain ⟨⟨i13, b14, s15⟩, hx, rfl⟩ := Option.map_eq_some_iff.1 ((List.getElem?_map ..).symm.trans ha)
   have s := s q18 h17 i13 b14 s15 hx hJ; clear hJ hx ha
   refine zput rfl ?_
   refine au 5 rfl ?_
   refine zal s rfl TF.zero_111 rfl fun k21 h22 s => ?_
   refine zsn s rfl rfl rfl TF.sz_111 rfl fun h23 s => ?_
   refine au 1 rfl ?_
   refine Run.begin ⟨rfl, ?_⟩
   refine au 4 rfl ?_
   refine zl s rfl rfl TF.agg_4 fun b24 s => ?_
   cases b24
   ·replace s := s.2 rfl
    refine au 11 rfl ?_
    refine Run.of_fin (s.imp fun h' s => ?_)
    exact Run.fall (.inl ⟨rfl, s⟩)
   ·replace s := s.1 rfl
    refine au 1 rfl ?_
    refine zl s rfl rfl TF.agg_200 fun v25 s => ?_
    refine au 1 rfl ?_
    obtain ⟨b26, s27, hl, s⟩ := s
    refine zn hl rfl rfl TF.agg_111 TF.sz_111 rfl ?_
    refine zg rfl (sem_callV (v25) [(.int .i64 (i13)), (.agg #[(.bool b26), (.string s27)])] rfl rfl s (fun nx h' ha => ha.mono fun v h28 hv => ?_))
    obtain ⟨b29, rfl, s⟩ := hv
    cases b29
    ·replace s := s.2 rfl
     refine au 4 rfl ?_
     refine Run.ret (.inr ⟨_, rfl, ?_⟩)
     exact zr (s.imp fun _ q => ⟨rfl, q⟩)
    ·replace s := s.1 rfl
     refine au 6 rfl ?_
     refine Run.of_fin (s.imp fun h' s => ?_)
     exact Run.fall (.inl ⟨rfl, s⟩)
  ·intro h17 hJ
   have s := hR h17 (by simpa using hJ); clear hJ hR
   refine au 1 rfl ?_
   exact zf (s.imp fun _ q => ⟨rfl, q⟩)
theorem C_cell_Row_file_File_All.of {B : RO} {p1 : Option Addr} {h : Heap} {Q : Value → Heap → Prop} (s : S_cell_Row_file_File_All B p1 h Q) : C_cell_Row_file_File_All B p1 h Q := by
 refine zspec Try.func103 [ResultVar.tmp 2] rfl rfl rfl rfl rfl ?_
 refine au 2 rfl ?_
 refine zb1 s rfl rfl rfl rfl fun k3 h4 s => ?_
 refine au 7 rfl ?_
 exact zr (s.imp fun _ q => ⟨_, rfl, q⟩)
theorem C_wafer_All_1.of {B : RO} {v1 : Value} {A2 : Addr} {h : Heap} {Q : Heap → Prop} (s : S_wafer_All_1 B v1 A2 h Q) : C_wafer_All_1 B v1 A2 h Q := by
 refine zspec Try.func105 [] rfl rfl rfl rfl rfl ?_
 refine au 2 rfl ?_
 refine zl s rfl rfl TF.agg_9 fun s3 s => ?_
 refine au 3 rfl ?_
 obtain ⟨J9, m7, h0, s⟩ := s
 refine Run.of_fin (h0.imp fun h' h0 => ?_)
 refine Run.loop (σ := ByteArray × Nat) (fun x e h => J9 x.1 x.2 h ∧ Agree [(0, v1), (3, (.string x.1))] e) (fun x => x.2) (s3, m7) ⟨h0, ⟨rfl, rfl, trivial⟩⟩ ?_; clear h0
 rintro ⟨s4, m6⟩ e h5 ⟨hJ, hag⟩ ih8
 have s := s s4 m6 h5 hJ; clear hJ
 refine Run.env hag ?_; clear hag
 refine au 4 rfl ?_
 refine zcall s rfl rfl TF.goes_106 ?_
 rintro _ h10 ⟨s11, i12, rfl, s⟩
 refine au 10 rfl ?_
 refine zt s rfl rfl rfl binI_eql_t binI_eql_f (fun s => ?_) fun s => ?_
 ·refine au 8 rfl ?_
  exact zr (s.imp fun _ q => ⟨rfl, q⟩)
 ·refine au 3 rfl ?_
  refine zg rfl (sem_callV (v1) [(.string s11)] rfl rfl s (fun nx h' ha => ha.mono fun v h13 hv => ?_))
  obtain ⟨b14, rfl, s⟩ := hv
  cases b14
  ·replace s := s.2 rfl
   refine au 4 rfl ?_
   exact zr (s.imp fun _ q => ⟨rfl, q⟩)
  ·replace s := s.1 rfl
   refine au 8 rfl ?_
   obtain ⟨hi0, hi1, hi2, s⟩ := s
   refine zg rfl (sem_sliceStrI s4 (i12) ((ByteArray.size s4 : Nat)) rfl TF.isStr_9 ⟨_, rfl⟩ rfl hi0 hi1 hi2 ?_)
   refine au 3 rfl ?_
   exact Run.of_fin (s.imp fun h' ⟨m', hm, s⟩ => ih8 ((ByteArray.extract s4 (Int.toNat (i12)) (Int.toNat ((ByteArray.size s4 : Nat)))), m') _ _ ⟨s, ⟨rfl, rfl, trivial⟩⟩ hm)
theorem C_wafer_Open.of {B : RO} {s1 : ByteArray} {h : Heap} {Q : ByteArray → Int → Heap → Prop} (s : S_wafer_Open B s1 h Q) : C_wafer_Open B s1 h Q := by
 refine zspec Try.func106 [ResultVar.tmp 2, ResultVar.tmp 3] rfl rfl rfl rfl rfl ?_
 refine au 9 rfl ?_
 refine zg rfl (sem_lenStr s1 rfl TF.isStr_9 ?_)
 refine zt s rfl rfl rfl binI_lss_t binI_lss_f (fun s => ?_) fun s => ?_
 ·refine au 7 rfl ?_
  exact zr (s.imp fun _ q => ⟨_, _, rfl, q⟩)
 ·refine au 4 rfl ?_
  refine Run.drawM (fun h' => h' = h) [] ⟨[0, 1, 2, 4, 0, 16, 32, 72, 255], [511, 510, 509, 507, 511, 495, 479, 439, 383], [0, 0, 0, 0, 0, 0, 0, 0, 0], 0⟩ (.q 0 (.q 1 (.q 2 (.q 3 (.q 4 (.q 5 (.q 6 (.q 7 (.q 8 .nil))))))))) TF.mixed (by kernel_rfl) rfl ?_
  refine auT 1 rfl ?_
  obtain ⟨hi0, hi1, s⟩ := s
  refine zqe rfl (sem_indexStr' s1 .i64 (0) rfl rfl TF.isStr_9 hi0 hi1 ⟨rfl, rfl⟩) ?_
  refine zqe rfl (sem_convI .u8 .i64 (byteAt s1 (Int.toNat (0))) rfl TF.int_5 TF.int_3 ⟨rfl, rfl⟩) ?_
  obtain ⟨hi0, s⟩ := s
  refine zqe rfl (sem_shl .i64 .u64 (IntKind.wrap .i64 (byteAt s1 (Int.toNat (0)))) (8) rfl rfl hi0 ⟨rfl, rfl⟩) ?_
  refine auT 1 rfl ?_
  obtain ⟨hi0, hi1, s⟩ := s
  refine zqe rfl (sem_indexStr' s1 .i64 (1) rfl rfl TF.isStr_9 hi0 hi1 ⟨rfl, rfl⟩) ?_
  refine zqe rfl (sem_convI .u8 .i64 (byteAt s1 (Int.toNat (1))) rfl TF.int_5 TF.int_3 ⟨rfl, rfl⟩) ?_
  refine auT 2 rfl ?_
  refine au 7 rfl ?_
  refine Run.seqJ (fun e h5 => Agree [(0, (.string s1)), (4, (.int .i64 (IntKind.wrap .i64 ((BitVec.ofInt (IntKind.bits .i64) (IntKind.wrap .i64 ((IntKind.wrap .i64 (byteAt s1 (Int.toNat (0)))) * 2 ^ (min (Int.toNat (8)) (IntKind.bits .i64)))) ||| BitVec.ofInt (IntKind.bits .i64) (IntKind.wrap .i64 (byteAt s1 (Int.toNat (1))))).toNat : Int)))), (5, (.int .i64 (IntKind.wrap .i64 ((IntKind.wrap .i64 ((2) + (IntKind.wrap .i64 ((BitVec.ofInt (IntKind.bits .i64) (IntKind.wrap .i64 ((IntKind.wrap .i64 (byteAt s1 (Int.toNat (0)))) * 2 ^ (min (Int.toNat (8)) (IntKind.bits .i64)))) ||| BitVec.ofInt (IntKind.bits .i64) (IntKind.wrap .i64 (byteAt s1 (Int.toNat (1))))).toNat : Int)))) + (4)))))] e ∧ S_wafer_Open_J1 B s1 h5 Q) ?_ fun j4 => ?_
  ·rintro e h5 ⟨hag, s⟩
   refine Run.env hag ?_; clear hag
   refine au 2 rfl ?_
   obtain ⟨hi0, hi1, hi2, s⟩ := s
   have f10 := hi0; have f11 := hi1; have f12 := hi2
   obtain ⟨hi0, hi1, hi2, s⟩ := s
   have f18 := hi0; have f19 := hi1; have f20 := hi2
   refine Run.drawM (fun h' => True) [] ⟨[0, 0, 2, 5, 8, 16, 0, 0, 128, 0, 832, 1056], [4095, 4095, 4093, 4090, 4087, 4079, 4095, 4095, 3967, 4095, 3263, 3039], [0, 0, 0, 0, 0, 0, 0, 0, 0, 0, 0, 0], 0⟩ (.q 0 (.q 1 (.q 2 (.q 3 (.q 6 (.q 7 (.q 8 (.q 9 (.q 10 (.x 4 (.x 5 (.q 11 .nil) .no) .no)))))))))) TF.mixed (by kernel_rfl) trivial ?_
   refine auT 3 rfl ?_
   refine zq rfl (fun _ hC => sem_sliceStrI s1 (0) (IntKind.wrap .i64 ((2) + (IntKind.wrap .i64 ((BitVec.ofInt (IntKind.bits .i64) (IntKind.wrap .i64 ((IntKind.wrap .i64 (byteAt s1 (Int.toNat (0)))) * 2 ^ (min (Int.toNat (8)) (IntKind.bits .i64)))) ||| BitVec.ofInt (IntKind.bits .i64) (IntKind.wrap .i64 (byteAt s1 (Int.toNat (1))))).toNat : Int)))) rfl TF.isStr_9 rfl ⟨_, rfl⟩ f10 f11 f12 ⟨rfl, rfl⟩) ?_
   refine auT 4 rfl ?_
   refine zq rfl (fun _ hC => sem_sliceStrI s1 (IntKind.wrap .i64 ((2) + (IntKind.wrap .i64 ((BitVec.ofInt (IntKind.bits .i64) (IntKind.wrap .i64 ((IntKind.wrap .i64 (byteAt s1 (Int.toNat (0)))) * 2 ^ (min (Int.toNat (8)) (IntKind.bits .i64)))) ||| BitVec.ofInt (IntKind.bits .i64) (IntKind.wrap .i64 (byteAt s1 (Int.toNat (1))))).toNat : Int)))) (IntKind.wrap .i64 ((IntKind.wrap .i64 ((2) + (IntKind.wrap .i64 ((BitVec.ofInt (IntKind.bits .i64) (IntKind.wrap .i64 ((IntKind.wrap .i64 (byteAt s1 (Int.toNat (0)))) * 2 ^ (min (Int.toNat (8)) (IntKind.bits .i64)))) ||| BitVec.ofInt (IntKind.bits .i64) (IntKind.wrap .i64 (byteAt s1 (Int.toNat (1))))).toNat : Int)))) + (4))) rfl TF.isStr_9 ⟨_, rfl⟩ ⟨_, rfl⟩ f18 f19 f20 ⟨rfl, rfl⟩) ?_
   refine ⟨zo rfl (sem_callL [(.string (ByteArray.extract s1 (Int.toNat (0)) (Int.toNat (IntKind.wrap .i64 ((2) + (IntKind.wrap .i64 ((BitVec.ofInt (IntKind.bits .i64) (IntKind.wrap .i64 ((IntKind.wrap .i64 (byteAt s1 (Int.toNat (0)))) * 2 ^ (min (Int.toNat (8)) (IntKind.bits .i64)))) ||| BitVec.ofInt (IntKind.bits .i64) (IntKind.wrap .i64 (byteAt s1 (Int.toNat (1))))).toNat : Int)))))))] (TF.goes_101) rfl rfl (Spec.mono s fun v h21 hv => ?_)), trivial⟩
   obtain ⟨i22, rfl, s⟩ := hv
   refine ⟨fun _ => trivial, ?_⟩
   refine ⟨zo rfl (sem_callL [(.int .u32 (i22))] (TF.goes_100) rfl rfl (Spec.mono s fun v h23 hv => ?_)), trivial⟩
   obtain ⟨s24, rfl, s⟩ := hv
   refine ⟨fun _ => trivial, ?_⟩
   by_cases hb25 : s24 = (ByteArray.extract s1 (Int.toNat (IntKind.wrap .i64 ((2) + (IntKind.wrap .i64 ((BitVec.ofInt (IntKind.bits .i64) (IntKind.wrap .i64 ((IntKind.wrap .i64 (byteAt s1 (Int.toNat (0)))) * 2 ^ (min (Int.toNat (8)) (IntKind.bits .i64)))) ||| BitVec.ofInt (IntKind.bits .i64) (IntKind.wrap .i64 (byteAt s1 (Int.toNat (1))))).toNat : Int))))) (Int.toNat (IntKind.wrap .i64 ((IntKind.wrap .i64 ((2) + (IntKind.wrap .i64 ((BitVec.ofInt (IntKind.bits .i64) (IntKind.wrap .i64 ((IntKind.wrap .i64 (byteAt s1 (Int.toNat (0)))) * 2 ^ (min (Int.toNat (8)) (IntKind.bits .i64)))) ||| BitVec.ofInt (IntKind.bits .i64) (IntKind.wrap .i64 (byteAt s1 (Int.toNat (1))))).toNat : Int)))) + (4)))))
   ·replace s := s.1 hb25
    refine zq rfl (fun _ _ => sem_strNeT s24 (ByteArray.extract s1 (Int.toNat (IntKind.wrap .i64 ((2) + (IntKind.wrap .i64 ((BitVec.ofInt (IntKind.bits .i64) (IntKind.wrap .i64 ((IntKind.wrap .i64 (byteAt s1 (Int.toNat (0)))) * 2 ^ (min (Int.toNat (8)) (IntKind.bits .i64)))) ||| BitVec.ofInt (IntKind.bits .i64) (IntKind.wrap .i64 (byteAt s1 (Int.toNat (1))))).toNat : Int))))) (Int.toNat (IntKind.wrap .i64 ((IntKind.wrap .i64 ((2) + (IntKind.wrap .i64 ((BitVec.ofInt (IntKind.bits .i64) (IntKind.wrap .i64 ((IntKind.wrap .i64 (byteAt s1 (Int.toNat (0)))) * 2 ^ (min (Int.toNat (8)) (IntKind.bits .i64)))) ||| BitVec.ofInt (IntKind.bits .i64) (IntKind.wrap .i64 (byteAt s1 (Int.toNat (1))))).toNat : Int)))) + (4))))) rfl rfl hb25 ⟨rfl, rfl⟩) ?_
    refine au 7 rfl ?_
    obtain ⟨hi0, hi1, hi2, s⟩ := s
    refine zg rfl (sem_sliceStrI s1 (2) (IntKind.wrap .i64 ((2) + (IntKind.wrap .i64 ((BitVec.ofInt (IntKind.bits .i64) (IntKind.wrap .i64 ((IntKind.wrap .i64 (byteAt s1 (Int.toNat (0)))) * 2 ^ (min (Int.toNat (8)) (IntKind.bits .i64)))) ||| BitVec.ofInt (IntKind.bits .i64) (IntKind.wrap .i64 (byteAt s1 (Int.toNat (1))))).toNat : Int)))) rfl TF.isStr_9 ⟨_, rfl⟩ ⟨_, rfl⟩ hi0 hi1 hi2 ?_)
    refine au 4 rfl ?_
    exact zr (s.imp fun _ q => ⟨_, _, rfl, q⟩)
   ·replace s := s.2 hb25
    refine zq rfl (fun _ _ => sem_strNeF s24 (ByteArray.extract s1 (Int.toNat (IntKind.wrap .i64 ((2) + (IntKind.wrap .i64 ((BitVec.ofInt (IntKind.bits .i64) (IntKind.wrap .i64 ((IntKind.wrap .i64 (byteAt s1 (Int.toNat (0)))) * 2 ^ (min (Int.toNat (8)) (IntKind.bits .i64)))) ||| BitVec.ofInt (IntKind.bits .i64) (IntKind.wrap .i64 (byteAt s1 (Int.toNat (1))))).toNat : Int))))) (Int.toNat (IntKind.wrap .i64 ((IntKind.wrap .i64 ((2) + (IntKind.wrap .i64 ((BitVec.ofInt (IntKind.bits .i64) (IntKind.wrap .i64 ((IntKind.wrap .i64 (byteAt s1 (Int.toNat (0)))) * 2 ^ (min (Int.toNat (8)) (IntKind.bits .i64)))) ||| BitVec.ofInt (IntKind.bits .i64) (IntKind.wrap .i64 (byteAt s1 (Int.toNat (1))))).toNat : Int)))) + (4))))) rfl rfl hb25 ⟨rfl, rfl⟩) ?_
    refine au 6 rfl ?_
    exact zr (s.imp fun _ q => ⟨_, _, rfl, q⟩)
  refine au 3 rfl ?_
  refine zt s rfl rfl rfl binI_gtr_t binI_gtr_f (fun s => ?_) fun s => ?_
  ·refine au 13 rfl ?_
   exact zr (s.imp fun _ q => ⟨_, _, rfl, q⟩)
  ·refine au 2 rfl ?_
   refine zg rfl (sem_lenStr s1 rfl TF.isStr_9 ?_)
   refine au 1 rfl ?_
   refine zt s rfl rfl rfl binI_lss_t binI_lss_f (fun s => ?_) fun s => ?_
   ·refine au 8 rfl ?_
    exact zr (s.imp fun _ q => ⟨_, _, rfl, q⟩)
   ·refine au 4 rfl ?_
    exact Run.of_fin (s.imp fun h' s => j4 _ _ ⟨⟨rfl, rfl, rfl, trivial⟩, s⟩)
theorem C_cell_Row_file_File_All_1.of {B : RO} {v1 : Value} {A2 : Addr} {h : Heap} {Q : Heap → Prop} (s : S_cell_Row_file_File_All_1 B v1 A2 h Q) : C_cell_Row_file_File_All_1 B v1 A2 h Q := by
 refine zspec Try.func107 [] rfl rfl rfl rfl rfl ?_
 refine au 3 rfl ?_
 refine zl s rfl rfl TF.agg_162 fun p3 s => ?_
 by_cases hb4 : p3 = none
 ·replace s := s.1 hb4
  refine zg rfl (sem_ptrNilT p3 (.inl rfl) true rfl rfl TF.ptr_162 hb4 rfl ?_)
  refine au 2 rfl ?_
  exact zr (s.imp fun _ q => ⟨rfl, q⟩)
 ·replace s := s.2 hb4
  refine zg rfl (sem_ptrNilF p3 (.inl rfl) false rfl rfl TF.ptr_162 hb4 rfl ?_)
  refine au 5 rfl ?_
  refine zl s rfl rfl TF.agg_162 fun p5 s => ?_
  refine znil s rfl rfl fun A6 s => ?_
  refine au 1 rfl ?_
  refine Run.ldSl s fun a8 n9 c10 h11 hl s => ?_
  refine zg rfl (sem_load1 A6 ((.slice a8 n9 c10)) rfl TF.agg_197 hl ?_)
  refine zg rfl (sem_lenSl a8 n9 c10 rfl TF.sl_197 ?_)
  refine au 3 rfl ?_
  obtain ⟨J17, m15, h0, s⟩ := s
  refine Run.of_fin (h0.imp fun h' h0 => ?_)
  refine Run.loop (σ := Int × Nat) (fun x e h => J17 x.1 x.2 h ∧ Agree [(0, v1), (10, (.slice a8 n9 c10)), (11, (.int .i64 ((n9 : Nat)))), (12, (.int .i64 (x.1)))] e) (fun x => x.2) ((0), m15) ⟨h0, ⟨rfl, rfl, rfl, rfl, trivial⟩⟩ ?_; clear h0
  rintro ⟨i12, m14⟩ e h13 ⟨hJ, hag⟩ ih16
  have s := s i12 m14 h13 hJ; clear hJ
  refine Run.env hag ?_; clear hag
  refine au 2 rfl ?_
  refine zt s rfl rfl rfl binI_lss_t binI_lss_f (fun s => ?_) fun s => ?_
  ·refine au 9 rfl ?_
   obtain ⟨A18, e19, hi0, hi1, s⟩ := s
   refine zg rfl (sem_indexAddrS A18 n9 c10 .i64 (i12) (congrArg (fun a => Value.slice a n9 c10) e19) rfl TF.slc_197 hi0 hi1 ?_)
   obtain ⟨b20, s21, i22, hl, s⟩ := s
   refine zn hl rfl rfl TF.agg_196 TF.sz_196 rfl ?_
   refine zal s rfl TF.zero_196 rfl fun k23 h24 s => ?_
   refine au 1 rfl ?_
   refine zsn s rfl rfl rfl TF.sz_196 rfl fun h25 s => ?_
   refine au 6 rfl ?_
   obtain ⟨b26, s27, hl, s⟩ := s
   refine zn hl rfl rfl TF.agg_111 TF.sz_111 rfl ?_
   refine zg rfl (sem_callV (v1) [(.int .i64 (i12)), (.agg #[(.bool b26), (.string s27)])] rfl rfl s (fun nx h' ha => ha.mono fun v h28 hv => ?_))
   obtain ⟨b29, rfl, s⟩ := hv
   cases b29
   ·replace s := s.2 rfl
    refine au 3 rfl ?_
    exact zr (s.imp fun _ q => ⟨rfl, q⟩)
   ·replace s := s.1 rfl
    refine au 9 rfl ?_
    exact Run.of_fin (s.imp fun h' ⟨m', hm, s⟩ => ih16 ((IntKind.wrap .i64 ((i12) + (1))), m') _ _ ⟨s, ⟨rfl, rfl, rfl, rfl, trivial⟩⟩ hm)
  ·refine au 4 rfl ?_
   exact zf (s.imp fun _ q => ⟨rfl, q⟩)
end Go.Proofs.Ytlehephbflgblaa.H
namespace Go.Proofs.Ytlehephbflgblaa.H
open Go
set_option linter.unusedVariables false
set_option maxRecDepth 100000
theorem byteAt_w {s : ByteArray} {i : Nat} (h : i < s.size) : ∃ b, (bl s)[i]? = some b ∧ byteAt s i = ((b.toNat : Nat) : Int) := by
  refine ⟨s[i], ?_, by unfold byteAt; rw [dif_pos h]⟩
  have h' : i < s.data.toList.length := by simpa using h
  show s.data.toList[i]? = some s[i]
  rw [List.getElem?_eq_getElem h']
  rfl
theorem bvIntU (n : Int) : BitVec.ofInt 32 (IntKind.wrap .u32 n) = BitVec.ofInt 32 n := by
  apply BitVec.eq_of_toNat_eq
  rw [BitVec.toNat_ofInt, BitVec.toNat_ofInt, wu32]
  congr 1
  show n % 4294967296 % 4294967296 = n % 4294967296
  omega
theorem progByte (c : BitVec 32) (b : UInt8) : IntKind.wrap .u32 (((BitVec.ofInt (IntKind.bits .u32) ((c.toNat : Nat) : Int) ^^^ BitVec.ofInt (IntKind.bits .u32) (IntKind.wrap .u32 ((b.toNat : Nat) : Int))).toNat : Nat) : Int) = (((c ^^^ BitVec.ofNat 32 b.toNat).toNat : Nat) : Int) := by
  show IntKind.wrap .u32 (((BitVec.ofInt 32 ((c.toNat : Nat) : Int) ^^^ BitVec.ofInt 32 (IntKind.wrap .u32 ((b.toNat : Nat) : Int))).toNat : Nat) : Int) = _
  rw [bvIntU, bvInt, BitVec.ofInt_natCast, wrapBv]
theorem progBit (c : BitVec 32) : IntKind.wrap .u32 (((BitVec.ofInt (IntKind.bits .u32) (Int.fdiv ((c.toNat : Nat) : Int) (2 ^ (min (Int.toNat (1)) (IntKind.bits .u32)))) ^^^ BitVec.ofInt (IntKind.bits .u32) (IntKind.wrap .u32 (((BitVec.ofInt (IntKind.bits .u32) (2197175160) &&& BitVec.ofInt (IntKind.bits .u32) (IntKind.wrap .u32 (0 - (IntKind.wrap .u32 (((BitVec.ofInt (IntKind.bits .u32) ((c.toNat : Nat) : Int) &&& BitVec.ofInt (IntKind.bits .u32) (1)).toNat : Nat) : Int))))).toNat : Nat) : Int))).toNat : Nat) : Int) = (((crcBit c).toNat : Nat) : Int) := by
  have e2 : (2 : Int) ^ (min (Int.toNat (1)) (IntKind.bits .u32)) = 2 := by decide
  rw [e2]
  show IntKind.wrap .u32 (((BitVec.ofInt 32 (Int.fdiv ((c.toNat : Nat) : Int) 2) ^^^ BitVec.ofInt 32 (IntKind.wrap .u32 (((BitVec.ofInt 32 (2197175160) &&& BitVec.ofInt 32 (IntKind.wrap .u32 (0 - (IntKind.wrap .u32 (((BitVec.ofInt 32 ((c.toNat : Nat) : Int) &&& BitVec.ofInt 32 (1)).toNat : Nat) : Int))))).toNat : Nat) : Int))).toNat : Nat) : Int) = _
  have e3 : BitVec.ofInt 32 1 = 1#32 := by decide
  have e4 : BitVec.ofInt 32 2197175160 = polyV := by decide
  have e5 : BitVec.ofInt 32 (Int.fdiv ((c.toNat : Nat) : Int) 2) = c >>> 1 := by
    rw [Int.fdiv_eq_ediv_of_nonneg _ (by omega)]
    show BitVec.ofInt 32 ((c.toNat / 2 : Nat) : Int) = _
    rw [← shr1_toNat, bvInt]
  have e6 : ∀ x : BitVec 32, BitVec.ofInt 32 (0 - ((x.toNat : Nat) : Int)) = -x := fun x => by
    apply BitVec.eq_of_toNat_eq
    rw [BitVec.toNat_ofInt, BitVec.toNat_neg]
    have := x.isLt
    show ((0 - ((x.toNat : Nat) : Int)) % ((4294967296 : Nat) : Int)).toNat = (4294967296 - x.toNat) % 4294967296
    omega
  rw [e3, e4, e5, bvInt, wrapBv (c &&& 1#32), bvIntU (0 - _), e6, bvIntU, bvInt, wrapBv]
  rfl
theorem crcRaw_take (l : List UInt8) (j : Nat) (b : UInt8) (h : l[j]? = some b) : crcRaw (l.take (j + 1)) = crcByte (crcRaw (l.take j)) b := by
  obtain ⟨hj, rfl⟩ := List.getElem?_eq_some_iff.1 h
  unfold crcRaw
  rw [List.take_succ_eq_append_getElem hj, List.foldl_append]; rfl
theorem le4_bytes {n : Nat} (h : n < 4294967296) : [(Value.int .u8 (IntKind.wrap .u8 ((n : Nat) : Int))), (Value.int .u8 (IntKind.wrap .u8 (Int.fdiv ((n : Nat) : Int) (2 ^ (min (Int.toNat (8)) (IntKind.bits .u32)))))), (Value.int .u8 (IntKind.wrap .u8 (Int.fdiv ((n : Nat) : Int) (2 ^ (min (Int.toNat (16)) (IntKind.bits .u32)))))), (Value.int .u8 (IntKind.wrap .u8 (Int.fdiv ((n : Nat) : Int) (2 ^ (min (Int.toNat (24)) (IntKind.bits .u32))))))] = (le4 n).map byteV := by
  have a1 : (2 : Int) ^ (min (Int.toNat (8)) (IntKind.bits .u32)) = 256 := by decide
  have a2 : (2 : Int) ^ (min (Int.toNat (16)) (IntKind.bits .u32)) = 65536 := by decide
  have a3 : (2 : Int) ^ (min (Int.toNat (24)) (IntKind.bits .u32)) = 16777216 := by decide
  rw [a1, a2, a3, Int.fdiv_eq_ediv_of_nonneg _ (by omega), Int.fdiv_eq_ediv_of_nonneg _ (by omega), Int.fdiv_eq_ediv_of_nonneg _ (by omega), wu8, wu8, wu8, wu8]
  unfold le4 byteV
  simp only [List.map_cons, List.map_nil, UInt8.toNat_ofNat']
  rfl
theorem hdr_bytes {n : Nat} (h : n ≤ 1024) : [(Value.int .u8 (IntKind.wrap .u8 (Int.fdiv ((n : Nat) : Int) (2 ^ (min (Int.toNat (8)) (IntKind.bits .i64)))))), (Value.int .u8 (IntKind.wrap .u8 ((n : Nat) : Int)))] = (hdrL n).map byteV := by
  have a1 : (2 : Int) ^ (min (Int.toNat (8)) (IntKind.bits .i64)) = 256 := by decide
  rw [a1, Int.fdiv_eq_ediv_of_nonneg _ (by omega), wu8, wu8]
  unfold hdrL byteV
  simp only [List.map_cons, List.map_nil, UInt8.toNat_ofNat']
  rfl
theorem TK.byteStr2 : byteStr PG TY.s_uint8 TY.string = true := by kernel_rfl
theorem TK.slc_strs : slcB PG TY.s_string = some (TY.string, 1, 16) := by kernel_rfl
theorem TK.zero_str : zeroB PG TY.string = some [.string ByteArray.empty] := by kernel_rfl
theorem TK.sl_strs : slT PG TY.s_string = true := by kernel_rfl
def strC (l : List UInt8) : List Value := [.string (ba l)]
theorem strC_len (l : List UInt8) : (strC l).length = 1 := rfl
section
variable {B : RO} {h h0 : Heap} {L : List (Option (Nat × AObj))}
theorem bytes_str {k n : Nat} {vs : List Value} {bs : List UInt8} {K : Value → Heap → Prop} (hk : h k = some (.vec TY.uint8 (plains vs) n)) (hv : vs = bs.map byteV) (hn : bs.length ≤ n) (hK : K (.string (ba bs)) h) :
    semH PG B (convert TY.s_uint8 TY.string (.slice (some ⟨k, 0, none⟩) bs.length bs.length)) h K := by
  subst hv
  refine semH_convB TK.byteStr2 (semH_bytesToString (e := TY.uint8) (bs := bs) (.inr ⟨k, bs.length, bs.length, n, [], rfl, by rw [List.append_nil]; exact hk, by simp, by omega, by omega⟩) hK)
theorem wsum_wp {s : ByteArray} {Q : Int → Heap → Prop} (hs : s.size ≤ 1099511627776) (hQ : Q ((crcL (bl s) : Nat) : Int) h) : C_wafer_Sum B s h Q := by
  refine C_wafer_Sum.of ?_
  unfold S_wafer_Sum
  refine ⟨fun a i m h' => ∃ j : Nat, j ≤ s.size ∧ i = j ∧ a = ((crcRaw ((bl s).take j)).toNat : Nat) ∧ m = s.size - j ∧ h' = h, s.size, Fin.of ⟨0, by omega, rfl, rfl, by omega, rfl⟩, ?_⟩
  rintro _ _ _ h5 ⟨j, hj, rfl, rfl, rfl, rfl⟩
  refine ⟨fun hlt => ⟨by omega, hlt, ?_⟩, fun hge => Fin.of ?_⟩
  · have hj' : j < s.size := by omega
    obtain ⟨b, hb1, hb2⟩ := byteAt_w hj'
    have e0 : Int.toNat (j : Int) = j := by omega
    rw [e0, hb2, progByte]
    refine ⟨fun a k m h' => ∃ (n : Nat) (c : BitVec 32), n ≤ 8 ∧ k = n ∧ a = (c.toNat : Nat) ∧ crcBits (8 - n) c = crcByte (crcRaw ((bl s).take j)) b ∧ m = 8 - n ∧ h' = h5, 8, Fin.of ⟨0, _, by omega, rfl, rfl, rfl, by omega, rfl⟩, ?_⟩
    rintro _ _ _ h13 ⟨n, c, hn, rfl, rfl, hc, rfl, rfl⟩
    refine ⟨fun h8 => ⟨by decide, Fin.of ?_⟩, fun h8 => Fin.of ?_⟩
    · rw [progBit]
      refine ⟨8 - (n + 1), by omega, n + 1, crcBit c, by omega, ?_, rfl, ?_, rfl, rfl⟩
      · rw [w64 (by omega) (by omega)]; omega
      · rw [← hc, show 8 - n = (8 - (n + 1)) + 1 by omega]; rfl
    · have : n = 8 := by omega
      subst this
      refine ⟨s.size - (j + 1), by omega, j + 1, by omega, ?_, ?_, rfl, rfl⟩
      · rw [w64 (by omega) (by omega)]; omega
      · rw [crcRaw_take _ _ _ hb1, ← hc]; rfl
  · have : j = s.size := by omega
    subst this
    rw [← bl_length, List.take_length]
    have e : IntKind.wrap .u32 (((BitVec.ofInt (IntKind.bits .u32) (if IntKind.signed .u32 then (-1 : Int) else IntKind.max .u32) ^^^ BitVec.ofInt (IntKind.bits .u32) (((crcRaw (bl s)).toNat : Nat) : Int)).toNat : Nat) : Int) = ((crcL (bl s) : Nat) : Int) := by
      have e1 : BitVec.ofInt (IntKind.bits .u32) (if IntKind.signed .u32 then (-1 : Int) else IntKind.max .u32) = (4294967295#32 : BitVec 32) := by
        show BitVec.ofInt 32 4294967295 = (4294967295#32 : BitVec 32)
        decide
      rw [e1]
      show IntKind.wrap .u32 (((4294967295#32 ^^^ BitVec.ofInt 32 (((crcRaw (bl s)).toNat : Nat) : Int)).toNat : Nat) : Int) = _
      rw [bvInt, wrapBv]; rfl
    rw [e]; exact hQ
theorem foots_wp {n : Nat} {Q : ByteArray → Heap → Prop} (hn : n < 4294967296) (hQ : Q (ba (le4 n)) h) : C_wafer_foots B ((n : Nat) : Int) h Q := by
  refine C_wafer_foots.of ?_
  unfold S_wafer_foots
  refine ⟨by decide, by decide, by decide, fun k a b h4 e4 => ?_⟩
  obtain ⟨g, l, -⟩ := Heap.made a e4
  exact bytes_str (bs := le4 n) g (le4_bytes hn) (by simp [le4]) ⟨_, rfl, Fin.ent (Ent.forget l) (Fin.of hQ)⟩
theorem wclose_wp {s : ByteArray} {Q : ByteArray → Heap → Prop} (hs : s.size ≤ 1099511627776) (hQ : Q (ba (closeL (bl s))) h) : C_wafer_Close B s h Q := by
  refine C_wafer_Close.of ?_
  unfold S_wafer_Close
  refine ⟨fun hgt => Fin.of ?_, fun hle => ⟨by decide, fun k a b h4 e4 => ?_⟩⟩
  · rw [closeL, if_pos (by rw [bl_length]; omega)] at hQ; exact hQ
  · obtain ⟨g, l, -⟩ := Heap.made a e4
    refine bytes_str (bs := hdrL s.size) g (hdr_bytes (by omega)) (by simp [hdrL]) ⟨_, rfl, ?_⟩
    have hz : (ba (hdrL s.size)).size = 2 := by rw [ba_size]; rfl
    refine ⟨by rw [hz]; omega, wsum_wp (by rw [ByteArray.size_append, hz]; omega) (foots_wp (crcL_lt _) ⟨by rw [ByteArray.size_append, hz, ba_size]; simp [le4]; omega, Fin.ent (Ent.forget l) (Fin.of ?_)⟩)⟩
    have : ba (closeL (bl s)) = ba (hdrL s.size) ++ s ++ ba (le4 (crcL (bl (ba (hdrL s.size) ++ s)))) := by
      apply bl_inj
      simp only [bl_ba, bl_append, closeL, bl_length]
      rw [if_neg (by omega)]
    rw [← this]; exact hQ
end
end Go.Proofs.Ytlehephbflgblaa.H
namespace Go.Proofs.Ytlehephbflgblaa.H
open Go
set_option linter.unusedVariables false
set_option maxRecDepth 100000
theorem orBytes (b0 b1 : UInt8) : IntKind.wrap .i64 (((BitVec.ofInt (IntKind.bits .i64) (IntKind.wrap .i64 ((IntKind.wrap .i64 ((b0.toNat : Nat) : Int)) * 2 ^ (min (Int.toNat (8)) (IntKind.bits .i64)))) ||| BitVec.ofInt (IntKind.bits .i64) (IntKind.wrap .i64 ((b1.toNat : Nat) : Int))).toNat : Nat) : Int) = ((b0.toNat * 256 + b1.toNat : Nat) : Int) := by
  have h0 := b0.toNat_lt
  have h1 := b1.toNat_lt
  have a1 : (2 : Int) ^ (min (Int.toNat (8)) (IntKind.bits .i64)) = 256 := by decide
  rw [a1, w64 (n := ((b0.toNat : Nat) : Int)) (by omega) (by omega), w64 (n := ((b1.toNat : Nat) : Int)) (by omega) (by omega), w64 (n := ((b0.toNat : Nat) : Int) * 256) (by omega) (by omega)]
  show IntKind.wrap .i64 (((BitVec.ofInt 64 (((b0.toNat : Nat) : Int) * 256) ||| BitVec.ofInt 64 ((b1.toNat : Nat) : Int)).toNat : Nat) : Int) = _
  have e : (BitVec.ofInt 64 (((b0.toNat : Nat) : Int) * 256) ||| BitVec.ofInt 64 ((b1.toNat : Nat) : Int)).toNat = b0.toNat * 256 + b1.toNat := by
    have e0 : (((b0.toNat : Nat) : Int) * 256) = ((b0.toNat * 256 : Nat) : Int) := by omega
    rw [e0, BitVec.ofInt_natCast, BitVec.ofInt_natCast, BitVec.toNat_or, BitVec.toNat_ofNat, BitVec.toNat_ofNat, Nat.mod_eq_of_lt (by omega), Nat.mod_eq_of_lt (by omega)]
    have := Nat.two_pow_add_eq_or_of_lt (i := 8) (b := b1.toNat) (by omega) b0.toNat
    rw [show b0.toNat * 256 = 2 ^ 8 * b0.toNat by omega, ← this]
  rw [e, w64 (by omega) (by omega)]
theorem two_bytes {s : ByteArray} (h : 2 ≤ s.size) : ∃ b0 b1 t, bl s = b0 :: b1 :: t ∧ byteAt s (Int.toNat 0) = ((b0.toNat : Nat) : Int) ∧ byteAt s (Int.toNat 1) = ((b1.toNat : Nat) : Int) ∧ t.length + 2 = s.size := by
  obtain ⟨b0, h0, e0⟩ := byteAt_w (s := s) (i := 0) (by omega)
  obtain ⟨b1, h1, e1⟩ := byteAt_w (s := s) (i := 1) (by omega)
  match hb : bl s, h0, h1 with
  | x :: y :: t, h0, h1 =>
    simp at h0 h1
    subst h0 h1
    refine ⟨_, _, t, rfl, e0, e1, ?_⟩
    rw [← bl_length, hb]; rfl
theorem openL_short {s : ByteArray} (h : s.size < 6) : openL (bl s) = none := by
  have hl := bl_length s
  unfold openL
  split
  · rename_i b0 b1 t e
    rw [e] at hl
    simp at hl
    simp only
    rw [if_pos (by omega)]
  · rfl
theorem openL_cons {b0 b1 : UInt8} {t : List UInt8} : openL (b0 :: b1 :: t) = if 1024 < b0.toNat * 256 + b1.toNat ∨ t.length < b0.toNat * 256 + b1.toNat + 4 then none
    else if le4 (crcL (b0 :: b1 :: t.take (b0.toNat * 256 + b1.toNat))) = (t.drop (b0.toNat * 256 + b1.toNat)).take 4 then some (t.take (b0.toNat * 256 + b1.toNat)) else none := rfl
theorem bl_cut {s : ByteArray} {b0 b1 : UInt8} {t : List UInt8} (e : bl s = b0 :: b1 :: t) (n : Nat) : bl (s.extract 2 (2 + n)) = t.take n ∧ bl (s.extract 0 (2 + n)) = b0 :: b1 :: t.take n ∧ bl (s.extract (2 + n) (2 + n + 4)) = (t.drop n).take 4 := by
  refine ⟨?_, ?_, ?_⟩
  · rw [bl_extract, e, Nat.add_sub_cancel_left]; rfl
  · rw [bl_extract, e, Nat.add_comm 2 n]; rfl
  · rw [bl_extract, e, Nat.add_sub_cancel_left, Nat.add_comm 2 n]; rfl
section
variable {B : RO} {h h0 : Heap} {L : List (Option (Nat × AObj))}
theorem wopen_wp {s : ByteArray} {Q : ByteArray → Int → Heap → Prop} (hs : s.size ≤ 1000000000) (hN : openL (bl s) = none → Q (ByteArray.mk #[]) 0 h) (hS : ∀ l : List UInt8, openL (bl s) = some l → Q (ba l) ((l.length + 6 : Nat) : Int) h) : C_wafer_Open B s h Q := by
  refine C_wafer_Open.of ?_
  unfold S_wafer_Open
  refine ⟨fun h2 => Fin.of (hN (openL_short (by omega))), fun h2 => ?_⟩
  obtain ⟨b0, b1, t, e, e0, e1, hl⟩ := two_bytes (s := s) (by omega)
  have g0 := b0.toNat_lt
  have g1 := b1.toNat_lt
  rw [e, openL_cons] at hN hS
  rw [e0, e1, orBytes]
  unfold S_wafer_Open_J1
  rw [e0, e1, orBytes]
  generalize hn : b0.toNat * 256 + b1.toNat = n at *
  have hw1 : IntKind.wrap .i64 (2 + (n : Int)) = ((2 + n : Nat) : Int) := by rw [w64 (by omega) (by omega)]; omega
  have hw2 : IntKind.wrap .i64 (((2 + n : Nat) : Int) + 4) = ((2 + n + 4 : Nat) : Int) := by rw [w64 (by omega) (by omega)]; omega
  rw [hw1, hw2]
  refine ⟨by omega, by omega, by decide, by omega, by omega, fun h1024 => Fin.of (hN (if_pos (.inl (by omega)))), fun h1024 => ⟨fun hsh => Fin.of (hN (if_pos (.inr (by omega)))), fun hlo => Fin.of ⟨by omega, by omega, by omega, by omega, by omega, by omega, ?_⟩⟩⟩
  have z0 : Int.toNat 0 = 0 := rfl
  have z2 : Int.toNat 2 = 2 := rfl
  rw [Int.toNat_natCast, Int.toNat_natCast, z0, z2]
  obtain ⟨c1, c2, c3⟩ := bl_cut e n
  have hz2 : (s.extract 0 (2 + n)).size = n + 2 := by
    rw [← bl_length, c2, List.length_cons, List.length_cons, List.length_take]; omega
  refine wsum_wp (by rw [hz2]; omega) (foots_wp (crcL_lt _) ?_)
  rw [if_neg (by omega)] at hN hS
  have ex : ∀ i j, s.extract i j = ba (bl (s.extract i j)) := fun i j => (ba_bl _).symm
  rw [c2, ex (2 + n) (2 + n + 4), c3, ex 2 (2 + n), c1]
  refine ⟨fun he => ⟨by omega, by omega, by omega, Fin.of ?_⟩, fun he => Fin.of ?_⟩
  · have := hS (t.take n) (if_pos (ba_inj he))
    rw [List.length_take, Nat.min_eq_left (by omega)] at this
    rw [show 2 + n + 4 = n + 6 by omega]; exact this
  · exact hN (if_neg fun z => he (by rw [z]))
def wallF (k3 : Nat) : Value := Value.func (.func FN.wafer_All_1) #[] #[(Value.pointer (some ⟨k3, 0, none⟩))]
def wG (k3 : Nat) (s : ByteArray) (h : Heap) : Prop := h k3 = some (.vec TY.string [.plain (.string s)] 1)
theorem wG_ins {k3 : Nat} {s : ByteArray} : Ins (wG k3 s) := Ins.blk
theorem wall_wp {s : ByteArray} {Q : Value → Heap → Prop} (hQ : ∀ k, h k = none → B k = none → Q (wallF k) (h.set k (.vec TY.string [.plain (.string s)] 1))) : C_wafer_All B s h Q := by
  refine C_wafer_All.of ?_
  unfold S_wafer_All
  intro k a1 b1 h4 e4
  subst e4
  exact Fin.of (hQ k a1 b1)
def encS (l : List UInt8) : List Value := [.string (ba l)]
theorem wall_iter {k3 : Nat} {s : ByteArray} (hs : s.size ≤ 1000000000) : Iter PG B (wallF k3) ((allL (bl s)).map encS) (wG k3 s) := by
  refine ⟨_, _, _, rfl, TG.wafer_All_1, fun y J X h hy hG h0 hcall => ?_⟩
  have main : C_wafer_All_1 B y ⟨k3, 0, none⟩ h (fun h' => Fin B h' (fun h'' => J ((allL (bl s)).map encS).length h'' ∨ X h'')) := by
    refine C_wafer_All_1.of ?_
    unfold S_wafer_All_1
    refine ⟨s, cellH_vec (hG 0 h h0) rfl, fun rest m h' => ∃ q : Nat, q ≤ (allL (bl s)).length ∧ (allL (bl s)).drop q = allL (bl rest) ∧ rest.size ≤ s.size ∧ m = rest.size ∧ J q h', s.size, Fin.of ⟨0, by omega, rfl, Nat.le_refl _, rfl, h0⟩, ?_⟩
    rintro rest _ h5 ⟨q, hq, hd, hz, rfl, hJ⟩
    refine wopen_wp (by omega) (fun hN => ⟨fun _ => Fin.of (Fin.of (.inl ?_)), fun hn => absurd rfl hn⟩) (fun l hS => ⟨fun hn => absurd hn (by omega), fun _ => ?_⟩)
    · rw [allL_none hN] at hd
      have := congrArg List.length hd
      rw [List.length_drop] at this
      have hq2 : q = (allL (bl s)).length := by simp at this; omega
      rw [List.length_map, ← hq2]; exact hJ
    · obtain ⟨f1, f2, f3⟩ := openL_some hS
      rw [bl_length] at f3
      rw [allL_some hS] at hd
      have hg : (allL (bl s))[q]? = some l := by
        have := congrArg (fun x => x[0]?) hd
        simpa [List.getElem?_drop] using this
      have hlt := (List.getElem?_eq_some_iff.1 hg).1
      refine CallV.mono ?_ (hcall q h5 (encS l) (by rw [List.getElem?_map, hg]; rfl) hJ)
      rintro v h27 ⟨h28, t1, hor⟩
      rcases hor with ⟨rfl, hJ'⟩ | ⟨rfl, hX⟩
      · refine ⟨true, rfl, fun _ => ⟨by omega, by omega, by omega, h28, t1, ?_⟩, fun e => by cases e⟩
        rw [Int.toNat_natCast, Int.toNat_natCast]
        have hbe : bl (rest.extract (l.length + 6) rest.size) = (bl rest).drop (l.length + 6) := by
          rw [bl_extract, List.take_of_length_le (by rw [List.length_drop, bl_length]; omega)]
        have hsz : (rest.extract (l.length + 6) rest.size).size = rest.size - (l.length + 6) := by rw [← bl_length, hbe, List.length_drop, bl_length]
        refine ⟨(rest.extract (l.length + 6) rest.size).size, by omega, q + 1, by omega, ?_, by omega, rfl, hJ'⟩
        rw [hbe, ← List.drop_drop, hd]; rfl
      · exact ⟨false, rfl, fun e => (by cases e), fun _ => ⟨h28, t1, Fin.of (.inr hX)⟩⟩
  exact Spec.mono main fun v h' q => q.2
theorem Short.take {ls : List (List UInt8)} (h : Short ls) (n : Nat) : Short (ls.take n) := fun l hl => h l (List.mem_of_mem_take hl)
theorem rowL_take (ls : List (List UInt8)) (q : Nat) (hq : q < ls.length) : rowL (ls.take (q + 1)) = rowL (ls.take q) ++ closeL ls[q] := by
  rw [List.take_succ_eq_append_getElem hq, rowL_append, rowL_one]
theorem rowL_take_le (ls : List (List UInt8)) (q : Nat) : (rowL (ls.take q)).length ≤ (rowL ls).length := by
  have : rowL ls = rowL (ls.take q) ++ rowL (ls.drop q) := by rw [← rowL_append, List.take_append_drop]
  rw [this, List.length_append]; omega
theorem whole_wp {s : ByteArray} {Q : Int → Heap → Prop} (hs : s.size ≤ 1000000000) (hQ : Q ((wholeL (bl s) : Nat) : Int) h) : C_wafer_Whole B s h Q := by
  refine C_wafer_Whole.of ?_
  unfold S_wafer_Whole
  intro k3 a3 b3 h4 e4
  have E := (Keep.nil B h).made a3 b3 e4
  obtain ⟨es, E1⟩ := E.store 0 0 (.int .i64 0) rfl rfl
  refine ⟨_, es, wall_wp fun k1 a1 b1 => ?_⟩
  have E2 := E1.new (o := .vec TY.string [.plain (.string s)] 1) a1 b1
  obtain ⟨hsh, r, hr, _⟩ := allL_spec (bl s)
  have hle := wholeL_le (bl s)
  rw [bl_length] at hle
  refine ⟨(allL (bl s)).map ba, wG k1 s, fun q h' => Keep B h [some (k3, .vec TY.int (plains [.int .i64 ((rowL ((allL (bl s)).take q)).length : Nat)]) 1), some (k1, .vec TY.string [.plain (.string s)] 1)] h', ?_, wG_ins, fun q h' E => E.at 1 rfl, Fin.of E2, ?_, ?_⟩
  · have := wall_iter (B := B) (k3 := k1) (s := s) hs
    rw [List.map_map]; exact this
  · rintro q h10 s8 hg E
    rw [List.getElem?_map] at hg
    obtain ⟨l, hl, rfl⟩ := Option.map_eq_some_iff.1 hg
    obtain ⟨hq, rfl⟩ := List.getElem?_eq_some_iff.1 hl
    have hc := closeL_len (hsh _ (List.getElem_mem hq))
    have ht := rowL_take _ q hq
    have htl := rowL_take_le (allL (bl s)) (q + 1)
    have hh : (rowL (allL (bl s))).length = wholeL (bl s) := rfl
    have hlen := congrArg List.length ht
    rw [List.length_append, hc] at hlen
    rw [ba_size]
    have hw : IntKind.wrap .i64 ((((rowL ((allL (bl s)).take q)).length : Nat) : Int) + (IntKind.wrap .i64 ((IntKind.wrap .i64 ((2) + (((allL (bl s))[q].length : Nat) : Int))) + (4)))) = (((rowL ((allL (bl s)).take (q + 1))).length : Nat) : Int) := by
      rw [w64 (n := 2 + (((allL (bl s))[q].length : Nat) : Int)) (by omega) (by omega), w64 (n := 2 + (((allL (bl s))[q].length : Nat) : Int) + 4) (by omega) (by omega), w64 (by omega) (by omega)]; omega
    obtain ⟨es, E1⟩ := E.store 0 0 (.int .i64 (((rowL ((allL (bl s)).take (q + 1))).length : Nat) : Int)) rfl rfl
    refine ⟨_, E.cell 0 rfl rfl, _, ?_, Fin.of E1⟩
    rw [hw]; exact es
  · rintro h10 E
    rw [List.length_map, List.take_length] at E
    exact ⟨_, E.cell 0 rfl rfl, Fin.ent E.back (Fin.of hQ)⟩
def SRow (r : Option (Nat × AObj)) (v : Value) (ls : List (List UInt8)) : Prop := Row r v TY.string 1 (ls.flatMap strC)
end
end Go.Proofs.Ytlehephbflgblaa.H
namespace Go.Proofs.Ytlehephbflgblaa.H
open Go
set_option linter.unusedVariables false
set_option maxRecDepth 100000
structure Chg where
  a : Int
  r : Bool
  s : ByteArray
def Chg.cells (c : Chg) : List Value := [.int .i64 c.a, .bool c.r, .string c.s]
theorem Chg.len (c : Chg) : c.cells.length = 3 := rfl
theorem Chg.one (c : Chg) : ∀ y ∈ c.cells, isOne y = true := fun y hy => by
  simp [Chg.cells] at hy; rcases hy with rfl | rfl | rfl <;> rfl
def chgD (a : Int) (s : ByteArray) (c : Chg) : ByteArray := if c.a = a then (if c.r = true then ByteArray.mk #[] else s ++ c.s) else s
def textF (a : Int) (s : ByteArray) (cs : List Chg) : ByteArray := cs.foldl (chgD a) s
def textD (a : Int) (cs : List Chg) : ByteArray := textF a (ByteArray.mk #[]) cs
theorem textF_append (a : Int) (s : ByteArray) (cs ds : List Chg) : textF a s (cs ++ ds) = textF a (textF a s cs) ds := List.foldl_append
theorem textD_append (a : Int) (cs ds : List Chg) : textD a (cs ++ ds) = textF a (textD a cs) ds := textF_append a _ cs ds
theorem textD_one (a : Int) (cs : List Chg) (c : Chg) : textD a (cs ++ [c]) = chgD a (textD a cs) c := textD_append a cs [c]
theorem textD_take (a : Int) (cs : List Chg) (j : Nat) (c : Chg) (h : cs[j]? = some c) : textD a (cs.take (j + 1)) = chgD a (textD a (cs.take j)) c := by
  obtain ⟨hj, rfl⟩ := List.getElem?_eq_some_iff.1 h
  rw [List.take_succ_eq_append_getElem hj, textD_one]
structure DOk (cs : List Chg) : Prop where
  ar : ∀ c ∈ cs, c.a = 0 ∨ c.a = 1
  sz : ∀ (a : Int) (j : Nat), (textD a (cs.take j)).size ≤ 16384
theorem DOk.nil : DOk [] := ⟨fun _ h => by simp at h, fun a j => by rw [List.take_nil]; exact (by decide : (ByteArray.mk #[]).size ≤ 16384)⟩
theorem DOk.size {cs : List Chg} (ok : DOk cs) (a : Int) : (textD a cs).size ≤ 16384 := by
  have := ok.sz a cs.length
  rwa [List.take_length] at this
theorem DOk.snoc {cs : List Chg} (ok : DOk cs) {c : Chg} (ha : c.a = 0 ∨ c.a = 1) (h : (textD c.a (cs ++ [c])).size ≤ 16384) : DOk (cs ++ [c]) := by
  refine ⟨fun x hx => ?_, fun a j => ?_⟩
  · rcases List.mem_append.1 hx with hx | hx
    · exact ok.ar x hx
    · rw [List.mem_singleton] at hx; subst hx; exact ha
  · rcases Nat.lt_or_ge cs.length j with hj | hj
    · rw [List.take_of_length_le (by simp; omega)]
      by_cases e : c.a = a
      · rw [← e]; exact h
      · rw [textD_one, chgD, if_neg e]; exact ok.size a
    · rw [List.take_append_of_le_length hj]; exact ok.sz a j
theorem DOk.take {cs : List Chg} (ok : DOk cs) (n : Nat) : DOk (cs.take n) := ⟨fun x hx => ok.ar x (List.mem_of_mem_take hx), fun a j => by rw [List.take_take]; exact ok.sz a _⟩
theorem TK.slc_chgs : slcB PG TY.s_disk_change = some (TY.disk_change, 3, 32) := by kernel_rfl
theorem TK.zero_chg : zeroB PG TY.disk_change = some [.int .i64 0, .bool false, .string ByteArray.empty] := by kernel_rfl
theorem TK.sl_chgs : slT PG TY.s_disk_change = true := by kernel_rfl
def dskV (n0 s0 n1 s1 : ByteArray) (v : Value) : AObj := .vec TY.disk_Disk (plains [.string n0, .string s0, .string n1, .string s1, v]) 5
def dskO (cs : List Chg) (k : Nat) (v : Value) : AObj := dskV (textD 0 cs) (textD 0 (cs.take k)) (textD 1 cs) (textD 1 (cs.take k)) v
def CRow (r : Option (Nat × AObj)) (v : Value) (cs : List Chg) : Prop := Row r v TY.disk_change 3 (cs.flatMap Chg.cells)
theorem set3 (L : List (Option (Nat × AObj))) (i : Nat) (x y r : Option (Nat × AObj)) : ((L.set i x).set (i + 1) r).set i y = (L.set i y).set (i + 1) r := by
  rw [List.set_comm _ _ (by omega), List.set_set]
structure DAt (L : List (Option (Nat × AObj))) (i kD : Nat) (cs : List Chg) (k : Nat) (v : Value) (r : Option (Nat × AObj)) : Prop where
  p : L[i]? = some (some (kD, dskO cs k v))
  q : L[i + 1]? = some r
theorem DAt.lt {L : List (Option (Nat × AObj))} {i kD k : Nat} {cs : List Chg} {v : Value} {r : Option (Nat × AObj)} (A : DAt L i kD cs k v r) : i < L.length ∧ i + 1 < L.length := ⟨(List.getElem?_eq_some_iff.1 A.p).1, (List.getElem?_eq_some_iff.1 A.q).1⟩
theorem DAt.app {L : List (Option (Nat × AObj))} {i kD k : Nat} {cs : List Chg} {v : Value} {r : Option (Nat × AObj)} (A : DAt L i kD cs k v r) (M : List (Option (Nat × AObj))) : DAt (L ++ M) i kD cs k v r := ⟨up_app M A.p, up_app M A.q⟩
def setD (L : List (Option (Nat × AObj))) (i kD : Nat) (cs : List Chg) (k : Nat) (v : Value) (r : Option (Nat × AObj)) : List (Option (Nat × AObj)) := (L.set i (some (kD, dskO cs k v))).set (i + 1) r
section
variable {B : RO} {h0 h h' : Heap} {L : List (Option (Nat × AObj))} {r : Option (Nat × AObj)} {i kD k : Nat} {v : Value} {cs : List Chg}
theorem Keep.cellA (E : Keep B h0 L h) (i : Nat) {b m j n : Nat} {t : TypeId} {fs : List Fld} {u : Value} (hi : L[i]? = some (some (b, .vec t fs n))) (hj : fs[m + j]? = some (.plain u)) : cellH B h (Addr.add ⟨b, m, none⟩ j) = some u := by
  rw [addr_more]; exact E.cell i hi hj
theorem Keep.storeA (E : Keep B h0 L h) (i m j : Nat) (u : Value) {b n : Nat} {t : TypeId} {fs : List Fld} {w : Value} (hi : L[i]? = some (some (b, .vec t fs n))) (hj : fs[m + j]? = some (.plain w)) :
    storeH h (Addr.add ⟨b, m, none⟩ j) u = some (h.set b (.vec t (fs.set (m + j) (.plain u)) n)) ∧ Keep B h0 (L.set i (some (b, .vec t (fs.set (m + j) (.plain u)) n))) (h.set b (.vec t (fs.set (m + j) (.plain u)) n)) := by
  rw [addr_more]; exact E.store i (m + j) u hi hj
theorem dnew_wp {Q : Option Addr → Heap → Prop} (hQ : ∀ k h', Keep B h [some (k, dskO [] 0 (.slice none 0 0)), none] h' → Q (some ⟨k, 0, none⟩) h') : C_disk_New B h Q := by
  refine C_disk_New.of ?_
  unfold S_disk_New
  intro k2 a2 b2 h3 e3
  exact Fin.of (hQ k2 h3 ((Keep.nil B h).made a2 b2 e3).gap)
theorem dgood_wp {a : Int} {Q : Bool → Heap → Prop} (hQ : Q (decide (a = 0 ∨ a = 1)) h) : C_disk_good B a h Q := by
  refine C_disk_good.of ?_
  unfold S_disk_good
  refine ⟨fun e => Fin.of ?_, fun e => Fin.of ?_⟩
  · rw [decide_eq_true (.inl e)] at hQ; exact hQ
  · have : (a == 1) = decide (a = 0 ∨ a = 1) := by
      rw [Bool.eq_iff_iff, beq_iff_eq, decide_eq_true_eq]
      exact ⟨.inr, fun h => h.resolve_left e⟩
    rw [this]; exact hQ
theorem dread_wp {a : Int} {Q : ByteArray → Heap → Prop} (E : Keep B h0 L h) (A : DAt L i kD cs k v r) (ha : a = 0 ∨ a = 1) (hQ : Q (textD a cs) h) : C_disk_Disk_Read B (some ⟨kD, 0, none⟩) a h Q := by
  refine C_disk_Disk_Read.of ?_
  unfold S_disk_Disk_Read
  refine ⟨fun e => (by cases e), fun _ => dgood_wp ⟨fun _ => Fin.of ?_, fun e => absurd ha (by simpa using e)⟩⟩
  unfold S_disk_Disk_Read_J1
  rcases ha with rfl | rfl
  · exact ⟨_, rfl, by omega, by omega, _, E.cellA i (m := 0) A.p rfl, Fin.of hQ⟩
  · exact ⟨_, rfl, by omega, by omega, _, E.cellA i (m := 0) A.p rfl, Fin.of hQ⟩
theorem dwait {c : Chg} {n0 n1 : ByteArray} {h6 : Heap} (E : Keep B h0 (L.set i (some (kD, dskV n0 (textD 0 (cs.take k)) n1 (textD 1 (cs.take k)) v))) h6) (A : DAt L i kD cs k v r) (R : CRow r v (cs.drop k)) (hk : k ≤ cs.length) (hl : cs.length ≤ 100000) (h0' : n0 = textD 0 (cs ++ [c])) (h1' : n1 = textD 1 (cs ++ [c]))
    {Q : Heap → Prop} (hQ : ∀ v' r' h', CRow r' v' ((cs ++ [c]).drop k) → Keep B h0 (setD L i kD (cs ++ [c]) k v' r') h' → Q h') :
    LdSl B h6 (Addr.add ⟨kD, 0, none⟩ 4) fun a34 n35 c36 h37 => ∀ k38 : Nat, h37 k38 = none → B k38 = none → ∀ h39 : Heap, h39 = Heap.set h37 k38 (.vec TY.disk_change (plains c.cells) 3) →
      semH PG B (Builtin.append_ #[TY.s_disk_change, TY.s_disk_change] TY.s_disk_change #[(Value.slice a34 n35 c36), (Value.slice (some ⟨k38, 0, none⟩) 1 1)]) h39 (fun v h40 => ∃ a41 : Option Addr, ∃ n42 : Nat, ∃ c43 : Nat, v = (Value.slice a41 n42 c43) ∧
        ∃ A44 : Addr, (some ⟨kD, 0, none⟩ : Option Addr) = some A44 ∧ ∃ h46 : Heap, storeH h40 (Addr.add A44 4) (Value.slice a41 n42 c43) = some h46 ∧ Fin B h46 Q) := by
  obtain ⟨a, m, cc, rfl⟩ := Row.slice R
  have hi : (L.set i (some (kD, dskV n0 (textD 0 (cs.take k)) n1 (textD 1 (cs.take k)) (.slice a m cc))))[i]? = some (some (kD, dskV n0 (textD 0 (cs.take k)) n1 (textD 1 (cs.take k)) (.slice a m cc))) := by rw [List.getElem?_set_self A.lt.1]
  have hq : (L.set i (some (kD, dskV n0 (textD 0 (cs.take k)) n1 (textD 1 (cs.take k)) (.slice a m cc))))[i + 1]? = some r := by rw [List.getElem?_set_ne (by omega)]; exact A.q
  refine .inl ⟨a, m, cc, E.cellA i (m := 0) hi rfl, fun k38 a38 b38 h39 e39 => ?_⟩
  have hfl := flatMap_length Chg.len (cs.drop k)
  rw [List.length_drop] at hfl
  refine E.push1 (i + 1) hq R TK.slc_chgs TK.zero_chg rfl (by omega) (by omega) TK.sl_chgs rfl c.one (by rw [hfl, Chg.len]; omega) a38 b38 e39 fun a' m' c' r' h' R' E' => ?_
  have hi' : ((L.set i (some (kD, dskV n0 (textD 0 (cs.take k)) n1 (textD 1 (cs.take k)) (.slice a m cc)))).set (i + 1) r')[i]? = some (some (kD, dskV n0 (textD 0 (cs.take k)) n1 (textD 1 (cs.take k)) (.slice a m cc))) := by rw [List.getElem?_set_ne (by omega)]; exact hi
  obtain ⟨es, E2⟩ := E'.storeA i 0 4 (.slice a' m' c') hi' rfl
  rw [set3] at E2
  refine ⟨a', m', c', rfl, _, rfl, _, es, Fin.of (hQ (.slice a' m' c') r' _ ?_ ?_)⟩
  · unfold CRow
    rw [List.drop_append_of_le_length hk, List.flatMap_append]
    simp only [List.flatMap_cons, List.flatMap_nil, List.append_nil]
    exact R'
  · have e : dskO (cs ++ [c]) k (.slice a' m' c') = dskV n0 (textD 0 (cs.take k)) n1 (textD 1 (cs.take k)) (.slice a' m' c') := by
      unfold dskO; rw [List.take_append_of_le_length hk, h0', h1']
    unfold setD
    rw [e]
    exact E2
theorem dappend_wp {a : Int} {s : ByteArray} {Q : Int → Heap → Prop} (E : Keep B h0 L h) (A : DAt L i kD cs k v r) (R : CRow r v (cs.drop k)) (hk : k ≤ cs.length) (ok : DOk cs) (hl : cs.length ≤ 100000) (hs : s.size ≤ 1000000000)
    (hA : ¬ (a = 0 ∨ a = 1) → Q 1 h) (hF : (a = 0 ∨ a = 1) → 16384 < (textD a cs).size + s.size → Q 6 h)
    (hQ : (a = 0 ∨ a = 1) → (textD a cs).size + s.size ≤ 16384 → ∀ v' r' h', CRow r' v' ((cs ++ [Chg.mk a false s]).drop k) → Keep B h0 (setD L i kD (cs ++ [Chg.mk a false s]) k v' r') h' → Q 0 h') : C_disk_Disk_Append B (some ⟨kD, 0, none⟩) a s h Q := by
  refine C_disk_Disk_Append.of ?_
  unfold S_disk_Disk_Append
  refine ⟨fun e => (by cases e), fun _ => dgood_wp ?_⟩
  refine ⟨fun hg => ?_, fun e => Fin.of (hA (by simpa using e))⟩
  have ha : a = 0 ∨ a = 1 := by simpa using hg
  have hz := ok.size a
  have hw : IntKind.wrap .i64 (16384 - (((textD a cs).size : Nat) : Int)) = 16384 - (((textD a cs).size : Nat) : Int) := w64 (by omega) (by omega)
  unfold S_disk_Disk_Append_J1
  have n01 : ¬ ((1 : Int) = 0) := by decide
  have n10 : ¬ ((0 : Int) = 1) := by decide
  rcases ha with rfl | rfl
  · refine ⟨_, rfl, by omega, by omega, textD 0 cs, E.cellA i (m := 0) A.p rfl, fun hgt => Fin.of (hF (.inl rfl) (by rw [hw] at hgt; omega)), fun hle => Fin.of ?_⟩
    rw [hw] at hle
    refine ⟨_, rfl, by omega, by omega, textD 0 cs, E.cellA i (m := 0) A.p rfl, by omega, _, rfl, by omega, by omega, ?_⟩
    obtain ⟨es, E1⟩ := E.storeA i 0 (Int.toNat 0 * 2) (.string (textD 0 cs ++ s)) A.p rfl
    refine ⟨_, es, _, rfl, ?_⟩
    exact dwait (c := ⟨0, false, s⟩) E1 A R hk hl (by rw [textD_one]; rfl) (by rw [textD_one]; rfl) (hQ (.inl rfl) (by omega))
  · refine ⟨_, rfl, by omega, by omega, textD 1 cs, E.cellA i (m := 0) A.p rfl, fun hgt => Fin.of (hF (.inr rfl) (by rw [hw] at hgt; omega)), fun hle => Fin.of ?_⟩
    rw [hw] at hle
    refine ⟨_, rfl, by omega, by omega, textD 1 cs, E.cellA i (m := 0) A.p rfl, by omega, _, rfl, by omega, by omega, ?_⟩
    obtain ⟨es, E1⟩ := E.storeA i 0 (Int.toNat 1 * 2) (.string (textD 1 cs ++ s)) A.p rfl
    refine ⟨_, es, _, rfl, ?_⟩
    exact dwait (c := ⟨1, false, s⟩) E1 A R hk hl (by rw [textD_one]; rfl) (by rw [textD_one]; rfl) (hQ (.inr rfl) (by omega))
theorem dreset_wp {a : Int} {Q : Int → Heap → Prop} (E : Keep B h0 L h) (A : DAt L i kD cs k v r) (R : CRow r v (cs.drop k)) (hk : k ≤ cs.length) (hl : cs.length ≤ 100000) (ha : a = 0 ∨ a = 1)
    (hQ : ∀ v' r' h', CRow r' v' ((cs ++ [Chg.mk a true ByteArray.empty]).drop k) → Keep B h0 (setD L i kD (cs ++ [Chg.mk a true ByteArray.empty]) k v' r') h' → Q 0 h') : C_disk_Disk_Reset B (some ⟨kD, 0, none⟩) a h Q := by
  refine C_disk_Disk_Reset.of ?_
  unfold S_disk_Disk_Reset
  refine ⟨fun e => (by cases e), fun _ => dgood_wp ?_⟩
  refine ⟨fun hg => Fin.of ?_, fun e => absurd ha (by simpa using e)⟩
  unfold S_disk_Disk_Reset_J1
  rcases ha with rfl | rfl
  · obtain ⟨es, E1⟩ := E.storeA i 0 (Int.toNat 0 * 2) (.string (ByteArray.mk #[])) A.p rfl
    refine ⟨_, rfl, by omega, by omega, _, es, _, rfl, ?_⟩
    exact dwait (c := ⟨0, true, ByteArray.empty⟩) E1 A R hk hl (by rw [textD_one]; rfl) (by rw [textD_one]; rfl) hQ
  · obtain ⟨es, E1⟩ := E.storeA i 0 (Int.toNat 1 * 2) (.string (ByteArray.mk #[])) A.p rfl
    refine ⟨_, rfl, by omega, by omega, _, es, _, rfl, ?_⟩
    exact dwait (c := ⟨1, true, ByteArray.empty⟩) E1 A R hk hl (by rw [textD_one]; rfl) (by rw [textD_one]; rfl) hQ
theorem land_wp {n0 s0 n1 s1 : ByteArray} {c : Chg} {Q : Heap → Prop} (E : Keep B h0 L h) (hi : L[i]? = some (some (kD, dskV n0 s0 n1 s1 v))) (ha : c.a = 0 ∨ c.a = 1) (hz : c.r = false → s0.size + c.s.size ≤ 4611686018427387904 ∧ s1.size + c.s.size ≤ 4611686018427387904)
    (hQ : ∀ h', Keep B h0 (L.set i (some (kD, dskV n0 (chgD 0 s0 c) n1 (chgD 1 s1 c) v))) h' → Q h') : C_disk_Disk_land B (some ⟨kD, 0, none⟩) c.a c.r c.s h Q := by
  refine C_disk_Disk_land.of ?_
  unfold S_disk_Disk_land
  intro k5 a5 b5 h6 e6
  have E1 := E.made a5 b5 e6
  have g := E1.last
  have hi1 := up_app [some (k5, AObj.vec TY.disk_change (plains [.int .i64 c.a, .bool c.r, .string c.s]) 3)] hi
  have il := (List.getElem?_eq_some_iff.1 hi).1
  have n01 : ¬ ((1 : Int) = 0) := by decide
  have n10 : ¬ ((0 : Int) = 1) := by decide
  have key : ∀ (x0 x1 : ByteArray) (h' : Heap), Keep B h0 ((L ++ [some (k5, AObj.vec TY.disk_change (plains [.int .i64 c.a, .bool c.r, .string c.s]) 3)]).set i (some (kD, dskV n0 x0 n1 x1 v))) h' → x0 = chgD 0 s0 c → x1 = chgD 1 s1 c → Fin B h' Q := fun x0 x1 h' E' e0 e1 => by
    subst e0 e1
    rw [List.set_append_left _ _ il] at E'
    exact Fin.of (hQ h' E'.pop)
  have z00 : (0 : Int) ≤ 0 := by decide
  have z02 : (0 : Int) < (2 : Nat) := by decide
  have z01 : (0 : Int) ≤ 1 := by decide
  have z12 : (1 : Int) < (2 : Nat) := by decide
  obtain ⟨ca, cr, s⟩ := c
  simp only at ha hz
  refine ⟨cr, cellH_vec g rfl, fun hr => ?_, fun hr => ?_⟩
  · subst hr
    rcases ha with rfl | rfl
    · obtain ⟨es, E2⟩ := E1.storeA i (0 + Int.toNat 0 * 2) 1 (.string (ByteArray.mk #[])) hi1 rfl
      refine ⟨_, cellH_vec g rfl, _, rfl, z00, z02, _, by rw [addr_more]; exact es, key _ _ _ E2 rfl rfl⟩
    · obtain ⟨es, E2⟩ := E1.storeA i (0 + Int.toNat 1 * 2) 1 (.string (ByteArray.mk #[])) hi1 rfl
      refine ⟨_, cellH_vec g rfl, _, rfl, z01, z12, _, by rw [addr_more]; exact es, key _ _ _ E2 rfl rfl⟩
  · subst hr
    rcases ha with rfl | rfl
    · obtain ⟨es, E2⟩ := E1.storeA i (0 + Int.toNat 0 * 2) 1 (.string (s0 ++ s)) hi1 rfl
      refine ⟨_, cellH_vec g rfl, _, rfl, z00, z02, s0, by rw [addr_more]; exact E1.cellA i hi1 rfl, _, cellH_vec g rfl, (hz rfl).1, _, rfl, z00, z02, _, by rw [addr_more]; exact es, key _ _ _ E2 rfl rfl⟩
    · obtain ⟨es, E2⟩ := E1.storeA i (0 + Int.toNat 1 * 2) 1 (.string (s1 ++ s)) hi1 rfl
      refine ⟨_, cellH_vec g rfl, _, rfl, z01, z12, s1, by rw [addr_more]; exact E1.cellA i hi1 rfl, _, cellH_vec g rfl, (hz rfl).2, _, rfl, z01, z12, _, by rw [addr_more]; exact es, key _ _ _ E2 rfl rfl⟩
end
end Go.Proofs.Ytlehephbflgblaa.H
namespace Go.Proofs.Ytlehephbflgblaa.H
open Go
set_option linter.unusedVariables false
set_option maxRecDepth 100000
theorem drop_get {α : Type} {l : List α} {k j : Nat} {x : α} (h : (l.drop k)[j]? = some x) : l[k + j]? = some x := by rwa [List.getElem?_drop] at h
theorem land_size {cs : List Chg} (ok : DOk cs) {j : Nat} {x : Chg} (hg : cs[j]? = some x) (hr : x.r = false) : (textD 0 (cs.take j)).size + x.s.size ≤ 4611686018427387904 ∧ (textD 1 (cs.take j)).size + x.s.size ≤ 4611686018427387904 := by
  have z0 := ok.sz 0 j
  have z1 := ok.sz 1 j
  have := ok.sz x.a (j + 1)
  rw [textD_take _ _ _ _ hg, chgD, if_pos rfl, hr, if_neg (by simp), ByteArray.size_append] at this
  omega
section
variable {B : RO} {h0 h h' : Heap} {L : List (Option (Nat × AObj))} {r : Option (Nat × AObj)} {i kD kR k : Nat} {v : Value} {cs : List Chg}
theorem Keep.rowAt {α : Type} {cells : α → List Value} {l : List α} {a : Option Addr} {sz q : Nat} (E : Keep B h0 L h) (hq : L[q]? = some r) (hrd : RowRd B r a sz cells l) (j : Nat) (x : α) (hj : l[j]? = some x) : ∃ A, a = some A ∧ CellsAt B h (Addr.add A (j * sz)) 0 (cells x) := by
  obtain ⟨A, e1, _, e3⟩ := hrd h (fun k o e => E.at q (by rw [hq, e])) j x hj
  exact ⟨A, e1, e3⟩
theorem dsync_wp {Q : Heap → Prop} (E : Keep B h0 L h) (A : DAt L i kD cs k v r) (R : CRow r v (cs.drop k)) (hk : k ≤ cs.length) (ok : DOk cs) (hl : cs.length ≤ 100000)
    (hQ : ∀ h', Keep B h0 (setD L i kD cs cs.length (.slice none 0 0) none) h' → Q h') : C_disk_Disk_Sync B (some ⟨kD, 0, none⟩) h Q := by
  refine C_disk_Disk_Sync.of ?_
  unfold S_disk_Disk_Sync
  obtain ⟨a, m, c, rfl⟩ := Row.slice R
  obtain ⟨rfl, hrd⟩ := Row.rd (B := B) R Chg.len (by omega)
  have il := A.lt
  refine ⟨fun e => (by cases e), fun _ => ⟨_, rfl, .inl ⟨a, _, c, E.cellA i (m := 0) A.p rfl, ?_⟩⟩⟩
  let st : Nat → AObj := fun j => dskV (textD 0 cs) (textD 0 (cs.take (k + j))) (textD 1 cs) (textD 1 (cs.take (k + j))) (.slice a (cs.drop k).length c)
  refine ⟨fun i' m h' => ∃ j : Nat, j ≤ (cs.drop k).length ∧ i' = j ∧ m = (cs.drop k).length - j ∧ Keep B h0 (L.set i (some (kD, st j))) h', (cs.drop k).length, Fin.of ⟨0, by omega, rfl, by omega, ?_⟩, ?_⟩
  · have e : L.set i (some (kD, st 0)) = L := by
      obtain ⟨h1, h2⟩ := List.getElem?_eq_some_iff.1 A.p
      have : (some (kD, st 0)) = L[i] := h2.symm
      rw [this]; exact List.set_getElem_self h1
    rw [e]; exact E
  clear E
  rintro _ _ h10 ⟨j, hj, rfl, rfl, E⟩
  have hi : (L.set i (some (kD, st j)))[i]? = some (some (kD, st j)) := List.getElem?_set_self il.1
  have hq : (L.set i (some (kD, st j)))[i + 1]? = some r := by rw [List.getElem?_set_ne (by omega)]; exact A.q
  refine ⟨fun hlt => ?_, fun hge => ?_⟩
  · have hj' : j < (cs.drop k).length := by omega
    have hg := List.getElem?_eq_getElem hj'
    have hg' := drop_get hg
    generalize (cs.drop k)[j] = x at hg hg'
    obtain ⟨A1, e1, e3⟩ := E.rowAt hq hrd j x hg
    have hax := ok.ar x (List.mem_of_getElem? hg')
    refine ⟨A1, e1, by omega, hlt, x.a, x.r, x.s, by rw [Int.toNat_natCast]; exact e3, fun k21 a21 b21 h22 e22 => ?_⟩
    have E1 := E.made a21 b21 e22
    refine ⟨_, stores_whole E1.last rfl (by simp) (by simp [isOne]) (by simp), ?_⟩
    have E2 := E1.putLast (.vec TY.disk_change (plains x.cells) 3)
    refine ⟨x.a, x.r, x.s, ⟨cellH_vec E2.last rfl, cellH_vec E2.last rfl, cellH_vec E2.last rfl, trivial⟩, ?_⟩
    refine land_wp (i := i) E2 (up_app _ hi) hax (land_size ok hg') fun h27 E3 => Fin.of ⟨(cs.drop k).length - (j + 1), by omega, j + 1, by omega, ?_, rfl, ?_⟩
    · have := List.length_drop (i := k) (l := cs)
      rw [w64 (by omega) (by omega)]; omega
    · rw [List.set_append_left _ _ (by rw [List.length_set]; exact il.1), List.set_set] at E3
      have e : st (j + 1) = dskV (textD 0 cs) (chgD 0 (textD 0 (cs.take (k + j))) x) (textD 1 cs) (chgD 1 (textD 1 (cs.take (k + j))) x) (.slice a (cs.drop k).length c) := by
        show dskV _ (textD 0 (cs.take (k + j + 1))) _ (textD 1 (cs.take (k + j + 1))) _ = _
        rw [textD_take _ _ _ _ hg', textD_take _ _ _ _ hg']
      rw [e]; exact E3.pop
  · have : j = (cs.drop k).length := by omega
    subst this
    obtain ⟨es, E1⟩ := E.storeA i 0 4 (.slice none 0 0) hi rfl
    refine ⟨_, rfl, _, es, Fin.of (hQ _ ?_)⟩
    have E2 := E1.lose (i + 1)
    unfold setD
    have e : dskO cs cs.length (.slice none 0 0) = .vec TY.disk_Disk ((plains [.string (textD 0 cs), .string (textD 0 (cs.take (k + (cs.drop k).length))), .string (textD 1 cs), .string (textD 1 (cs.take (k + (cs.drop k).length))), .slice a (cs.drop k).length c]).set (0 + 4) (.plain (.slice none 0 0))) 5 := by
      have : k + (cs.drop k).length = cs.length := by rw [List.length_drop]; omega
      rw [this]; rfl
    rw [e]
    rw [List.set_set] at E2
    exact E2
end
end Go.Proofs.Ytlehephbflgblaa.H
namespace Go.Proofs.Ytlehephbflgblaa.H
open Go
set_option linter.unusedVariables false
set_option maxRecDepth 100000
def walO (kD : Nat) (area : Int) (sz : Nat) (torn : Bool) : AObj := .vec TY.wal_Log (plains [.pointer (some ⟨kD, 0, none⟩), .int .i64 area, .int .i64 (sz : Nat), .bool torn]) 4
def tornOf (b : List UInt8) : Bool := decide (wholeL b < b.length)
theorem setD_get {L : List (Option (Nat × AObj))} {i kD k j : Nat} {cs : List Chg} {v : Value} {r : Option (Nat × AObj)} (h1 : j ≠ i) (h2 : j ≠ i + 1) : (setD L i kD cs k v r)[j]? = L[j]? := by
  unfold setD
  rw [List.getElem?_set_ne (Ne.symm h2), List.getElem?_set_ne (Ne.symm h1)]
theorem NilOK.oneW {y : Value} (h : NilOK y) : isOne y = true := by
  rcases h with ⟨g, a, b, rfl⟩ | ⟨l, a, b, rfl⟩ <;> rfl
theorem plainOne (t : TypeId) (v : Value) : PlainO (.vec t [.plain v] 1) := ⟨t, [v], 1, rfl⟩
section
variable {B : RO} {h0 h h' : Heap} {L : List (Option (Nat × AObj))} {r : Option (Nat × AObj)} {i j kD kR kl k sz : Nat} {v : Value} {cs : List Chg} {area : Int} {torn : Bool}
theorem dread0 {a : Int} {Q : ByteArray → Heap → Prop} (g : h kD = some (dskO cs k v)) (ha : a = 0 ∨ a = 1) (hQ : Q (textD a cs) h) : C_disk_Disk_Read B (some ⟨kD, 0, none⟩) a h Q := by
  refine C_disk_Disk_Read.of ?_
  unfold S_disk_Disk_Read
  refine ⟨fun e => (by cases e), fun _ => dgood_wp ⟨fun _ => Fin.of ?_, fun e => absurd ha (by simpa using e)⟩⟩
  unfold S_disk_Disk_Read_J1
  rcases ha with rfl | rfl
  · exact ⟨_, rfl, by omega, by omega, _, by rw [addr_more]; exact cellH_vec g rfl, Fin.of hQ⟩
  · exact ⟨_, rfl, by omega, by omega, _, by rw [addr_more]; exact cellH_vec g rfl, Fin.of hQ⟩
theorem walopen_wp {Q : Option Addr → Int → Heap → Prop} (E : Keep B h0 L h) (A : DAt L i kD cs k v r) (ha : area = 0 ∨ area = 1) (ok : DOk cs)
    (hQ : ∀ kl h', Keep B h0 (L ++ [some (kl, walO kD area (wholeL (bl (textD area cs))) (tornOf (bl (textD area cs))))]) h' → Q (some ⟨kl, 0, none⟩) 0 h') : C_wal_Open B (some ⟨kD, 0, none⟩) area h Q := by
  refine C_wal_Open.of ?_
  unfold S_wal_Open
  have hz := ok.size area
  have main : S_wal_Open_J1 B (some ⟨kD, 0, none⟩) area h Q := by
    unfold S_wal_Open_J1
    refine dread_wp E A ha (whole_wp (by omega) fun k11 a11 b11 h12 e12 => Fin.of (hQ k11 h12 ?_))
    have e : decide (((wholeL (bl (textD area cs)) : Nat) : Int) < (((textD area cs).size : Nat) : Int)) = tornOf (bl (textD area cs)) := by
      unfold tornOf
      rw [decide_eq_decide, bl_length]; omega
    rw [e] at e12
    exact E.made a11 b11 e12
  refine ⟨fun e => (by cases e), fun _ => ⟨fun _ => Fin.of main, fun e0 => ⟨fun _ => Fin.of main, fun e1 => absurd ha (fun hh => hh.elim e0 e1)⟩⟩⟩
theorem walappend_wp {s : ByteArray} {Q : Int → Heap → Prop} (E : Keep B h0 L h) (A : DAt L i kD cs k v r) (hj : L[j]? = some (some (kl, walO kD area sz torn))) (n1 : j ≠ i) (n2 : j ≠ i + 1) (R : CRow r v (cs.drop k)) (hk : k ≤ cs.length) (ok : DOk cs) (hl : cs.length ≤ 100000) (hs : s.size ≤ 1000000000) (hsz : sz ≤ 16384) (ha : area = 0 ∨ area = 1)
    (hL : 1024 < s.size → Q 3 h) (hT : s.size ≤ 1024 → torn = true → Q 9 h) (hF : s.size ≤ 1024 → torn = false → 16384 < (textD area cs).size + (closeL (bl s)).length → Q 6 h)
    (hQ : s.size ≤ 1024 → torn = false → (textD area cs).size + (closeL (bl s)).length ≤ 16384 → ∀ v' r' h', CRow r' v' ((cs ++ [Chg.mk area false (ba (closeL (bl s)))]).drop k) → Keep B h0 ((setD L i kD (cs ++ [Chg.mk area false (ba (closeL (bl s)))]) k v' r').set j (some (kl, walO kD area (sz + (closeL (bl s)).length) torn))) h' → Q 0 h') : C_wal_Log_Append B (some ⟨kl, 0, none⟩) s h Q := by
  refine C_wal_Log_Append.of ?_
  unfold S_wal_Log_Append
  refine ⟨fun e => (by cases e), fun _ => ⟨fun hgt => Fin.of (hL (by omega)), fun hle => ⟨_, rfl, torn, E.cellA j (m := 0) hj rfl, fun ht => Fin.of (hT (by omega) ht), fun ht => Fin.of ?_⟩⟩⟩
  unfold S_wal_Log_Append_J1
  have hcl : (closeL (bl s)).length = s.size + 6 := by rw [closeL_len (by rw [bl_length]; omega), bl_length]
  have hbs : (ba (closeL (bl s))).size = (closeL (bl s)).length := ba_size _
  refine wclose_wp (by omega) ⟨_, rfl, _, E.cell j hj rfl, _, rfl, area, E.cellA j (m := 0) hj rfl, ?_⟩
  refine dappend_wp E A R hk ok hl (by omega) (fun hn => absurd ha hn) (fun _ hf => ?_) (fun _ hf v' r' h' R' E' => ?_)
  · exact ⟨E.cell j hj rfl, E.cellA j (m := 0) hj rfl, fun e => (by cases e), fun _ => Fin.of (hF (by omega) ht (by omega))⟩
  · have hj' : (setD L i kD (cs ++ [Chg.mk area false (ba (closeL (bl s)))]) k v' r')[j]? = some (some (kl, walO kD area sz torn)) := by rw [setD_get n1 n2]; exact hj
    have hw : IntKind.wrap .i64 ((sz : Int) + (((ba (closeL (bl s))).size : Nat) : Int)) = ((sz + (closeL (bl s)).length : Nat) : Int) := by rw [hbs, w64 (by omega) (by omega)]; omega
    obtain ⟨es, E2⟩ := E'.storeA j 0 2 (.int .i64 ((sz + (closeL (bl s)).length : Nat) : Int)) hj' rfl
    refine ⟨E'.cell j hj' rfl, E'.cellA j (m := 0) hj' rfl, fun _ => ⟨_, rfl, sz, E'.cellA j (m := 0) hj' rfl, _, rfl, _, by rw [hw]; exact es, Fin.of (hQ (by omega) ht (by omega) v' r' _ R' E2)⟩, fun e => absurd rfl e⟩
theorem walforce_wp {Q : Heap → Prop} (E : Keep B h0 L h) (A : DAt L i kD cs k v r) (hj : L[j]? = some (some (kl, walO kD area sz torn))) (R : CRow r v (cs.drop k)) (hk : k ≤ cs.length) (ok : DOk cs) (hl : cs.length ≤ 100000)
    (hQ : ∀ h', Keep B h0 (setD L i kD cs cs.length (.slice none 0 0) none) h' → Q h') : C_wal_Log_Force B (some ⟨kl, 0, none⟩) h Q := by
  refine C_wal_Log_Force.of ?_
  unfold S_wal_Log_Force
  exact ⟨fun e => (by cases e), fun _ => ⟨_, rfl, _, E.cell j hj rfl, dsync_wp E A R hk ok hl fun h' E' => Fin.of (hQ h' E')⟩⟩
theorem walclear_wp {Q : Heap → Prop} (E : Keep B h0 L h) (A : DAt L i kD cs k v r) (hj : L[j]? = some (some (kl, walO kD area sz torn))) (n1 : j ≠ i) (n2 : j ≠ i + 1) (R : CRow r v (cs.drop k)) (hk : k ≤ cs.length) (hl : cs.length ≤ 100000) (ha : area = 0 ∨ area = 1)
    (hQ : ∀ v' r' h', CRow r' v' ((cs ++ [Chg.mk area true ByteArray.empty]).drop k) → Keep B h0 ((setD L i kD (cs ++ [Chg.mk area true ByteArray.empty]) k v' r').set j (some (kl, walO kD area 0 false))) h' → Q h') : C_wal_Log_Clear B (some ⟨kl, 0, none⟩) h Q := by
  refine C_wal_Log_Clear.of ?_
  unfold S_wal_Log_Clear
  refine ⟨fun e => (by cases e), fun _ => ⟨_, rfl, _, E.cell j hj rfl, _, rfl, area, E.cellA j (m := 0) hj rfl, dreset_wp E A R hk hl ha fun v' r' h' R' E' => ?_⟩⟩
  have hj' : (setD L i kD (cs ++ [Chg.mk area true ByteArray.empty]) k v' r')[j]? = some (some (kl, walO kD area sz torn)) := by rw [setD_get n1 n2]; exact hj
  obtain ⟨es, E2⟩ := E'.storeA j 0 2 (.int .i64 0) hj' rfl
  have il := (List.getElem?_eq_some_iff.1 hj').1
  obtain ⟨es2, E3⟩ := E2.storeA j 0 3 (.bool false) (List.getElem?_set_self il) rfl
  rw [List.set_set] at E3
  exact ⟨_, rfl, _, es, _, rfl, _, es2, Fin.of (hQ v' r' _ R' E3)⟩
theorem walsize_wp {Q : Int → Heap → Prop} (E : Keep B h0 L h) (hj : L[j]? = some (some (kl, walO kD area sz torn))) (hQ : Q ((sz : Nat) : Int) h) : C_wal_Log_Size B (some ⟨kl, 0, none⟩) h Q := by
  refine C_wal_Log_Size.of ?_
  unfold S_wal_Log_Size
  exact ⟨fun e => (by cases e), fun _ => ⟨_, rfl, _, E.cellA j (m := 0) hj rfl, Fin.of hQ⟩⟩
theorem walarea_wp {Q : Int → Heap → Prop} (E : Keep B h0 L h) (hj : L[j]? = some (some (kl, walO kD area sz torn))) (hQ : Q area h) : C_wal_Log_Area B (some ⟨kl, 0, none⟩) h Q := by
  refine C_wal_Log_Area.of ?_
  unfold S_wal_Log_Area
  exact ⟨fun e => (by cases e), fun _ => ⟨_, rfl, _, E.cellA j (m := 0) hj rfl, Fin.of hQ⟩⟩
def walF (k3 : Nat) : Value := Value.func (.func FN.wal_Log_All_1) #[] #[(Value.pointer (some ⟨k3, 0, none⟩))]
def walG (k3 kl kD : Nat) (area : Int) (sz : Nat) (torn : Bool) (cs : List Chg) (k : Nat) (v : Value) (h : Heap) : Prop :=
  h k3 = some (.vec TY.p_wal_Log [.plain (.pointer (some ⟨kl, 0, none⟩))] 1) ∧ h kl = some (walO kD area sz torn) ∧ h kD = some (dskO cs k v)
theorem walG_ins {k3 : Nat} : Ins (walG k3 kl kD area sz torn cs k v) := by
  rintro h b o hb ⟨g1, g2, g3⟩
  exact ⟨Heap.get_new hb g1, Heap.get_new hb g2, Heap.get_new hb g3⟩
theorem walall_wp {p : Option Addr} {Q : Value → Heap → Prop} (hQ : ∀ k, h k = none → B k = none → Q (walF k) (h.set k (.vec TY.p_wal_Log [.plain (.pointer p)] 1))) : C_wal_Log_All B p h Q := by
  refine C_wal_Log_All.of ?_
  unfold S_wal_Log_All
  intro k a1 b1 h4 e4
  subst e4
  exact Fin.of (hQ k a1 b1)
theorem walall_iter {k3 : Nat} (ha : area = 0 ∨ area = 1) (ok : DOk cs) : Iter PG B (walF k3) ((allL (bl (textD area cs))).map encS) (walG k3 kl kD area sz torn cs k v) := by
  refine ⟨_, _, _, rfl, TG.wal_Log_All_1, fun y J X h hy hG h0 hcall => ?_⟩
  have main : C_wal_Log_All_1 B y ⟨k3, 0, none⟩ h (fun h' => Fin B h' (fun h'' => J ((allL (bl (textD area cs))).map encS).length h'' ∨ X h'')) := by
    refine C_wal_Log_All_1.of ?_
    unfold S_wal_Log_All_1
    obtain ⟨g1, g2, g3⟩ := hG 0 h h0
    refine ⟨hy.oneW, fun ky ay by' h4 e4 => ?_⟩
    have ⟨ty, e4⟩ : ∃ t, h4 = h.set ky (.vec t [.plain y] 1) := ⟨_, e4⟩
    obtain ⟨gy, ly, fy⟩ := Heap.made ay e4
    have l1 := ly _ _ g1
    have l2 := ly _ _ g2
    have l3 := ly _ _ g3
    have hz := ok.size area
    refine ⟨_, cellH_vec l1 rfl, fun e => (by cases e), fun _ => ⟨_, cellH_vec l1 rfl, _, rfl, _, cellH_vec l2 rfl, _, cellH_vec l1 rfl, _, rfl, area, by rw [addr_more]; exact cellH_vec l2 rfl, dread0 l3 ha (wall_wp fun kc ac bc => ?_)⟩⟩
    have hky : kc ≠ ky := Heap.ne_of ac gy
    have it := wall_iter (B := B) (k3 := kc) (s := textD area cs) (by omega)
    refine ⟨(allL (bl (textD area cs))).map ba, wG kc (textD area cs), fun q h' => ∃ hu, hu ky = none ∧ hu kc = none ∧ h' = (hu.set ky (.vec ty [.plain y] 1)).set kc (.vec TY.string [.plain (.string (textD area cs))] 1) ∧ J q hu, by rw [List.map_map]; exact it, wG_ins, ?_, Fin.of ⟨h, ay, ?_, by rw [e4], h0⟩, ?_, ?_⟩
    · rintro q h' ⟨hu, n1, n2, rfl, hJ⟩
      exact Heap.set_same _ _ _
    · rw [e4, Heap.set_ne _ _ _ _ hky] at ac; exact ac
    · rintro q h17 s35 hg ⟨hu, n1, n2, rfl, hJ⟩
      rw [List.getElem?_map] at hg
      obtain ⟨l, hl, rfl⟩ := Option.map_eq_some_iff.1 hg
      have n2' : (hu.set ky (.vec ty [.plain y] 1)) kc = none := by rw [Heap.set_ne _ _ _ _ hky]; exact n2
      have gky : ((hu.set ky (.vec ty [.plain y] 1)).set kc (.vec TY.string [.plain (.string (textD area cs))] 1)) ky = some (.vec ty [.plain y] 1) := by
        rw [Heap.set_ne _ _ _ _ (Ne.symm hky), Heap.set_same]
      refine ⟨y, cellH_vec gky rfl, ?_⟩
      have hc := hcall q hu (encS l) (by rw [List.getElem?_map, hl]; rfl) hJ
      have h1 := hc.frame1 (ob := .vec ty [.plain y] 1) n1 by' (plainOne _ _)
      have h2 := h1.frame1 (ob := .vec TY.string [.plain (.string (textD area cs))] 1) n2' bc (plainOne _ _)
      refine CallV.mono ?_ h2
      rintro v h27 ⟨hx, x1, rfl, hz, z1, rfl, h29, t2, hor⟩
      have z2 : hz kc = none := by rw [Heap.set_ne _ _ _ _ hky] at x1; exact x1
      have lift : Ent B ((hz.set ky (.vec ty [.plain y] 1)).set kc (.vec TY.string [.plain (.string (textD area cs))] 1)) ((h29.set ky (.vec ty [.plain y] 1)).set kc (.vec TY.string [.plain (.string (textD area cs))] 1)) :=
        Ent.frame1 x1 bc (plainOne _ _) (Ent.frame1 z1 by' (plainOne _ _) t2)
      have w1 : h29 ky = none := t2.1 _ z1
      have w2 : h29 kc = none := t2.1 _ z2
      have drop : Ent B ((h29.set ky (.vec ty [.plain y] 1)).set kc (.vec TY.string [.plain (.string (textD area cs))] 1)) h29 := Ent.forget fun b o hb =>
        Heap.get_new (by rw [Heap.set_ne _ _ _ _ hky]; exact w2) (Heap.get_new w1 hb)
      rcases hor with ⟨rfl, hJ'⟩ | ⟨rfl, hX⟩
      · exact ⟨true, rfl, fun _ => ⟨_, lift, h29, w1, w2, rfl, hJ'⟩, fun e => by cases e⟩
      · exact ⟨false, rfl, fun e => (by cases e), fun _ => ⟨h29, lift.trans drop, Fin.of (.inr hX)⟩⟩
    · rintro h17 ⟨hu, n1, n2, rfl, hJ⟩
      have drop : Ent B ((hu.set ky (.vec ty [.plain y] 1)).set kc (.vec TY.string [.plain (.string (textD area cs))] 1)) hu := Ent.forget fun b o hb =>
        Heap.get_new (by rw [Heap.set_ne _ _ _ _ hky]; exact n2) (Heap.get_new n1 hb)
      refine ⟨hu, drop, Fin.of (.inl ?_)⟩
      rw [List.length_map] at hJ ⊢
      exact hJ
  exact Spec.mono main fun v h' q => q.2
end
end Go.Proofs.Ytlehephbflgblaa.H
namespace Go.Proofs.Ytlehephbflgblaa.H
open Go
set_option linter.unusedVariables false
set_option maxRecDepth 100000
theorem TK.slc_bytes : slcB PG TY.s_uint8 = some (TY.uint8, 1, 1) := by kernel_rfl
theorem TK.zero_byte : zeroB PG TY.uint8 = some [.int .u8 0] := by kernel_rfl
theorem TK.sl_bytes : slT PG TY.s_uint8 = true := by kernel_rfl
theorem TK.str : isStr PG TY.string = true := by kernel_rfl
section
variable {B : RO} {h : Heap}
theorem Addr.add_block (A : Addr) (i : Nat) : (A.add i).block = A.block := by unfold Addr.add; split <;> rfl
def stylO (bs : List UInt8) : AObj := .vec TY.stylus_Stylus [.own TY.uint8 1 (bs.map byteV)] 1
theorem natI_length {i : Int} (h : i ≤ 9223372036854775807) : (natI i).length ≤ 10 := by
  unfold natI; split
  · simp
  · exact natB_length (by omega)
theorem natsB_length : ∀ (l : List Int), (∀ n ∈ l, n ≤ 9223372036854775807) → (natsB l).length ≤ 10 * l.length
  | [], _ => by simp [natsB]
  | n :: l, h => by
    have h1 := natI_length (h n (by simp))
    have h2 := natsB_length l (fun m hm => h m (by simp [hm]))
    simp only [natsB, List.flatMap_cons, List.length_append, List.length_cons] at *
    omega
theorem natsB_one (n : Nat) : natsB [((n : Nat) : Int)] = natB n := by
  simp only [natsB, natI, List.flatMap_cons, List.flatMap_nil, List.append_nil]
  rw [if_neg (by omega)]; rfl
theorem natsB_take_succ (l : List Int) (k : Nat) (hk : k < l.length) : natsB (l.take (k + 1)) = natsB (l.take k) ++ natI l[k] := by
  unfold natsB; rw [List.take_succ_eq_append_getElem hk, List.flatMap_append, List.flatMap_cons, List.flatMap_nil, List.append_nil]
theorem stylus_byte {b : Nat} {bs : List UInt8} {x : Int} {u : UInt8} {K : Value → Heap → Prop} (hx : x = ((u.toNat : Nat) : Int)) (hb : h b = some (stylO bs)) (hbd : bs.length + 1 ≤ 1099511627776)
    (hK : ∀ a' n' c' h3 h4, storeH h3 ⟨b, 0, none⟩ (.slice a' n' c') = some h4 → Ent B h4 (h.set b (stylO (bs ++ [u]))) → K (.slice a' n' c') h3) :
    LdSl B h ⟨b, 0, none⟩ (fun a m c h1 => ∀ k, h1 k = none → B k = none → ∀ h2, h2 = Heap.set h1 k (.vec TY.uint8 (plains [.int .u8 x]) 1) → semH PG B (Builtin.append_ #[TY.s_uint8, TY.s_uint8] TY.s_uint8 #[.slice a m c, .slice (some ⟨k, 0, none⟩) 1 1]) h2 K) := by
  subst hx
  refine app_own (len := 1) (ys := [.int .u8 ((u.toNat : Nat) : Int)]) (xs := bs.map byteV) TK.slc_bytes TK.zero_byte rfl (by omega) (by omega) TK.sl_bytes hb rfl rfl (by simp [isOne]) (by simp; omega) ?_
  intro a' n' c' h3 h4 s1 s2
  refine hK a' n' c' h3 h4 s1 ?_
  simpa [stylO, byteV] using s2
theorem nat_wp {b c : Nat} {bs : List UInt8} {a : Option Addr} {ns : List Int} {Q : Heap → Prop} (hb : h b = some (stylO bs))
    (hr : ∀ i n, ns[i]? = some n → ∃ A, a = some A ∧ A.block ≠ b ∧ cellH B h (A.add i) = some (.int .i64 n))
    (hn : ∀ n ∈ ns, n ≤ 9223372036854775807) (hbd : bs.length + (ns.length + 1) * 20 ≤ 1099511627776)
    (hQ : Q (h.set b (stylO (bs ++ natsB ns)))) : C_stylus_Stylus_Nat B (some ⟨b, 0, none⟩) a ns.length c h Q := by
  refine C_stylus_Stylus_Nat.of ?_
  unfold S_stylus_Stylus_Nat
  have hset : ∀ k, natsB (ns.take k) = [] → True := fun _ _ => trivial
  refine ⟨fun i m h' => ∃ k : Nat, k ≤ ns.length ∧ i = k ∧ m = ns.length - k ∧ h' = h.set b (stylO (bs ++ natsB (ns.take k))), ns.length, Fin.of ⟨0, by omega, rfl, by omega, ?_⟩, ?_⟩
  · rw [List.take_zero, show natsB [] = [] from rfl, List.append_nil, Heap.set_self _ _ _ hb]
  · rintro i m h6 ⟨k, hk, rfl, rfl, rfl⟩
    refine ⟨fun hlt => ?_, fun hge => ?_⟩
    · have hk' : k < ns.length := by omega
      have hw : IntKind.wrap .i64 ((k : Int) + 1) = ((k + 1 : Nat) : Int) := by rw [w64 (by omega) (by omega)]; omega
      obtain ⟨A, e1, e2, e3⟩ := hr k ns[k] (List.getElem?_eq_getElem hk')
      have hle := natsB_length (ns.take k) (fun n hm => hn n (List.mem_of_mem_take hm))
      rw [List.length_take, Nat.min_eq_left hk] at hle
      have hnk := hn ns[k] (List.getElem_mem hk')
      refine ⟨A, e1, by omega, hlt, ns[k], ?_, fun hneg => ?_, fun hpos => ?_⟩
      · rw [cellH_set_ne (by rw [Addr.add_block]; exact e2)]
        simpa using e3
      · refine Fin.of ⟨ns.length - (k + 1), by omega, k + 1, by omega, hw, rfl, ?_⟩
        rw [natsB_take_succ ns k hk', natI, if_pos hneg, List.append_nil]
      · obtain ⟨v, hv⟩ := Int.eq_ofNat_of_zero_le (show 0 ≤ ns[k] by omega)
        have hnat : natI ns[k] = natB v := by rw [natI, if_neg hpos, hv]; rfl
        have hvl : (natB v).length ≤ 10 := natB_length (by omega)
        refine ⟨fun i m h' => ∃ (u : Nat) (pre : List UInt8), i = u ∧ u = m ∧ pre ++ natB u = natB v ∧ h' = h.set b (stylO (bs ++ natsB (ns.take k) ++ pre)), v, Fin.of ⟨v, [], hv, rfl, rfl, by rw [List.append_nil]⟩, ?_⟩
        rintro _ _ h35 ⟨u, pre, rfl, rfl, hpre, rfl⟩
        have hpl : pre.length ≤ 10 := by have := congrArg List.length hpre; simp only [List.length_append] at this; omega
        refine ⟨fun hge => ?_, fun hlt2 => ?_⟩
        · refine ⟨_, rfl, stylus_byte (bs := bs ++ natsB (ns.take k) ++ pre) (orByte u) (Heap.set_same _ _ _) (by simp only [List.length_append]; omega) ?_⟩
          intro a' n' c' h3 h4 s1 s2
          refine ⟨a', n', c', rfl, _, rfl, h4, s1, by decide, Fin.ent s2 (Fin.of ⟨u / 128, by omega, u / 128, pre ++ [UInt8.ofNat (u % 128 + 128)], shr7 u, rfl, ?_, ?_⟩)⟩
          · rw [← hpre, natB_hi (n := u) (by omega)]; simp
          · rw [Heap.set_set]; simp
        · refine Fin.of ?_
          unfold S_stylus_Stylus_Nat_J1
          refine ⟨_, rfl, stylus_byte (bs := bs ++ natsB (ns.take k) ++ pre) (lowByte (v := u) (by omega)) (Heap.set_same _ _ _) (by simp only [List.length_append]; omega) ?_⟩
          intro a' n' c' h3 h4 s1 s2
          refine ⟨a', n', c', rfl, _, rfl, h4, s1, Fin.ent s2 (Fin.of ⟨ns.length - (k + 1), by omega, k + 1, by omega, hw, rfl, ?_⟩)⟩
          rw [Heap.set_set, natsB_take_succ ns k hk', hnat, ← hpre, natB_lo (n := u) (by omega)]; simp
    · have : k = ns.length := by omega
      subst this
      refine Fin.of ?_
      rwa [List.take_length]
theorem raw_wp {b : Nat} {bs : List UInt8} {s : ByteArray} {Q : Heap → Prop} (hb : h b = some (stylO bs)) (hbd : bs.length + s.size ≤ 1099511627776)
    (hQ : Q (h.set b (stylO (bs ++ bl s)))) : C_stylus_Stylus_Raw B (some ⟨b, 0, none⟩) s h Q := by
  refine C_stylus_Stylus_Raw.of ?_
  unfold S_stylus_Stylus_Raw
  refine ⟨_, rfl, app_str TK.slc_bytes TK.zero_byte rfl (by omega) TK.str hb rfl (by simpa using hbd) ?_⟩
  intro a' n' c' h3 h4 s1 s2
  refine ⟨a', n', c', rfl, _, rfl, h4, s1, Fin.ent s2 (Fin.of ?_)⟩
  have : (fun c : UInt8 => Value.int .u8 c.toNat) = byteV := rfl
  simpa [stylO, bl, this] using hQ
theorem bytes_wp {b : Nat} {bs : List UInt8} {Q : ByteArray → Heap → Prop} (hb : h b = some (stylO bs)) (hQ : Q (ba bs) h) : C_stylus_Stylus_Bytes B (some ⟨b, 0, none⟩) h Q := by
  refine C_stylus_Stylus_Bytes.of ?_
  unfold S_stylus_Stylus_Bytes
  refine ⟨_, rfl, .inr ⟨_, _, _, _, _, _, rfl, hb, rfl, fun a m c h1 ho => ?_⟩⟩
  refine semH_convB (by kernel_rfl) ?_
  refine semH_bytesToString ho.row ⟨ba bs, rfl, Fin.ent (ho.back hb rfl) (Fin.of hQ)⟩
theorem text_wp {b c : Nat} {bs : List UInt8} {a : Option Addr} {ts : List ByteArray} {Q : Heap → Prop} (hb : h b = some (stylO bs))
    (hr : ∀ i s, ts[i]? = some s → ∃ A, a = some A ∧ A.block ≠ b ∧ cellH B h (A.add i) = some (.string s))
    (hbd : bs.length + (ts.map fun s => s.size + 50).sum ≤ 1099511627776)
    (hQ : Q (h.set b (stylO (bs ++ ts.flatMap fun s => natB s.size ++ bl s)))) : C_stylus_Stylus_Text B (some ⟨b, 0, none⟩) a ts.length c h Q := by
  refine C_stylus_Stylus_Text.of ?_
  unfold S_stylus_Stylus_Text
  have hlen : ∀ (l : List ByteArray), 50 * l.length ≤ (l.map fun s => s.size + 50).sum := by
    intro l; induction l with
    | nil => simp
    | cons s l ih => simp only [List.length_cons, List.map_cons, List.sum_cons]; omega
  have hsum : ∀ k (hk : k < ts.length), (ts.map fun s => s.size + 50).sum = ((ts.take k).map fun s => s.size + 50).sum + (ts[k].size + 50) + ((ts.drop (k + 1)).map fun s => s.size + 50).sum := by
    intro k hk
    have : ts = ts.take k ++ (ts[k] :: ts.drop (k + 1)) := by rw [← List.drop_eq_getElem_cons hk, List.take_append_drop]
    conv => lhs; rw [this]
    simp only [List.map_append, List.sum_append, List.map_cons, List.sum_cons]; omega
  have hfl : ∀ (l : List ByteArray), (∀ s ∈ l, s.size < 18446744073709551616) → (l.flatMap fun s => natB s.size ++ bl s).length ≤ (l.map fun s => s.size + 50).sum := by
    intro l; induction l with
    | nil => simp
    | cons s l ih =>
      intro hs
      have h1 := ih (fun x hx => hs x (by simp [hx]))
      have h2 := natB_length (hs s (by simp))
      simp only [List.flatMap_cons, List.length_append, List.map_cons, List.sum_cons, bl_length]; omega
  have hall : ∀ s ∈ ts, s.size < 1099511627777 := by
    intro s hs
    obtain ⟨k, hk, rfl⟩ := List.mem_iff_getElem.1 hs
    have := hsum k hk; omega
  refine ⟨fun i m h' => ∃ k : Nat, k ≤ ts.length ∧ i = k ∧ m = ts.length - k ∧ h' = h.set b (stylO (bs ++ (ts.take k).flatMap fun s => natB s.size ++ bl s)), ts.length, Fin.of ⟨0, by omega, rfl, by omega, ?_⟩, ?_⟩
  · rw [List.take_zero, List.flatMap_nil, List.append_nil, Heap.set_self _ _ _ hb]
  · rintro i m h6 ⟨k, hk, rfl, rfl, rfl⟩
    refine ⟨fun hlt => ?_, fun hge => ?_⟩
    · have hk' : k < ts.length := by omega
      have hl0 := hlen ts
      have hw : IntKind.wrap .i64 ((k : Int) + 1) = ((k + 1 : Nat) : Int) := by rw [w64 (by omega) (by omega)]; omega
      obtain ⟨A, e1, e2, e3⟩ := hr k ts[k] (List.getElem?_eq_getElem hk')
      have hle := hfl (ts.take k) (fun s hm => by have := hall s (List.mem_of_mem_take hm); omega)
      have hsk := hsum k hk'
      have hak := hall ts[k] (List.getElem_mem hk')
      refine ⟨A, e1, by omega, hlt, ts[k], ?_, fun k15 hk1 hk2 h16 e16 => ?_⟩
      · rw [cellH_set_ne (by rw [Addr.add_block]; exact e2)]
        simpa using e3
      · subst e16
        have hbk : b ≠ k15 := fun e => by rw [← e, Heap.set_same] at hk1; cases hk1
        have hb1 : ((h.set b (stylO (bs ++ (ts.take k).flatMap fun s => natB s.size ++ bl s))).set k15 (.vec TY.int (plains [.int .i64 ((ts[k].size : Nat) : Int)]) 1)) b = some (stylO (bs ++ (ts.take k).flatMap fun s => natB s.size ++ bl s)) := by
          rw [Heap.set_ne _ _ _ _ hbk, Heap.set_same]
        refine nat_wp (ns := [((ts[k].size : Nat) : Int)]) hb1 ?_ (by simp; omega) (by simp only [List.length_append, List.length_singleton]; omega) ?_
        · intro i n hi
          cases i with
          | zero =>
            cases hi
            exact ⟨_, rfl, Ne.symm hbk, cellH_vec (Heap.set_same _ _ _) rfl⟩
          | succ i => cases hi
        · have hnat : natsB [((ts[k].size : Nat) : Int)] = natB ts[k].size := natsB_one _
          have hnl := natB_length (n := ts[k].size) (by omega)
          refine raw_wp (Heap.set_same _ _ _) (by rw [hnat]; simp only [List.length_append]; omega) ?_
          refine Fin.ent (Ent.forget (h' := h.set b (stylO (bs ++ (ts.take (k + 1)).flatMap fun s => natB s.size ++ bl s))) ?_) (Fin.of ⟨ts.length - (k + 1), by omega, k + 1, by omega, hw, rfl, rfl⟩)
          intro c o hc
          rw [Heap.set_set]
          by_cases hcb : c = b
          · subst hcb
            rw [Heap.set_same] at hc ⊢
            rw [← hc, List.take_succ_eq_append_getElem hk', List.flatMap_append, hnat]
            simp
          · rw [Heap.set_ne _ _ _ _ hcb] at hc ⊢
            have hck : c ≠ k15 := fun e => by
              rw [e] at hc
              rw [Heap.set_ne _ _ _ _ (Ne.symm hbk)] at hk1
              rw [hk1] at hc; cases hc
            rw [Heap.set_ne _ _ _ _ hck, Heap.set_ne _ _ _ _ hcb]; exact hc
    · have : k = ts.length := by omega
      subst this
      refine Fin.of ?_
      rwa [List.take_length]
def readO (s : ByteArray) (bad : Bool) : AObj := .vec TY.stylus_Reader (plains [.string s, .bool bad]) 2
theorem of_wp {s : ByteArray} {Q : Option Addr → Heap → Prop} (hQ : ∀ k, h k = none → B k = none → Q (some ⟨k, 0, none⟩) (h.set k (readO s false))) : C_stylus_Of B s h Q := by
  refine C_stylus_Of.of ?_
  unfold S_stylus_Of
  intro k h1 h2 h3 e
  subst e
  exact Fin.of (hQ k h1 h2)
theorem styl_new {k : Nat} {hh : Heap} (e : hh k = some (.vec TY.stylus_Stylus (plains [Value.slice none 0 0]) 1)) : Ent B hh (hh.set k (stylO [])) :=
  Ent.close_nil (e := TY.uint8) (sz := 1) (i := 0) e rfl
theorem nat1_wp {b k c : Nat} {bs : List UInt8} {x : Int} {Q : Heap → Prop} (hb : h b = some (stylO bs)) (hk : h k = some (.vec TY.int (plains [.int .i64 x]) 1)) (hne : k ≠ b) (hx : x ≤ 9223372036854775807) (hbd : bs.length + 40 ≤ 1099511627776)
    (hQ : Q (h.set b (stylO (bs ++ natI x)))) : C_stylus_Stylus_Nat B (some ⟨b, 0, none⟩) (some ⟨k, 0, none⟩) 1 c h Q := by
  refine nat_wp (ns := [x]) hb ?_ (by simpa using hx) hbd (by simpa [natsB] using hQ)
  intro i n hi
  cases i with
  | zero => cases hi; exact ⟨_, rfl, hne, cellH_vec hk rfl⟩
  | succ i => cases hi
theorem text1_wp {b k c : Nat} {bs : List UInt8} {x : ByteArray} {Q : Heap → Prop} (hb : h b = some (stylO bs)) (hk : h k = some (.vec TY.string (plains [.string x]) 1)) (hne : k ≠ b) (hbd : bs.length + (x.size + 50) ≤ 1099511627776)
    (hQ : Q (h.set b (stylO (bs ++ (natB x.size ++ bl x))))) : C_stylus_Stylus_Text B (some ⟨b, 0, none⟩) (some ⟨k, 0, none⟩) 1 c h Q := by
  refine text_wp (ts := [x]) hb ?_ (by simpa using hbd) (by simpa using hQ)
  intro i n hi
  cases i with
  | zero => cases hi; exact ⟨_, rfl, hne, cellH_vec hk rfl⟩
  | succ i => cases hi
end
end Go.Proofs.Ytlehephbflgblaa.H
namespace Go.Proofs.Ytlehephbflgblaa.H
open Go
set_option linter.unusedVariables false
set_option maxRecDepth 100000
theorem TK.byteStr : byteStr PG TY.s_uint8 TY.string = true := by kernel_rfl
section
variable {B : RO} {h : Heap}
structure Item where
  kind : Int
  n : Int
  s : ByteArray
def Item.cells (x : Item) : List Value := [.int .i64 x.kind, .int .i64 x.n, .string x.s]
def Item.ok (x : Item) : Prop := -9223372036854775808 ≤ x.n ∧ x.n ≤ 9223372036854775807
def Item.bytes (x : Item) : List UInt8 :=
  if x.kind = 0 then natI x.n else if x.kind = 1 then natB (zig x.n) else if x.kind = 2 then bl x.s else if x.kind = 3 then natB x.s.size ++ bl x.s else []
end
end Go.Proofs.Ytlehephbflgblaa.H
namespace Go.Proofs.Ytlehephbflgblaa.H
open Go
set_option linter.unusedVariables false
set_option maxRecDepth 100000
section
variable {B : RO} {h : Heap}
def rdO (l : List UInt8) (bad : Bool) : AObj := readO (ba l) bad
theorem spoil_wp {b : Nat} {l : List UInt8} {bad : Bool} {Q : Heap → Prop} (hb : h b = some (rdO l bad)) (hQ : Q (h.set b (rdO [] true))) : C_stylus_Reader_Spoil B (some ⟨b, 0, none⟩) h Q := by
  refine C_stylus_Reader_Spoil.of ?_
  unfold S_stylus_Reader_Spoil
  refine ⟨(fun e => by cases e), fun _ => ⟨_, rfl, _, storeH_vec hb rfl, _, rfl, _, storeH_vec (Heap.set_same _ _ _) rfl, Fin.of ?_⟩⟩
  rw [Heap.set_set]
  exact hQ
def rRaw (k : Int) (l : List UInt8) (bad : Bool) : List UInt8 × List UInt8 × Bool := if bad = true ∨ k < 0 ∨ (l.length : Int) < k then ([], [], true) else (l.take k.toNat, l.drop k.toNat, false)
theorem rraw_wp {b : Nat} {l : List UInt8} {bad : Bool} {k : Int} {Q : ByteArray → Heap → Prop} (hb : h b = some (rdO l bad)) (hQ : Q (ba (rRaw k l bad).1) (h.set b (rdO (rRaw k l bad).2.1 (rRaw k l bad).2.2))) : C_stylus_Reader_Raw B (some ⟨b, 0, none⟩) k h Q := by
  refine C_stylus_Reader_Raw.of ?_
  unfold S_stylus_Reader_Raw
  refine ⟨(fun e => by cases e), fun _ => ⟨_, rfl, bad, cellH_vec hb rfl, fun e => ?_, fun e => ⟨fun hk => ?_, fun hk => ⟨_, rfl, _, cellH_vec hb rfl, fun hgt => ?_, fun hgt => Fin.of ?_⟩⟩⟩⟩
  · rw [rRaw, if_pos (.inl e)] at hQ
    exact spoil_wp hb (Fin.of hQ)
  · rw [rRaw, if_pos (.inr (.inl hk))] at hQ
    exact spoil_wp hb (Fin.of hQ)
  · rw [ba_size] at hgt
    rw [rRaw, if_pos (.inr (.inr (by omega)))] at hQ
    exact spoil_wp hb (Fin.of hQ)
  · rw [ba_size] at hgt
    rw [rRaw, if_neg (by rw [e]; simp; omega)] at hQ
    unfold S_stylus_Reader_Raw_J1
    refine ⟨_, rfl, _, cellH_vec hb rfl, by omega, by omega, by rw [ba_size]; omega, _, rfl, _, cellH_vec hb rfl, by omega, by rw [ba_size]; omega, by omega, _, rfl, _, storeH_vec hb rfl, Fin.of ?_⟩
    have e1 : (ba l).extract (Int.toNat 0) (Int.toNat k) = ba (l.take k.toNat) := extract_ba l _
    have e2 : (ba l).extract (Int.toNat k) (Int.toNat (((ba l).size : Nat) : Int)) = ba (l.drop k.toNat) := by
      rw [ba_size, Int.toNat_natCast]; exact extract_ba_end l _
    rw [e1, e2]
    rw [← e] at hQ
    exact hQ
noncomputable def rWord (l : List UInt8) (bad : Bool) : Nat × List UInt8 × Bool := if bad = true then (0, [], true) else match wordOf l with
  | some (n, r) => (n, r, false)
  | none => (0, [], true)
theorem rWord_bad (l : List UInt8) : rWord l true = (0, [], true) := by rw [rWord, if_pos rfl]
theorem rWord_none {l : List UInt8} (h : wordOf l = none) (bad : Bool) : rWord l bad = (0, [], true) := by
  cases bad
  · rw [rWord, if_neg (by simp), h]
  · exact rWord_bad l
theorem rWord_some {l r : List UInt8} {n : Nat} (h : wordOf l = some (n, r)) : rWord l false = (n, r, false) := by rw [rWord, if_neg (by simp), h]
theorem word_wp {b : Nat} {l : List UInt8} {bad : Bool} {Q : Int → Heap → Prop} (hb : h b = some (rdO l bad)) (hQ : Q ((rWord l bad).1 : Nat) (h.set b (rdO (rWord l bad).2.1 (rWord l bad).2.2))) : C_stylus_Reader_word B (some ⟨b, 0, none⟩) h Q := by
  refine C_stylus_Reader_word.of ?_
  unfold S_stylus_Reader_word
  cases bad with
  | true =>
    rw [rWord_bad] at hQ
    refine ⟨fun u i m h' => u = 0 ∧ i = 0 ∧ h' = h, 0, Fin.of ⟨rfl, rfl, rfl⟩, ?_⟩
    rintro _ _ m _ ⟨rfl, rfl, rfl⟩
    refine ⟨fun _ => rraw_wp hb ?_, fun hn => absurd hn (by decide)⟩
    have e : rRaw 1 l true = ([], [], true) := by rw [rRaw, if_pos (.inl rfl)]
    rw [e]
    refine ⟨fun _ => spoil_wp (Heap.set_same _ _ _) (Fin.of ?_), fun hn => absurd ba_nil hn⟩
    rw [Heap.set_set]; exact hQ
  | false =>
    refine ⟨fun u i m h' => ∃ (k acc : Nat) (rest : List UInt8), k ≤ 9 ∧ u = acc ∧ i = ((7 * k : Nat) : Int) ∧ m = 10 - k ∧ Half l k acc rest ∧ h' = h.set b (rdO rest false), 10, Fin.of ⟨0, 0, l, by omega, rfl, rfl, rfl, Half.zero l, (Heap.set_self _ _ _ hb).symm⟩, ?_⟩
    rintro _ _ _ _ ⟨k, acc, rest, hk, rfl, rfl, rfl, hH, rfl⟩
    have gs : (h.set b (rdO rest false)) b = some (rdO rest false) := Heap.set_same _ _ _
    refine ⟨fun _ => ?_, fun hn => by omega⟩
    have fail : wordOf l = none → ∀ h', (∃ l' b', h' = h.set b (rdO l' b')) → C_stylus_Reader_Spoil B (some ⟨b, 0, none⟩) h' (fun h17 => Fin B h17 (Q 0)) := by
      rintro hno h' ⟨l', b', rfl⟩
      rw [rWord_none hno] at hQ
      refine spoil_wp (Heap.set_same _ _ _) (Fin.of ?_)
      rw [Heap.set_set]; exact hQ
    cases rest with
    | nil =>
      refine rraw_wp gs ?_
      have e : rRaw 1 [] false = ([], [], true) := by rw [rRaw, if_pos (.inr (.inr (by simp)))]
      rw [e]
      exact ⟨fun _ => fail hH.empty _ ⟨_, _, by rw [Heap.set_set]⟩, fun hn => absurd ba_nil hn⟩
    | cons c t =>
      refine rraw_wp gs ?_
      have e : rRaw 1 (c :: t) false = ([c], t, false) := by rw [rRaw, if_neg (by simp; omega)]; rfl
      rw [e]
      have hx := c.toNat_lt
      have hb0 : byteAt (ba [c]) (Int.toNat 0) = ((c.toNat : Nat) : Int) := rfl
      have hsz : (ba [c]).size = 1 := rfl
      have hne : ¬ ba [c] = ByteArray.mk #[] := fun e => by have := ba_inj (e.trans ba_nil.symm); cases this
      refine ⟨fun e => absurd e hne, fun _ => ?_⟩
      simp only [Heap.set_set, hb0, hsz]
      have go : (0 < k → c.toNat ≠ 0) → (k = 9 → c.toNat ≤ 1) → S_stylus_Reader_word_J1 B (some ⟨b, 0, none⟩) ((acc : Nat) : Int) ((7 * k : Nat) : Int) (10 - k) (fun u i m h' => ∃ (k acc : Nat) (rest : List UInt8), k ≤ 9 ∧ u = acc ∧ i = ((7 * k : Nat) : Int) ∧ m = 10 - k ∧ Half l k acc rest ∧ h' = h.set b (rdO rest false)) (ba [c]) (h.set b (rdO t false)) Q := by
        intro q0 q9
        unfold S_stylus_Reader_word_J1
        simp only [hb0, hsz]
        refine ⟨by omega, by omega, by omega, by omega, by omega, fun hlt => Fin.of ?_, fun hge => Fin.of ?_⟩
        · have hlt' : c.toNat < 128 := by omega
          have hbd := hH.bound hk hlt' q9
          rw [orShift hH.1 hk hx (by rw [Nat.mod_eq_of_lt hlt']; exact hbd), Nat.mod_eq_of_lt hlt']
          rw [rWord_some (wordOf_some (hH.done hlt' q0) hbd)] at hQ
          exact hQ
        · have hge' : 128 ≤ c.toNat := by omega
          have hk8 : k < 9 := by
            by_cases h9 : k = 9
            · have := q9 h9; omega
            · omega
          have hsu := hH.succ hge'
          have hp : 2 ^ (7 * (k + 1)) ≤ 2 ^ 63 := Nat.pow_le_pow_right (by omega) (by omega)
          have := hsu.1
          rw [orShift hH.1 hk hx (by omega)]
          refine ⟨9 - k, by omega, k + 1, _, t, by omega, rfl, ?_, by omega, hsu, rfl⟩
          rw [w64 (by omega) (by omega)]; omega
      refine ⟨fun h63 => ⟨by omega, by omega, fun hgt => ?_, fun hle => ?_⟩, fun h63 => ?_⟩
      · have : k = 9 := by omega
        subst this
        exact fail (hH.great (by omega)) _ ⟨_, _, rfl⟩
      · refine ⟨fun hpos => ⟨by omega, by omega, fun h0 => fail (hH.zeroByte (by omega) (by omega)) _ ⟨_, _, rfl⟩, fun h0 => Fin.of (go (fun _ => by omega) (fun _ => by omega))⟩, fun hpos => Fin.of (go (fun _ => by omega) (fun _ => by omega))⟩
      · refine ⟨fun hpos => ⟨by omega, by omega, fun h0 => fail (hH.zeroByte (by omega) (by omega)) _ ⟨_, _, rfl⟩, fun h0 => Fin.of (go (fun _ => by omega) (fun _ => by omega))⟩, fun hpos => Fin.of (go (fun _ => by omega) (fun _ => by omega))⟩
noncomputable def rNat (most : Int) (l : List UInt8) (bad : Bool) : Nat × List UInt8 × Bool := if most < 0 ∨ most < ((rWord l bad).1 : Nat) then (0, [], true) else rWord l bad
theorem rnat_wp {b : Nat} {l : List UInt8} {bad : Bool} {most : Int} {Q : Int → Heap → Prop} (hm : most ≤ 9223372036854775807) (hb : h b = some (rdO l bad)) (hQ : Q ((rNat most l bad).1 : Nat) (h.set b (rdO (rNat most l bad).2.1 (rNat most l bad).2.2))) : C_stylus_Reader_Nat B (some ⟨b, 0, none⟩) most h Q := by
  refine C_stylus_Reader_Nat.of ?_
  unfold S_stylus_Reader_Nat
  refine word_wp hb ⟨fun hn => ?_, fun hn => ⟨fun hgt => ?_, fun hle => Fin.of ?_⟩⟩
  · rw [rNat, if_pos (.inl hn)] at hQ
    exact spoil_wp (Heap.set_same _ _ _) (Fin.of (by rw [Heap.set_set]; exact hQ))
  · have e : IntKind.wrap .u64 most = most := by rw [wu64]; omega
    rw [e] at hgt
    rw [rNat, if_pos (.inr hgt)] at hQ
    exact spoil_wp (Heap.set_same _ _ _) (Fin.of (by rw [Heap.set_set]; exact hQ))
  · have e : IntKind.wrap .u64 most = most := by rw [wu64]; omega
    rw [e] at hle
    rw [rNat, if_neg (by omega)] at hQ
    rw [w64 (by omega) (by omega)]
    exact hQ
theorem rbad_wp {b : Nat} {l : List UInt8} {bad : Bool} {Q : Bool → Heap → Prop} (hb : h b = some (rdO l bad)) (hQ : Q bad h) : C_stylus_Reader_Bad B (some ⟨b, 0, none⟩) h Q := by
  refine C_stylus_Reader_Bad.of ?_
  unfold S_stylus_Reader_Bad
  exact ⟨(fun e => by cases e), fun _ => ⟨_, rfl, bad, cellH_vec hb rfl, Fin.of hQ⟩⟩
theorem rleft_wp {b : Nat} {l : List UInt8} {bad : Bool} {Q : Int → Heap → Prop} (hb : h b = some (rdO l bad)) (hQ : Q (l.length : Nat) h) : C_stylus_Reader_Left B (some ⟨b, 0, none⟩) h Q := by
  refine C_stylus_Reader_Left.of ?_
  unfold S_stylus_Reader_Left
  refine ⟨(fun e => by cases e), fun _ => ⟨_, rfl, ba l, cellH_vec hb rfl, Fin.of ?_⟩⟩
  rw [ba_size]; exact hQ
end
end Go.Proofs.Ytlehephbflgblaa.H
namespace Go.Proofs.Ytlehephbflgblaa.H
open Go
set_option linter.unusedVariables false
set_option maxRecDepth 100000
section
variable {B : RO} {h : Heap}
noncomputable def rText (most : Int) (l : List UInt8) (bad : Bool) : List UInt8 × List UInt8 × Bool := rRaw ((rNat most l bad).1 : Nat) (rNat most l bad).2.1 (rNat most l bad).2.2
theorem rtext_wp {b : Nat} {l : List UInt8} {bad : Bool} {most : Int} {Q : ByteArray → Heap → Prop} (hm : most ≤ 9223372036854775807) (hb : h b = some (rdO l bad)) (hQ : Q (ba (rText most l bad).1) (h.set b (rdO (rText most l bad).2.1 (rText most l bad).2.2))) : C_stylus_Reader_Text B (some ⟨b, 0, none⟩) most h Q := by
  refine C_stylus_Reader_Text.of ?_
  unfold S_stylus_Reader_Text
  refine rnat_wp hm hb (rraw_wp (Heap.set_same _ _ _) (Fin.of ?_))
  rw [Heap.set_set]
  exact hQ
theorem rof_wp {l : List UInt8} {s : ByteArray} {Q : Option Addr → Heap → Prop} (hs : s = ba l) (hQ : ∀ k, h k = none → B k = none → Q (some ⟨k, 0, none⟩) (h.set k (rdO l false))) : C_stylus_Of B s h Q := by
  subst hs
  exact of_wp hQ
theorem rRaw_ok (x r : List UInt8) : rRaw (x.length : Nat) (x ++ r) false = (x, r, false) := by
  rw [rRaw, if_neg (by simp; omega)]
  simp
end
end Go.Proofs.Ytlehephbflgblaa.H
namespace Go.Proofs.Ytlehephbflgblaa.H
open Go Go.RowKit
set_option linter.unusedVariables false
set_option maxRecDepth 100000
theorem natB_0 : natB 0 = [0] := by rw [natB_lo (by omega)]; rfl
theorem natB_1 : natB 1 = [1] := by rw [natB_lo (by omega)]; rfl
theorem natI_nat (n : Nat) : natI (n : Int) = natB n := by rw [natI, if_neg (by omega), Int.toNat_natCast]
noncomputable def natT (most : Nat) (l : List UInt8) : Option (Nat × List UInt8) :=
  match wordOf l with
  | none => none
  | some (n, r) => if most < n then none else some (n, r)
theorem natT_some {most n : Nat} {l r : List UInt8} (h : natT most l = some (n, r)) : wordOf l = some (n, r) ∧ n ≤ most := by
  unfold natT at h
  cases hw : wordOf l with
  | none => rw [hw] at h; cases h
  | some p =>
    obtain ⟨n', r'⟩ := p
    rw [hw] at h
    simp only at h
    split at h
    · cases h
    · cases h; exact ⟨rfl, by omega⟩
theorem natT_eq {most n : Nat} {l r : List UInt8} (h : natT most l = some (n, r)) : l = natB n ++ r ∧ n ≤ most := ⟨(wordOf_eq (natT_some h).1).1, (natT_some h).2⟩
theorem natT_ok {most n : Nat} (hn : n ≤ most) (hm : most < 18446744073709551616) (r : List UInt8) : natT most (natB n ++ r) = some (n, r) := by
  rw [natT, wordOf_some rfl (by omega)]; simp; omega
theorem rNat_none {most : Nat} {l : List UInt8} (h : natT most l = none) : rNat most l false = (0, [], true) := by
  unfold natT at h
  cases hw : wordOf l with
  | none => rw [rNat, rWord_none hw]; simp
  | some p =>
    obtain ⟨n', r'⟩ := p
    rw [hw] at h
    simp only at h
    split at h
    · rw [rNat, rWord_some hw]; simp; omega
    · cases h
theorem rNat_some {most n : Nat} {l r : List UInt8} (h : natT most l = some (n, r)) : rNat most l false = (n, r, false) := by
  obtain ⟨hw, hn⟩ := natT_some h
  rw [rNat, rWord_some hw, if_neg (by simp only; omega)]
theorem rNat_bad (most : Int) : rNat most [] true = (0, [], true) := by
  rw [rNat, rWord_bad]; simp
theorem rText_none {most : Nat} {l : List UInt8} (h : natT most l = none) : rText most l false = ([], [], true) := by
  rw [rText, rNat_none h]; simp [rRaw]
theorem rText_short {most n : Nat} {l r : List UInt8} (h : natT most l = some (n, r)) (hs : r.length < n) : rText most l false = ([], [], true) := by
  rw [rText, rNat_some h, rRaw, if_pos (by simp only; omega)]
theorem rText_some {most n : Nat} {l r : List UInt8} (h : natT most l = some (n, r)) (hs : ¬ r.length < n) : rText most l false = (r.take n, r.drop n, false) := by
  rw [rText, rNat_some h, rRaw, if_neg (by simp only; simp; omega)]; simp
end Go.Proofs.Ytlehephbflgblaa.H
namespace Go.Proofs.Ytlehephbflgblaa.H
open Go Go.RowKit
set_option linter.unusedVariables false
set_option maxRecDepth 100000
noncomputable def firstL : List UInt8 → Option (Nat × List UInt8)
  | [] => none
  | b :: t => if b = 0 then (match natT 1099511627776 t with
    | none => none
    | some (n, r) => if n = 0 then none else some (n, r)) else none
theorem firstL_b {b : UInt8} {t : List UInt8} (h : b ≠ 0) : firstL (b :: t) = none := by simp [firstL, h]
theorem firstL_n {t : List UInt8} (h : natT 1099511627776 t = none) : firstL (0 :: t) = none := by simp [firstL, h]
theorem firstL_z {t r : List UInt8} (h : natT 1099511627776 t = some (0, r)) : firstL (0 :: t) = none := by simp [firstL, h]
theorem firstL_s {t r : List UInt8} {n : Nat} (h : natT 1099511627776 t = some (n, r)) (hn : n ≠ 0) : firstL (0 :: t) = some (n, r) := by simp [firstL, h, hn]
def loadsL : List (List UInt8) → List (List UInt8)
  | [] => []
  | [] :: _ => []
  | (b :: r) :: t => if b = 1 then r :: loadsL t else []
theorem loadsL_nil (t : List (List UInt8)) : loadsL ([] :: t) = [] := rfl
theorem loadsL_no {b : UInt8} {r : List UInt8} {t : List (List UInt8)} (h : b ≠ 1) : loadsL ((b :: r) :: t) = [] := by simp [loadsL, h]
theorem loadsL_yes {r : List UInt8} {t : List (List UInt8)} : loadsL ((1 :: r) :: t) = r :: loadsL t := by simp [loadsL]
structure TDL where
  e : Nat
  im : List UInt8
  ls : List (List UInt8)
noncomputable def toldR : List (List UInt8) → TDL
  | [] => ⟨0, [], []⟩
  | l :: t => match firstL l with
    | none => ⟨0, [], []⟩
    | some (n, r) => ⟨n, r, loadsL t⟩
theorem toldR_nil : toldR [] = ⟨0, [], []⟩ := rfl
theorem toldR_none {l : List UInt8} {t : List (List UInt8)} (h : firstL l = none) : toldR (l :: t) = ⟨0, [], []⟩ := by rw [toldR, h]
theorem toldR_some {l r : List UInt8} {t : List (List UInt8)} {n : Nat} (h : firstL l = some (n, r)) : toldR (l :: t) = ⟨n, r, loadsL t⟩ := by rw [toldR, h]
noncomputable def toldL (b : List UInt8) : TDL := toldR (allL b)
noncomputable def foundL (a b : List UInt8) : TDL := if (toldL a).e < (toldL b).e then toldL b else toldL a
noncomputable def areaL (a b : List UInt8) : Int := if (toldL a).e < (toldL b).e then 1 else 0
def imgL (n : Nat) (im : List UInt8) : List UInt8 := 0 :: (natB n ++ im)
end Go.Proofs.Ytlehephbflgblaa.H
namespace Go.Proofs.Ytlehephbflgblaa.H
open Go Go.RowKit
set_option linter.unusedVariables false
set_option maxRecDepth 100000
def foundO (im : List UInt8) (v : Value) : AObj := .vec TY.vault_Found (plains [.string (ba im), v]) 2
def vltO (kD kl : Nat) (e : Nat) (ready : Bool) : AObj := .vec TY.vault_Vault (plains [.pointer (some ⟨kD, 0, none⟩), .pointer (some ⟨kl, 0, none⟩), .int .i64 (e : Nat), .bool ready]) 4
theorem strC_one (l : List UInt8) : ∀ y ∈ strC l, isOne y = true := fun y hy => by simp [strC] at hy; subst hy; rfl
theorem allL_small (b : List UInt8) : (allL b).length ≤ b.length := by
  have h1 := wholeL_le b
  have h2 := rowL_len (allL_spec b).1
  have h3 : ∀ ls : List (List UInt8), ls.length ≤ (ls.map fun l => l.length + 6).sum := fun ls => by
    induction ls with
    | nil => simp
    | cons l t ih => simp only [List.map_cons, List.sum_cons, List.length_cons]; omega
  have := h3 (allL b)
  unfold wholeL at h1
  omega
section
variable {B : RO} {h0 h h' : Heap} {L : List (Option (Nat × AObj))} {r : Option (Nat × AObj)} {i j kD kl k sz : Nat} {cs : List Chg} {v : Value} {area : Int} {torn : Bool}
theorem first_wp {l : List UInt8} {Q : Int → ByteArray → Bool → Heap → Prop} (hN : firstL l = none → ∀ e im, Q e im false h) (hS : ∀ n r, firstL l = some (n, r) → Q (n : Nat) (ba r) true h) : C_vault_first B (ba l) h Q := by
  refine C_vault_first.of ?_
  unfold S_vault_first
  refine rof_wp rfl fun k6 a6 b6 => ?_
  have E := (Keep.nil B h).new (o := rdO l false) a6 b6
  have back : ∀ {h1 : Heap} {e : Int} {im : ByteArray} {b : Bool}, Keep B h [] h1 → Q e im b h → Fin B h1 (Q e im b) := fun E q => Fin.ent E.back (Fin.of q)
  refine rnat_wp (by decide) (E.at 0 rfl) ?_
  have E1 := E.put (o' := rdO (rNat 1 l false).2.1 (rNat 1 l false).2.2) 0 rfl
  refine rnat_wp (by decide) (E1.at 0 rfl) ?_
  have E2 := E1.put (o' := rdO (rNat 1099511627776 (rNat 1 l false).2.1 (rNat 1 l false).2.2).2.1 (rNat 1099511627776 (rNat 1 l false).2.1 (rNat 1 l false).2.2).2.2) 0 rfl
  refine rleft_wp (E2.at 0 rfl) (rraw_wp (E2.at 0 rfl) ?_)
  have E3 := E2.put (o' := rdO (rRaw ((rNat 1099511627776 (rNat 1 l false).2.1 (rNat 1 l false).2.2).2.1.length : Nat) (rNat 1099511627776 (rNat 1 l false).2.1 (rNat 1 l false).2.2).2.1 (rNat 1099511627776 (rNat 1 l false).2.1 (rNat 1 l false).2.2).2.2).2.1 (rRaw ((rNat 1099511627776 (rNat 1 l false).2.1 (rNat 1 l false).2.2).2.1.length : Nat) (rNat 1099511627776 (rNat 1 l false).2.1 (rNat 1 l false).2.2).2.1 (rNat 1099511627776 (rNat 1 l false).2.1 (rNat 1 l false).2.2).2.2).2.2) 0 rfl
  refine rbad_wp (E3.at 0 rfl) ?_
  have E4 := E3.take 0
  clear E E1 E2 E3
  have rb : rRaw ((([] : List UInt8).length : Nat) : Int) [] true = ([], [], true) := by simp [rRaw]
  cases t0 : natT 1 l with
  | none =>
    have f0 : rNat 1 l false = (0, [], true) := rNat_none t0
    have f1 : rNat 1099511627776 ([] : List UInt8) true = (0, [], true) := rNat_bad _
    have hf : firstL l = none := by
      cases l with
      | nil => rfl
      | cons b t =>
        refine firstL_b fun e => ?_
        subst e
        have := natT_ok (most := 1) (n := 0) (by omega) (by omega) t
        rw [natB_0] at this
        have e2 : natT 1 (0 :: t) = some (0, t) := this
        rw [e2] at t0; cases t0
    simp only [f0, f1, rb] at E4 ⊢
    exact ⟨fun _ => back E4 (hN hf _ _), fun e => by cases e⟩
  | some p =>
    obtain ⟨kx, r1⟩ := p
    have f0 : rNat 1 l false = (kx, r1, false) := rNat_some t0
    obtain ⟨el, hk⟩ := natT_eq t0
    cases t1 : natT 1099511627776 r1 with
    | none =>
      have f1 : rNat 1099511627776 r1 false = (0, [], true) := rNat_none t1
      have hf : firstL l = none := by
        rw [el]
        by_cases h1 : kx = 1
        · subst h1; rw [natB_1]; exact firstL_b (by decide)
        · have : kx = 0 := by omega
          subst this; rw [natB_0]; exact firstL_n t1
      simp only [f0, f1, rb] at E4 ⊢
      exact ⟨fun _ => back E4 (hN hf _ _), fun e => by cases e⟩
    | some p =>
      obtain ⟨n, r2⟩ := p
      have f1 : rNat 1099511627776 r1 false = (n, r2, false) := rNat_some t1
      have f2 : rRaw ((r2.length : Nat) : Int) r2 false = (r2, [], false) := by
        have := rRaw_ok r2 []
        rwa [List.append_nil] at this
      simp only [f0, f1, f2] at E4 ⊢
      refine ⟨fun e => (by cases e), fun _ => ⟨fun hk0 => ?_, fun hk0 => ?_⟩⟩
      · have : kx = 0 := by omega
        subst this
        rw [natB_0] at el
        by_cases hn : n = 0
        · subst hn
          have hf : firstL l = none := by rw [el]; exact firstL_z t1
          rw [decide_eq_false (by omega)]
          exact back E4 (hN hf _ _)
        · have hf : firstL l = some (n, r2) := by rw [el]; exact firstL_s t1 hn
          rw [decide_eq_true (by omega)]
          exact back E4 (hS n r2 hf)
      · have : kx = 1 := by omega
        subst this
        rw [natB_1] at el
        have hf : firstL l = none := by rw [el]; exact firstL_b (by decide)
        exact back E4 (hN hf _ _)
theorem look_wp {Q : Int → ByteArray → Option Addr → Nat → Nat → Heap → Prop} (E : Keep B h0 L h) (A : DAt L i kD cs k v r) (hj : L[j]? = some (some (kl, walO kD area sz torn))) (ok : DOk cs) (ha : area = 0 ∨ area = 1)
    (hQ : ∀ a c r' h', SRow r' (.slice a (toldL (bl (textD area cs))).ls.length c) (toldL (bl (textD area cs))).ls → Keep B h0 (L ++ [r']) h' → Q ((toldL (bl (textD area cs))).e : Nat) (ba (toldL (bl (textD area cs))).im) a (toldL (bl (textD area cs))).ls.length c h') : C_vault_look B (some ⟨kl, 0, none⟩) h Q := by
  refine C_vault_look.of ?_
  unfold S_vault_look
  intro k7 a7 b7 h8 e8 k9 a9 b9 h10 e10 k11 a11 b11 h12 e12 k13 a13 b13 h14 e14 k15 a15 b15 h16 e16
  have E1 := ((((E.start.nM a7 b7 e8).nM a9 b9 e10).nM a11 b11 e12).nM a13 b13 e14).nM a15 b15 e16
  refine ⟨_, storeH_vec (E1.gM 3 rfl) rfl, ?_⟩
  have E2 := E1.pM (o' := .vec TY.int (plains [.int .i64 0]) 1) 3 rfl
  refine ⟨_, storeH_vec (E2.gM 4 rfl) rfl, ?_⟩
  have E3 := E2.pM (o' := .vec TY.int (plains [.int .i64 0]) 1) 4 rfl
  refine walall_wp fun kc ac bc => ?_
  have E4 := E3.nM (o := .vec TY.p_wal_Log [.plain (.pointer (some ⟨kl, 0, none⟩))] 1) ac bc rfl
  have it := walall_iter (B := B) (kl := kl) (kD := kD) (sz := sz) (torn := torn) (k := k) (v := v) (k3 := kc) ha ok
  have hsm := allL_small (bl (textD area cs))
  have hts := ok.size area
  rw [bl_length] at hsm
  unfold toldL at hQ
  generalize allL (bl (textD area cs)) = rs at it hsm hQ
  have fin : ∀ {h1 : Heap} {ep : Nat} {im : List UInt8} {acc : List (List UInt8)} {a : Option Addr} {c qn : Nat} {r' : Option (Nat × AObj)}, toldR rs = ⟨ep, im, acc⟩ → SRow r' (.slice a acc.length c) acc → Keep B h0 (L ++ [some (k7, .vec TY.int (plains [.int .i64 0]) 1), some (k9, foundO [] (.slice none 0 0)), some (k11, foundO im (.slice a acc.length c)), some (k13, .vec TY.int (plains [.int .i64 (ep : Nat)]) 1), some (k15, .vec TY.int (plains [.int .i64 (qn : Nat)]) 1), r', some (kc, .vec TY.p_wal_Log [.plain (.pointer (some ⟨kl, 0, none⟩))] 1)]) h1 →
      ∃ i66 : Int, cellH B h1 ⟨k13, 0, none⟩ = some (Value.int .i64 (i66)) ∧
      ∃ s68 : ByteArray, ∃ a69 : Option Addr, ∃ n70 : Nat, ∃ c71 : Nat, CellsAt B h1 ⟨k11, 0, none⟩ 0 [(Value.string s68), (Value.slice a69 n70 c71)] ∧
      ∃ h73 : Heap, storeH h1 ⟨k7, 0, none⟩ (Value.int .i64 (i66)) = some h73 ∧
      cellH B h73 ⟨k13, 0, none⟩ = some (Value.int .i64 (i66)) ∧ CellsAt B h73 ⟨k11, 0, none⟩ 0 [(Value.string s68), (Value.slice a69 n70 c71)] ∧
      ∃ h76 : Heap, StoresAt ⟨k9, 0, none⟩ h73 0 [(Value.string s68), (Value.slice a69 n70 c71)] h76 ∧
      ∃ i77 : Int, cellH B h76 ⟨k7, 0, none⟩ = some (Value.int .i64 (i77)) ∧ ∃ s78 : ByteArray, ∃ a79 : Option Addr, ∃ n80 : Nat, ∃ c81 : Nat, CellsAt B h76 ⟨k9, 0, none⟩ 0 [(Value.string s78), (Value.slice a79 n80 c81)] ∧ Fin B h76 (Q (i77) s78 a79 n80 c81) := fun {h1 ep im acc a c qn r'} ht R E => by
    refine ⟨_, E.cM 3 rfl (i := 0) rfl, _, _, _, _, ⟨E.cM 2 rfl (i := 0) rfl, E.cM 2 rfl (i := 1) rfl, trivial⟩, _, storeH_vec (E.gM 0 rfl) rfl, ?_⟩
    have F1 := E.pM (o' := .vec TY.int (plains [.int .i64 (ep : Nat)]) 1) 0 rfl
    refine ⟨F1.cM 3 rfl (i := 0) rfl, ⟨F1.cM 2 rfl (i := 0) rfl, F1.cM 2 rfl (i := 1) rfl, trivial⟩, _, stores_whole (F1.gM 1 rfl) rfl (by simp) (by simp [isOne]) (by simp), ?_⟩
    have F2 := F1.pM (o' := foundO im (.slice a acc.length c)) 1 rfl
    refine ⟨_, F2.cM 0 rfl (i := 0) rfl, _, _, _, _, ⟨F2.cM 1 rfl (i := 0) rfl, F2.cM 1 rfl (i := 1) rfl, trivial⟩, Fin.of ?_⟩
    rw [ht] at hQ
    exact hQ a c r' _ R (F2.sM [5] (by decide))
  refine ⟨rs.map ba, walG kc kl kD area sz torn cs k v, fun q h' => ∃ (ep : Nat) (im : List UInt8) (acc : List (List UInt8)) (a : Option Addr) (c : Nat) (r' : Option (Nat × AObj)), (q = 0 → ep = 0 ∧ im = [] ∧ acc = []) ∧ (1 ≤ q → toldR rs = ⟨ep, im, acc ++ loadsL (rs.drop q)⟩) ∧ acc.length ≤ q ∧ SRow r' (.slice a acc.length c) acc ∧ Keep B h0 (L ++ [some (k7, .vec TY.int (plains [.int .i64 0]) 1), some (k9, foundO [] (.slice none 0 0)), some (k11, foundO im (.slice a acc.length c)), some (k13, .vec TY.int (plains [.int .i64 (ep : Nat)]) 1), some (k15, .vec TY.int (plains [.int .i64 (q : Nat)]) 1), r', some (kc, .vec TY.p_wal_Log [.plain (.pointer (some ⟨kl, 0, none⟩))] 1)]) h', by rw [List.map_map]; exact it, walG_ins, ?_, Fin.of ⟨0, [], [], none, 0, none, fun _ => ⟨rfl, rfl, rfl⟩, fun e => by omega, by simp, Row.nil _ _, ?_⟩, ?_, ?_⟩
  · rintro q h' ⟨ep, im, acc, a, c, r', _, _, _, _, E⟩
    exact ⟨E.gM 6 rfl, E.at j (up_app _ hj), E.at i (up_app _ A.p)⟩
  · have E5 : Keep B h0 (L ++ [some (k7, .vec TY.int (plains [.int .i64 0]) 1), some (k9, foundO [] (.slice none 0 0)), some (k11, foundO [] (.slice none 0 0)), some (k13, .vec TY.int (plains [.int .i64 0]) 1), some (k15, .vec TY.int (plains [.int .i64 0]) 1), some (kc, .vec TY.p_wal_Log [.plain (.pointer (some ⟨kl, 0, none⟩))] 1)]) _ := E4
    exact E5.sM [0, 1, 2, 3, 4, 6, 5] (by decide)
  · clear E E1 E2 E3 E4 e8 e10 e12 e14 e16
    rintro q h23 s21 hg ⟨ep, im, acc, a, c, r', i0, i1, hal, R, E⟩
    rw [List.getElem?_map] at hg
    obtain ⟨l, hl, rfl⟩ := Option.map_eq_some_iff.1 hg
    obtain ⟨hq, hx⟩ := List.getElem?_eq_some_iff.1 hl
    have hw : IntKind.wrap .i64 ((q : Int) + 1) = ((q + 1 : Nat) : Int) := by rw [w64 (by omega) (by omega)]; omega
    refine ⟨_, E.cM 4 rfl (i := 0) rfl, _, storeH_vec (E.gM 4 rfl) rfl, ?_⟩
    rw [hw]
    have E1 := E.pM (o' := .vec TY.int (plains [.int .i64 ((q + 1 : Nat) : Int)]) 1) 4 rfl
    have hdr : rs.drop q = l :: rs.drop (q + 1) := by rw [List.drop_eq_getElem_cons hq, hx]
    refine ⟨_, E1.cM 4 rfl (i := 0) rfl, fun h1 => ?_, fun h1 => ?_⟩
    · have : q = 0 := by omega
      subst this
      obtain ⟨rfl, rfl, rfl⟩ := i0 rfl
      rw [List.drop_zero] at hdr
      refine first_wp (fun hf e im => ⟨fun e => (by cases e), fun _ => ?_⟩) fun n r2 hf => ⟨fun _ => ?_, fun e => by cases e⟩
      · have E1' : Keep B h0 (L ++ [some (k7, .vec TY.int (plains [.int .i64 0]) 1), some (k9, foundO [] (.slice none 0 0))]) _ := E1.tM 2
        refine ⟨_, storeH_vec (E1'.gM 0 rfl) rfl, ?_⟩
        have F1 := E1'.pM (o' := .vec TY.int (plains [.int .i64 0]) 1) 0 rfl
        refine ⟨_, stores_whole (F1.gM 1 rfl) rfl (by simp) (by simp [isOne]) (by simp), ?_⟩
        have F2 := F1.pM (o' := foundO [] (.slice none 0 0)) 1 rfl
        refine ⟨_, F2.cM 0 rfl (i := 0) rfl, _, _, _, _, ⟨F2.cM 1 rfl (i := 0) rfl, F2.cM 1 rfl (i := 1) rfl, trivial⟩, Fin.of ?_⟩
        rw [hdr, toldR_none hf] at hQ
        exact hQ none 0 none _ (Row.nil _ _) F2.zM.gap
      · refine ⟨_, storeH_vec (E1.gM 3 rfl) rfl, ?_⟩
        have F1 := E1.pM (o' := .vec TY.int (plains [.int .i64 (n : Nat)]) 1) 3 rfl
        refine ⟨_, storeH_vec (F1.gM 2 rfl) rfl, Fin.of ?_⟩
        have F2 := F1.pM (o' := foundO r2 (.slice a 0 c)) 2 rfl
        exact ⟨n, r2, [], a, c, r', fun e => by omega, fun _ => by rw [hdr, toldR_some hf]; simp, by simp, R, F2⟩
    · have hq1 : 1 ≤ q := by omega
      have ht := i1 hq1
      rw [hdr] at ht
      refine ⟨fun hs => ?_, fun hs => ?_⟩
      · have : l = [] := ba_inj (by rw [hs]; rfl)
        subst this
        rw [loadsL_nil, List.append_nil] at ht
        exact fin ht R E1
      · cases l with
        | nil => exact absurd rfl hs
        | cons b r2 =>
          have hb : byteAt (ba (b :: r2)) (Int.toNat 0) = ((b.toNat : Nat) : Int) := by
            obtain ⟨b', e1, e2⟩ := byteAt_w (s := ba (b :: r2)) (i := 0) (by rw [ba_size]; simp)
            rw [bl_ba] at e1
            cases e1
            exact e2
          refine ⟨by omega, by rw [ba_size]; simp, fun h1' => Fin.of ?_, fun h1' => ?_⟩
          · rw [hb] at h1'
            have hb1 : b = 1 := by
              have : b.toNat = (1 : UInt8).toNat := by show b.toNat = 1; omega
              exact UInt8.toNat.inj this
            subst hb1
            rw [loadsL_yes] at ht
            unfold S_vault_look_J1
            refine ⟨a, _, c, E1.cM 2 rfl (i := 1) rfl, by omega, by rw [ba_size]; simp; omega, by omega, fun k56 a56 b56 h57 e57 => ?_⟩
            have ex : ByteArray.extract (ba (1 :: r2)) (Int.toNat 1) (Int.toNat (((ba (1 :: r2)).size : Nat) : Int)) = ba r2 := by
              rw [ba_size, Int.toNat_natCast]; exact extract_ba_end (1 :: r2) 1
            rw [ex] at e57
            have c11 : cellH B h57 ⟨k11, 1, none⟩ = some (Value.slice a acc.length c) := by
              have F := E1.nM a56 b56 e57
              exact F.cM 2 rfl (i := 1) rfl
            refine ⟨c11, ?_⟩
            refine E1.push1 (L.length + 5) (upM 5 rfl) R TK.slc_strs TK.zero_str rfl (by omega) (by omega) TK.sl_strs (ys := strC r2) rfl (strC_one r2) (by rw [flatMap_length strC_len, strC_len]; omega) a56 b56 e57 fun a' m' c' r'' h59 R' E2 => ⟨a', m', c', rfl, ?_⟩
            rw [setM] at E2
            refine ⟨E2.cM 2 rfl (i := 1) rfl, _, storeH_vec (E2.gM 2 rfl) rfl, Fin.of ?_⟩
            have hm := Row.len R'
            rw [List.length_append, flatMap_length strC_len, strC_len] at hm
            have hm2 : m' = (acc ++ [r2]).length := by rw [List.length_append, List.length_singleton]; omega
            subst hm2
            have F2 := E2.pM (o' := foundO im (.slice a' (acc ++ [r2]).length c')) 2 rfl
            refine ⟨ep, im, acc ++ [r2], a', c', r'', fun e => by omega, fun _ => by rw [ht]; simp [List.append_assoc], by rw [List.length_append, List.length_singleton]; omega, ?_, F2⟩
            unfold SRow
            rw [List.flatMap_append, List.flatMap_singleton]; exact R'
          · rw [hb] at h1'
            have hb1 : b ≠ 1 := fun e => by subst e; exact h1' rfl
            rw [loadsL_no hb1, List.append_nil] at ht
            exact fin ht R E1
  · rintro h23 ⟨ep, im, acc, a, c, r', i0, i1, hal, R, E⟩
    rw [List.length_map] at i0 i1 E
    refine fin ?_ R E
    rcases Nat.eq_zero_or_pos rs.length with hz | hp
    · have : rs = [] := List.length_eq_zero_iff.1 hz
      obtain ⟨rfl, rfl, rfl⟩ := i0 hz
      rw [this, toldR_nil]
    · rw [i1 hp, List.drop_length]; simp [loadsL]
theorem vopen_nil {Q : Option Addr → ByteArray → Option Addr → Nat → Nat → Int → Heap → Prop} (hQ : Q none (ba []) none 0 0 2 h) : C_vault_Open B none h Q := by
  refine C_vault_Open.of ?_
  unfold S_vault_Open
  intro k8 a8 b8 h9 e9
  have E := (Keep.nil B h).made a8 b8 e9
  refine ⟨fun _ => ⟨_, stores_whole E.last rfl (by simp) (by simp [isOne]) (by simp), ?_⟩, fun hn => absurd rfl hn⟩
  have E1 := E.putLast (foundO [] (.slice none 0 0))
  exact ⟨_, _, _, _, ⟨cellH_vec E1.last rfl, cellH_vec E1.last rfl, trivial⟩, Fin.ent E1.back (Fin.of hQ)⟩
def vlog (kD : Nat) (ar : Int) (cs : List Chg) : AObj := walO kD ar (wholeL (bl (textD ar cs))) (tornOf (bl (textD ar cs)))
noncomputable def aOf (cs : List Chg) : Int := areaL (bl (textD 0 cs)) (bl (textD 1 cs))
noncomputable def fOf (cs : List Chg) : TDL := foundL (bl (textD 0 cs)) (bl (textD 1 cs))
theorem vopen_wp {Q : Option Addr → ByteArray → Option Addr → Nat → Nat → Int → Heap → Prop} (E : Keep B h0 L h) (A : DAt L i kD cs k v r) (ok : DOk cs)
    (hQ : ∀ kv kl a c r' h', SRow r' (.slice a (fOf cs).ls.length c) (fOf cs).ls → Keep B h0 (L ++ [some (kv, vltO kD kl (fOf cs).e false), some (kl, vlog kD (aOf cs) cs), r']) h' → Q (some ⟨kv, 0, none⟩) (ba (fOf cs).im) a (fOf cs).ls.length c 0 h') : C_vault_Open B (some ⟨kD, 0, none⟩) h Q := by
  refine C_vault_Open.of ?_
  unfold S_vault_Open
  intro k8 a8 b8 h9 e9
  have E1 := E.start.nM a8 b8 e9
  refine ⟨fun e => (by cases e), fun _ => ?_⟩
  intro k16 a16 b16 h17 e17 k18 a18 b18 h19 e19
  have E2 := (E1.nM a16 b16 e17).nM a18 b18 e19
  refine ⟨fun ix m h' => (ix = 0 ∧ m = 2 ∧ Keep B h0 (L ++ [some (k8, foundO [] (.slice none 0 0)), some (k16, .vec TY.vault_Vault (plains [.pointer (some ⟨kD, 0, none⟩), .pointer none, .int .i64 0, .bool false]) 4), some (k18, foundO [] (.slice none 0 0))]) h') ∨
      ∃ (ar : Int) (T : TDL) (kl : Nat) (a : Option Addr) (c : Nat) (r' : Option (Nat × AObj)), (ix = 1 ∧ m = 1 ∧ ar = 0 ∧ T = toldL (bl (textD 0 cs)) ∨ ix = 2 ∧ m = 0 ∧ ar = aOf cs ∧ T = fOf cs) ∧ SRow r' (.slice a T.ls.length c) T.ls ∧ Keep B h0 (L ++ [some (k8, foundO [] (.slice none 0 0)), some (k16, vltO kD kl T.e false), some (k18, foundO T.im (.slice a T.ls.length c)), some (kl, vlog kD ar cs), r']) h', 2, Fin.of (.inl ⟨rfl, rfl, E2⟩), ?_⟩
  clear E E1 E2 e9 e17 e19
  rintro _ _ h21 hor
  have w1 : IntKind.wrap .i64 ((0 : Int) + 1) = 1 := w64 (by omega) (by omega)
  have w2 : IntKind.wrap .i64 ((1 : Int) + 1) = 2 := w64 (by omega) (by omega)
  refine ⟨fun hlt => ?_, fun hge => ?_⟩
  · rcases hor with ⟨rfl, rfl, E⟩ | ⟨ar, T, kl, a, c, r', ⟨rfl, rfl, rfl, rfl⟩ | ⟨rfl, rfl, _, _⟩, R, E⟩
    · refine walopen_wp E (A.app _) (.inl rfl) ok fun kl h27 E1 => ?_
      rw [List.append_assoc] at E1
      refine look_wp (j := L.length + 3) E1 (A.app _) (upM 3 rfl) ok (.inl rfl) fun a c r' h30 R E2 => ?_
      rw [List.append_assoc] at E2
      generalize hT : toldL (bl (textD 0 cs)) = T at R
      intro k36 a36 b36 h37 e37
      have E3 := E2.nM a36 b36 e37
      refine ⟨_, stores_whole (E3.gM 5 rfl) rfl (by simp) (by simp [isOne]) (by simp), ?_⟩
      have E4 := E3.pM (o' := foundO T.im (.slice a T.ls.length c)) 5 rfl
      refine ⟨none, E4.cM 1 rfl (i := 1) rfl, fun _ => Fin.of ?_, fun hn => absurd rfl hn⟩
      unfold S_vault_Open_J1
      refine ⟨fun _ => ⟨_, _, _, _, ⟨E4.cM 5 rfl (i := 0) rfl, E4.cM 5 rfl (i := 1) rfl, trivial⟩, _, storeH_vec (E4.gM 1 rfl) rfl, ?_⟩, fun e => by cases e⟩
      have E5 := E4.pM (o' := .vec TY.vault_Vault (plains [.pointer (some ⟨kD, 0, none⟩), .pointer (some ⟨kl, 0, none⟩), .int .i64 0, .bool false]) 4) 1 rfl
      refine ⟨⟨E5.cM 5 rfl (i := 0) rfl, E5.cM 5 rfl (i := 1) rfl, trivial⟩, _, storeH_vec (E5.gM 1 rfl) rfl, ?_⟩
      have E6 := E5.pM (o' := vltO kD kl T.e false) 1 rfl
      refine ⟨⟨E6.cM 5 rfl (i := 0) rfl, E6.cM 5 rfl (i := 1) rfl, trivial⟩, _, stores_whole (E6.gM 2 rfl) rfl (by simp) (by simp [isOne]) (by simp), ?_⟩
      have E7 := E6.pM (o' := foundO T.im (.slice a T.ls.length c)) 2 rfl
      exact Fin.of ⟨1, by omega, .inr ⟨0, T, kl, a, c, r', .inl ⟨w1, rfl, rfl, rfl⟩, R, E7.tM 5⟩⟩
    · refine walopen_wp E (A.app _) (.inr rfl) ok fun kl2 h27 E1 => ?_
      rw [List.append_assoc] at E1
      refine look_wp (j := L.length + 5) E1 (A.app _) (upM 5 rfl) ok (.inr rfl) fun a2 c2 r2 h30 R2 E2 => ?_
      rw [List.append_assoc] at E2
      generalize hT0 : toldL (bl (textD 0 cs)) = T at R E E1 E2
      generalize hT1 : toldL (bl (textD 1 cs)) = U at R2
      intro k36 a36 b36 h37 e37
      have E3 := E2.nM a36 b36 e37
      refine ⟨_, stores_whole (E3.gM 7 rfl) rfl (by simp) (by simp [isOne]) (by simp), ?_⟩
      have E4 := E3.pM (o' := foundO U.im (.slice a2 U.ls.length c2)) 7 rfl
      refine ⟨_, E4.cM 1 rfl (i := 1) rfl, fun e => (by cases e), fun _ => ⟨_, E4.cM 1 rfl (i := 2) rfl, fun hgt => Fin.of ?_, fun hle => Fin.of ?_⟩⟩
      · unfold S_vault_Open_J1
        have hlt2 : (toldL (bl (textD 0 cs))).e < (toldL (bl (textD 1 cs))).e := by rw [hT0, hT1]; omega
        have eF : fOf cs = U := by unfold fOf foundL; rw [if_pos hlt2, hT1]
        have eA : aOf cs = 1 := by unfold aOf areaL; rw [if_pos hlt2]
        refine ⟨fun _ => ⟨_, _, _, _, ⟨E4.cM 7 rfl (i := 0) rfl, E4.cM 7 rfl (i := 1) rfl, trivial⟩, _, storeH_vec (E4.gM 1 rfl) rfl, ?_⟩, fun e => by cases e⟩
        have E5 := E4.pM (o' := .vec TY.vault_Vault (plains [.pointer (some ⟨kD, 0, none⟩), .pointer (some ⟨kl2, 0, none⟩), .int .i64 (T.e : Nat), .bool false]) 4) 1 rfl
        refine ⟨⟨E5.cM 7 rfl (i := 0) rfl, E5.cM 7 rfl (i := 1) rfl, trivial⟩, _, storeH_vec (E5.gM 1 rfl) rfl, ?_⟩
        have E6 := E5.pM (o' := vltO kD kl2 U.e false) 1 rfl
        refine ⟨⟨E6.cM 7 rfl (i := 0) rfl, E6.cM 7 rfl (i := 1) rfl, trivial⟩, _, stores_whole (E6.gM 2 rfl) rfl (by simp) (by simp [isOne]) (by simp), ?_⟩
        have E7 := E6.pM (o' := foundO U.im (.slice a2 U.ls.length c2)) 2 rfl
        exact Fin.of ⟨0, by omega, .inr ⟨1, U, kl2, a2, c2, r2, .inr ⟨w2, rfl, eA.symm, eF.symm⟩, R2, E7.sM [0, 1, 2, 5, 6] (by decide)⟩⟩
      · unfold S_vault_Open_J1
        have hlt2 : ¬ (toldL (bl (textD 0 cs))).e < (toldL (bl (textD 1 cs))).e := by rw [hT0, hT1]; omega
        have eF : fOf cs = T := by unfold fOf foundL; rw [if_neg hlt2, hT0]
        have eA : aOf cs = 0 := by unfold aOf areaL; rw [if_neg hlt2]
        exact ⟨fun e => (by cases e), fun _ => Fin.of ⟨0, by omega, .inr ⟨0, T, kl, a, c, r', .inr ⟨w2, rfl, eA.symm, eF.symm⟩, R, E4.tM 5⟩⟩⟩
    · omega
  · rcases hor with ⟨rfl, rfl, E⟩ | ⟨ar, T, kl, a, c, r', ⟨rfl, rfl, rfl, rfl⟩ | ⟨rfl, rfl, rfl, rfl⟩, R, E⟩
    · omega
    · omega
    · refine ⟨_, _, _, _, ⟨E.cM 2 rfl (i := 0) rfl, E.cM 2 rfl (i := 1) rfl, trivial⟩, _, stores_whole (E.gM 0 rfl) rfl (by simp) (by simp [isOne]) (by simp), ?_⟩
      have E1 := E.pM (o' := foundO (fOf cs).im (.slice a (fOf cs).ls.length c)) 0 rfl
      exact ⟨⟨E1.cM 2 rfl (i := 0) rfl, E1.cM 2 rfl (i := 1) rfl, trivial⟩, _, _, _, _, ⟨E1.cM 0 rfl (i := 0) rfl, E1.cM 0 rfl (i := 1) rfl, trivial⟩, Fin.of (hQ k16 kl a c r' _ R (E1.sM [1, 3, 4] (by decide)))⟩
end
end Go.Proofs.Ytlehephbflgblaa.H
namespace Go.Proofs.Ytlehephbflgblaa.H
open Go Go.RowKit
set_option linter.unusedVariables false
set_option maxRecDepth 100000
theorem tD_app (area : Int) (cs : List Chg) (s : ByteArray) : textD area (cs ++ [Chg.mk area false s]) = textD area cs ++ s := by
  rw [textD_one]; simp [chgD]
theorem tD_reset (area : Int) (cs : List Chg) (s : ByteArray) : textD area (cs ++ [Chg.mk area true s]) = ByteArray.mk #[] := by
  rw [textD_one]; simp [chgD]
theorem tD_other {area : Int} (cs : List Chg) (c : Chg) (h : c.a ≠ area) : textD area (cs ++ [c]) = textD area cs := by
  rw [textD_one]; simp [chgD, h]
section
variable {B : RO} {h0 h h' : Heap} {L M : List (Option (Nat × AObj))} {r : Option (Nat × AObj)} {i j kD kv kl k sz e : Nat} {cs : List Chg} {v : Value} {area ar : Int} {torn ready : Bool}
theorem DAt.m (q : Nat) (hp : M[q]? = some (some (kD, dskO cs k v))) (hq : M[q + 1]? = some r) : DAt (L ++ M) (L.length + q) kD cs k v r := ⟨upM q hp, upM (q + 1) hq⟩
theorem setDM (q : Nat) : setD (L ++ M) (L.length + q) kD cs k v r = L ++ setD M q kD cs k v r := by
  unfold setD
  rw [setM, show L.length + q + 1 = L.length + (q + 1) from rfl, setM]
def vE (kD kv kl : Nat) (cs : List Chg) (k : Nat) (v : Value) (r : Option (Nat × AObj)) (e : Nat) (ready : Bool) (w : AObj) : List (Option (Nat × AObj)) := [some (kD, dskO cs k v), r, some (kv, vltO kD kl e ready), some (kl, w)]
theorem vsize_wp {Q : Int → Heap → Prop} (E : Keep B h0 L h) (hv : L[i]? = some (some (kv, vltO kD kl e ready))) (hj : L[j]? = some (some (kl, walO kD area sz torn))) (hQ : Q ((sz : Nat) : Int) h) : C_vault_Vault_Size B (some ⟨kv, 0, none⟩) h Q := by
  refine C_vault_Vault_Size.of ?_
  unfold S_vault_Vault_Size
  exact ⟨fun e => (by cases e), fun _ => ⟨_, rfl, _, E.cellA i (m := 0) hv rfl, walsize_wp E hj (Fin.of hQ)⟩⟩
theorem vappend_wp {s : ByteArray} {Q : Int → Heap → Prop} (E : Keep B h0 (L ++ vE kD kv kl cs k v r e true (walO kD ar sz false)) h) (R : CRow r v (cs.drop k)) (hk : k ≤ cs.length) (ok : DOk cs) (hl : cs.length ≤ 100000) (hs : s.size ≤ 100000000) (hsz : sz ≤ 16384) (ha : ar = 0 ∨ ar = 1)
    (hL : 1024 < s.size + 1 → ∀ h', Keep B h0 (L ++ vE kD kv kl cs k v r e true (walO kD ar sz false)) h' → Q 3 h') (hF : s.size + 1 ≤ 1024 → 16384 < (textD ar cs).size + (closeL (1 :: bl s)).length → ∀ h', Keep B h0 (L ++ vE kD kv kl cs k v r e true (walO kD ar sz false)) h' → Q 6 h')
    (hQ : s.size + 1 ≤ 1024 → (textD ar cs).size + (closeL (1 :: bl s)).length ≤ 16384 → ∀ v' r' h', CRow r' v' ((cs ++ [Chg.mk ar false (ba (closeL (1 :: bl s)))]).drop k) → Keep B h0 (L ++ vE kD kv kl (cs ++ [Chg.mk ar false (ba (closeL (1 :: bl s)))]) k v' r' e true (walO kD ar (sz + (closeL (1 :: bl s)).length) false)) h' → Q 0 h') : C_vault_Vault_Append B (some ⟨kv, 0, none⟩) s h Q := by
  refine C_vault_Vault_Append.of ?_
  unfold S_vault_Vault_Append
  refine ⟨fun e => (by cases e), fun _ => ⟨_, rfl, true, E.cellA (L.length + 2) (m := 0) (upM 2 rfl) rfl, fun _ => Fin.of ?_, fun e => by cases e⟩⟩
  unfold S_vault_Vault_Append_J1
  refine ⟨_, rfl, _, E.cellA (L.length + 2) (m := 0) (upM 2 rfl) rfl, fun k14 a14 b14 h15 e15 => ?_⟩
  have E1 := E.nM a14 b14 e15
  refine ⟨E1.cellA (L.length + 2) (m := 0) (upM 2 rfl) rfl, bytes_str (bs := [1]) (E1.gM 4 rfl) rfl (by simp) ?_⟩
  have E2 := E1.tM 4
  have e2 : bl (ba [1] ++ s) = 1 :: bl s := by rw [bl_append, bl_ba]; rfl
  have e3 : (ba [1] ++ s).size = s.size + 1 := by rw [← bl_length, e2, List.length_cons, bl_length]
  refine ⟨ba [1], rfl, E2.cellA (L.length + 2) (m := 0) (upM 2 rfl) rfl, by rw [ba_size]; simp; omega, ?_⟩
  refine walappend_wp (j := L.length + 3) E2 (DAt.m 0 rfl rfl) (upM 3 rfl) (by omega) (by omega) R hk ok hl (by omega) hsz ha (fun hgt => ⟨E2.cellA (L.length + 2) (m := 0) (upM 2 rfl) rfl, Fin.of (hL (by omega) _ E2)⟩) (fun _ ht => by cases ht) (fun h1 h2 => ?_) (fun h1 h2 h3 v' r' h' R' E3 => ?_)
  · intro h3
    rw [e2] at h3
    exact ⟨E2.cellA (L.length + 2) (m := 0) (upM 2 rfl) rfl, Fin.of (hF (by omega) h3 _ E2)⟩
  · rw [e2] at R' E3 h3
    rw [setDM, setM] at E3
    exact ⟨E3.cellA (L.length + 2) (m := 0) (upM 2 rfl) rfl, Fin.of (hQ (by omega) h3 v' r' _ R' E3)⟩
theorem vsettle_full {s : ByteArray} {Q : Int → Heap → Prop} (g : h kv = some (vltO kD kl e ready)) (he : 1099511627776 ≤ e) (hQ : Q 6 h) : C_vault_Vault_Settle B (some ⟨kv, 0, none⟩) s h Q := by
  refine C_vault_Vault_Settle.of ?_
  unfold S_vault_Vault_Settle
  exact ⟨fun e => (by cases e), fun _ => ⟨_, rfl, _, cellH_vec g rfl, fun _ => Fin.of hQ, fun hn => by omega⟩⟩
def stl (ar : Int) (e : Nat) (im : List UInt8) (cs : List Chg) : List Chg := cs ++ [Chg.mk (1 - ar) true ByteArray.empty] ++ [Chg.mk (1 - ar) false (ba (closeL (imgL (e + 1) im)))] ++ [Chg.mk ar true ByteArray.empty]
theorem stl_new {ar : Int} (ha : ar = 0 ∨ ar = 1) (e : Nat) (im : List UInt8) (cs : List Chg) : textD (1 - ar) (stl ar e im cs) = ba (closeL (imgL (e + 1) im)) := by
  unfold stl
  rw [tD_other _ _ (by simp only; omega), tD_app, tD_reset, ← ba_nil, ← ba_append, List.nil_append]
theorem stl_old (ar : Int) (e : Nat) (im : List UInt8) (cs : List Chg) : textD ar (stl ar e im cs) = ByteArray.mk #[] := by unfold stl; rw [tD_reset]
set_option maxHeartbeats 1000000 in
theorem vsettle_wp {s : ByteArray} {Q : Int → Heap → Prop} (E : Keep B h0 (L ++ vE kD kv kl cs k v r e ready (walO kD ar sz torn)) h) (R : CRow r v (cs.drop k)) (hk : k ≤ cs.length) (ok : DOk cs) (hl : cs.length ≤ 10000) (hs : s.size ≤ 100000000) (ha : ar = 0 ∨ ar = 1) (he : e < 1099511627776)
    (hL : 1024 < (imgL (e + 1) (bl s)).length → ∀ h', Keep B h0 (L ++ vE kD kv kl cs k v r e ready (walO kD ar sz torn)) h' → Q 3 h')
    (hQ : (imgL (e + 1) (bl s)).length ≤ 1024 → DOk (stl ar e (bl s) cs) → ∀ kl' h', Keep B h0 (L ++ vE kD kv kl' (stl ar e (bl s) cs) (stl ar e (bl s) cs).length (.slice none 0 0) none (e + 1) true (walO kD (1 - ar) ((imgL (e + 1) (bl s)).length + 6) false)) h' → Q 0 h') : C_vault_Vault_Settle B (some ⟨kv, 0, none⟩) s h Q := by
  refine C_vault_Vault_Settle.of ?_
  unfold S_vault_Vault_Settle
  refine ⟨fun e => (by cases e), fun _ => ⟨_, rfl, _, E.cellA (L.length + 2) (m := 0) (upM 2 rfl) rfl, fun hge => by omega, fun _ => Fin.of ?_⟩⟩
  unfold S_vault_Vault_Settle_J1
  intro k6 a6 b6 h7 e7
  have E1 := E.nM a6 b6 e7
  refine ⟨_, rfl, _, E1.cellA (L.length + 2) (m := 0) (upM 2 rfl) rfl, fun k11 a11 b11 h12 e12 => ?_⟩
  have hw : IntKind.wrap .i64 ((e : Int) + 1) = ((e + 1 : Nat) : Int) := by rw [w64 (by omega) (by omega)]; omega
  rw [hw] at e12
  have E2 := E1.nM a11 b11 e12
  refine Spec.ent (styl_new (E2.gM 4 rfl)) ?_
  have E3 := E2.pM (o' := stylO []) 4 rfl
  have e1 : natsB [0, ((e + 1 : Nat) : Int)] = 0 :: natB (e + 1) := by
    simp only [natsB, List.flatMap_cons, List.flatMap_nil, List.append_nil]
    rw [show (0 : Int) = ((0 : Nat) : Int) from rfl, natI_nat, natI_nat, natB_0]; rfl
  have hnb := natB_length (n := e + 1) (by omega)
  have hil : (imgL (e + 1) (bl s)).length = 1 + (natB (e + 1)).length + s.size := by simp [imgL, bl_length]; omega
  refine nat_wp (ns := [0, ((e + 1 : Nat) : Int)]) (E3.gM 4 rfl) (fun i n hi => ?_) (by intro n hn; simp at hn; omega) (by simp) ?_
  · have hne : k11 ≠ k6 := fun e => absurd e (E3.ne (L.length + 5) (L.length + 4) (upM 5 rfl) (upM 4 rfl) (by omega))
    match i with
    | 0 => cases hi; exact ⟨_, rfl, hne, cellH_vec (E3.gM 5 rfl) rfl⟩
    | 1 => cases hi; exact ⟨_, rfl, hne, cellH_vec (E3.gM 5 rfl) rfl⟩
    | i + 2 => cases hi
  rw [e1, List.nil_append]
  have E4 := (E3.pM (o' := stylO (0 :: natB (e + 1))) 4 rfl).tM 5
  refine raw_wp (E4.gM 4 rfl) (by simp; omega) ?_
  have E5 := E4.pM (o' := stylO (0 :: natB (e + 1) ++ bl s)) 4 rfl
  have eI : (0 :: natB (e + 1) ++ bl s : List UInt8) = imgL (e + 1) (bl s) := rfl
  rw [eI] at E5 ⊢
  have E5 : Keep B h0 (L ++ [some (kD, dskO cs k v), r, some (kv, vltO kD kl e ready), some (kl, walO kD ar sz torn), some (k6, stylO (imgL (e + 1) (bl s)))]) _ := E5
  refine bytes_wp (E5.gM 4 rfl) ⟨fun hgt => ?_, fun hle => ?_⟩
  · rw [ba_size] at hgt
    exact Fin.of (hL (by omega) _ (E5.tM 4))
  rw [ba_size] at hle
  have hw2 : IntKind.wrap .i64 (1 - ar) = 1 - ar := w64 (by omega) (by omega)
  have ha2 : 1 - ar = 0 ∨ 1 - ar = 1 := by omega
  refine ⟨_, rfl, _, E5.cellA (L.length + 2) (m := 0) (upM 2 rfl) rfl, _, rfl, _, E5.cM 2 rfl (i := 0) rfl, walarea_wp (j := L.length + 3) E5 (upM 3 rfl) ⟨E5.cM 2 rfl (i := 0) rfl, ?_⟩⟩
  rw [hw2]
  refine walopen_wp E5 (DAt.m 0 rfl rfl) ha2 ok fun kl' h32 E6 => ?_
  rw [List.append_assoc] at E6
  have E6 : Keep B h0 (L ++ [some (kD, dskO cs k v), r, some (kv, vltO kD kl e ready), some (kl, walO kD ar sz torn), some (k6, stylO (imgL (e + 1) (bl s))), some (kl', walO kD (1 - ar) (wholeL (bl (textD (1 - ar) cs))) (tornOf (bl (textD (1 - ar) cs))))]) h32 := E6
  refine ⟨E6.cM 2 rfl (i := 0) rfl, ?_⟩
  refine walclear_wp (j := L.length + 5) E6 (DAt.m 0 rfl rfl) (upM 5 rfl) (by omega) (by omega) R hk (by omega) ha2 fun v1 r1 h36 R1 E7 => ?_
  rw [setDM, setM] at E7
  have E7 : Keep B h0 (L ++ [some (kD, dskO (cs ++ [Chg.mk (1 - ar) true ByteArray.empty]) k v1), r1, some (kv, vltO kD kl e ready), some (kl, walO kD ar sz torn), some (k6, stylO (imgL (e + 1) (bl s))), some (kl', walO kD (1 - ar) 0 false)]) h36 := E7
  have ok1 : DOk (cs ++ [Chg.mk (1 - ar) true ByteArray.empty]) := ok.snoc ha2 (by show (textD (1 - ar) _).size ≤ _; rw [tD_reset]; decide)
  have z1 : (textD (1 - ar) (cs ++ [Chg.mk (1 - ar) true ByteArray.empty])).size = 0 := by rw [tD_reset]; rfl
  refine walforce_wp (j := L.length + 5) E7 (DAt.m 0 rfl rfl) (upM 5 rfl) R1 (by rw [List.length_append]; omega) ok1 (by rw [List.length_append]; simp; omega) fun h37 E8 => ?_
  rw [setDM] at E8
  have E8 : Keep B h0 (L ++ [some (kD, dskO (cs ++ [Chg.mk (1 - ar) true ByteArray.empty]) (cs ++ [Chg.mk (1 - ar) true ByteArray.empty]).length (.slice none 0 0)), none, some (kv, vltO kD kl e ready), some (kl, walO kD ar sz torn), some (k6, stylO (imgL (e + 1) (bl s))), some (kl', walO kD (1 - ar) 0 false)]) h37 := E8
  refine bytes_wp (E8.gM 4 rfl) ?_
  have hcl := closeL_len (l := imgL (e + 1) (bl s)) (by omega)
  refine walappend_wp (j := L.length + 5) E8 (DAt.m 0 rfl rfl) (upM 5 rfl) (by omega) (by omega) (by rw [List.drop_length]; exact Row.nil _ _) (Nat.le_refl _) ok1 (by rw [List.length_append]; simp; omega) (by rw [ba_size]; omega) (by omega) ha2 (fun hgt => by rw [ba_size] at hgt; omega) (fun _ ht => by cases ht) (fun _ _ hf => by rw [z1, bl_ba, hcl] at hf; omega) fun _ _ _ v2 r2 h40 R2 E9 => ?_
  rw [bl_ba] at R2 E9
  rw [setDM, setM] at E9
  rw [hcl, Nat.zero_add] at E9
  have E9 : Keep B h0 (L ++ [some (kD, dskO (cs ++ [Chg.mk (1 - ar) true ByteArray.empty] ++ [Chg.mk (1 - ar) false (ba (closeL (imgL (e + 1) (bl s))))]) (cs ++ [Chg.mk (1 - ar) true ByteArray.empty]).length v2), r2, some (kv, vltO kD kl e ready), some (kl, walO kD ar sz torn), some (k6, stylO (imgL (e + 1) (bl s))), some (kl', walO kD (1 - ar) ((imgL (e + 1) (bl s)).length + 6) false)]) h40 := E9
  have ok2 : DOk (cs ++ [Chg.mk (1 - ar) true ByteArray.empty] ++ [Chg.mk (1 - ar) false (ba (closeL (imgL (e + 1) (bl s))))]) := ok1.snoc ha2 (by show (textD (1 - ar) _).size ≤ _; rw [tD_app, ByteArray.size_append, z1, ba_size, hcl]; omega)
  refine walforce_wp (j := L.length + 5) E9 (DAt.m 0 rfl rfl) (upM 5 rfl) R2 (by simp) ok2 (by simp; omega) fun h42 E10 => ?_
  rw [setDM] at E10
  have E10 : Keep B h0 (L ++ [some (kD, dskO (cs ++ [Chg.mk (1 - ar) true ByteArray.empty] ++ [Chg.mk (1 - ar) false (ba (closeL (imgL (e + 1) (bl s))))]) (cs ++ [Chg.mk (1 - ar) true ByteArray.empty] ++ [Chg.mk (1 - ar) false (ba (closeL (imgL (e + 1) (bl s))))]).length (.slice none 0 0)), none, some (kv, vltO kD kl e ready), some (kl, walO kD ar sz torn), some (k6, stylO (imgL (e + 1) (bl s))), some (kl', walO kD (1 - ar) ((imgL (e + 1) (bl s)).length + 6) false)]) h42 := E10
  refine walclear_wp (j := L.length + 3) E10 (DAt.m 0 rfl rfl) (upM 3 rfl) (by omega) (by omega) (by rw [List.drop_length]; exact Row.nil _ _) (Nat.le_refl _) (by simp; omega) ha fun v3 r3 h43 R3 E11 => ?_
  rw [setDM, setM] at E11
  have E11 : Keep B h0 (L ++ [some (kD, dskO (stl ar e (bl s) cs) (cs ++ [Chg.mk (1 - ar) true ByteArray.empty] ++ [Chg.mk (1 - ar) false (ba (closeL (imgL (e + 1) (bl s))))]).length v3), r3, some (kv, vltO kD kl e ready), some (kl, walO kD ar 0 false), some (k6, stylO (imgL (e + 1) (bl s))), some (kl', walO kD (1 - ar) ((imgL (e + 1) (bl s)).length + 6) false)]) h43 := E11
  have ok3 : DOk (stl ar e (bl s) cs) := ok2.snoc ha (by show (textD ar _).size ≤ _; rw [tD_reset]; decide)
  refine walforce_wp (j := L.length + 3) E11 (DAt.m 0 rfl rfl) (upM 3 rfl) R3 (by simp [stl]) ok3 (by simp [stl]; omega) fun h44 E12 => ?_
  rw [setDM] at E12
  have E12 : Keep B h0 (L ++ [some (kD, dskO (stl ar e (bl s) cs) (stl ar e (bl s) cs).length (.slice none 0 0)), none, some (kv, vltO kD kl e ready), some (kl, walO kD ar 0 false), some (k6, stylO (imgL (e + 1) (bl s))), some (kl', walO kD (1 - ar) ((imgL (e + 1) (bl s)).length + 6) false)]) h44 := E12
  refine ⟨_, rfl, _, E12.cellA (L.length + 2) (m := 0) (upM 2 rfl) rfl, _, rfl, ?_⟩
  have s1 := E12.storeA (L.length + 2) 0 1 (.pointer (some ⟨kl', 0, none⟩)) (upM 2 rfl) rfl
  obtain ⟨s1, E13⟩ := s1
  rw [setM] at E13
  refine ⟨_, s1, _, rfl, ?_⟩
  obtain ⟨s2, E14⟩ := E13.storeA (L.length + 2) 0 2 (.int .i64 ((e + 1 : Nat) : Int)) (upM 2 rfl) rfl
  rw [setM] at E14
  rw [hw]
  refine ⟨_, s2, _, rfl, ?_⟩
  obtain ⟨s3, E15⟩ := E14.storeA (L.length + 2) 0 3 (.bool true) (upM 2 rfl) rfl
  rw [setM] at E15
  refine ⟨_, s3, Fin.of (hQ (by omega) ok3 kl' _ ?_)⟩
  have E16 := E15.sM [0, 1, 2, 5] (by decide)
  exact E16
end
end Go.Proofs.Ytlehephbflgblaa.H
namespace Go.Proofs.Ytlehephbflgblaa.H
open Go
set_option linter.unusedVariables false
set_option maxRecDepth 100000
def entC_file_File (x : Int × (Bool × ByteArray)) : List Value := [.int .i64 x.1, .bool x.2.1, .string x.2.2]
theorem entC_file_File_len (x : Int × (Bool × ByteArray)) : (entC_file_File x).length = 3 := rfl
theorem entC_file_File_one (x : Int × (Bool × ByteArray)) : ∀ y ∈ entC_file_File x, isOne y = true := fun y hy => by simp [entC_file_File] at hy; rcases hy with rfl | rfl | rfl <;> rfl
def DRow_file_File (r : Option (Nat × AObj)) (v : Value) (l : List (Int × (Bool × ByteArray))) : Prop := Row r v TY.draft_entry_file_File 3 (l.flatMap entC_file_File)
def drO_file_File (v : Value) : AObj := .vec TY.draft_Draft_file_File (plains [v]) 1
structure DAt_file_File (L : List (Option (Nat × AObj))) (i k : Nat) (v : Value) (r : Option (Nat × AObj)) : Prop where
  p : L[i]? = some (some (k, drO_file_File v))
  q : L[i + 1]? = some r
section
variable {B : RO} {h0 h h' : Heap} {L : List (Option (Nat × AObj))} {r : Option (Nat × AObj)} {i k : Nat} {a : Option Addr} {m c : Nat} {v : Value} {l : List (Int × (Bool × ByteArray))}
theorem DRow_file_File.len (R : DRow_file_File r (.slice a m c) l) : m = l.length := (Row.rd (B := fun _ => none) R entC_file_File_len (by omega)).1
end
end Go.Proofs.Ytlehephbflgblaa.H
namespace Go.Proofs.Ytlehephbflgblaa.H
open Go Go.RowKit
set_option linter.unusedVariables false
set_option maxRecDepth 100000
abbrev DFL := List (Int × (Bool × ByteArray))
section
variable {B : RO} {h0 h h' : Heap} {L : List (Option (Nat × AObj))} {r : Option (Nat × AObj)} {i k k3 : Nat} {a : Option Addr} {m c : Nat} {v : Value} {l : DFL} {n : Int}
def fdallF (k3 : Nat) : Value := Value.func (.func FN.draft_Draft_file_File_All_1) #[] #[(Value.pointer (some ⟨k3, 0, none⟩))]
def encDF (x : Int × (Bool × ByteArray)) : List Value := [.int .i64 x.1, .agg #[.bool x.2.1, .string x.2.2]]
def fdG (k3 k : Nat) (v : Value) (r : Option (Nat × AObj)) (h : Heap) : Prop :=
  h k3 = some (.vec TY.p_draft_Draft_file_File [.plain (.pointer (some ⟨k, 0, none⟩))] 1) ∧ h k = some (drO_file_File v) ∧ ∀ k o, r = some (k, o) → h k = some o
theorem fdG_ins {k3 kk : Nat} {v : Value} {r : Option (Nat × AObj)} : Ins (fdG k3 kk v r) := by
  rintro h k o hk ⟨g1, g2, g3⟩
  exact ⟨Heap.get_new hk g1, Heap.get_new hk g2, fun k' o' e => Heap.get_new hk (g3 k' o' e)⟩
theorem fdall_wp {p : Option Addr} {Q : Value → Heap → Prop} (hQ : ∀ k, h k = none → B k = none → Q (fdallF k) (h.set k (.vec TY.p_draft_Draft_file_File [.plain (.pointer p)] 1))) : C_draft_Draft_file_File_All B p h Q := by
  refine C_draft_Draft_file_File_All.of ?_
  unfold S_draft_Draft_file_File_All
  intro k a1 b1 h4 e4
  subst e4
  exact Fin.of (hQ k a1 b1)
theorem fdall_iter (R : DRow_file_File r v l) (hlen : l.length ≤ 100000) : Iter PG B (fdallF k3) (l.map encDF) (fdG k3 k v r) := by
  refine ⟨_, _, _, rfl, TG.draft_Draft_file_File_All_1, fun y J X h hy hG h0 hcall => ?_⟩
  have main : C_draft_Draft_file_File_All_1 B y ⟨k3, 0, none⟩ h (fun h' => Fin B h' (fun h'' => J (l.map encDF).length h'' ∨ X h'')) := by
    refine C_draft_Draft_file_File_All_1.of ?_
    unfold S_draft_Draft_file_File_All_1
    obtain ⟨a, m, c, rfl⟩ := Row.slice R
    obtain ⟨rfl, hrd⟩ := Row.rd (B := B) R entC_file_File_len (by omega)
    obtain ⟨g1, g2, g3⟩ := hG 0 h h0
    refine ⟨_, cellH_vec g1 rfl, fun e => (by cases e), fun _ => ⟨_, cellH_vec g1 rfl, _, rfl, .inl ⟨a, _, c, cellH_vec g2 rfl, ?_⟩⟩⟩
    refine ⟨fun i m' h' => ∃ j : Nat, j ≤ l.length ∧ i = j ∧ m' = l.length - j ∧ J j h', l.length, Fin.of ⟨0, by omega, rfl, by omega, h0⟩, ?_⟩
    rintro _ _ h13 ⟨j, hj, rfl, rfl, hJ⟩
    obtain ⟨g1, g2, g3⟩ := hG j h13 hJ
    refine ⟨fun hlt => ?_, fun hge => Fin.of ?_⟩
    · have hj' : j < l.length := by omega
      have hx := List.getElem?_eq_getElem hj'
      generalize l[j] = x at hx
      obtain ⟨A, e, _, q⟩ := hrd h13 g3 j _ hx
      refine ⟨A, e, by omega, hlt, x.1, x.2.1, x.2.2, q, fun k24 a24 b24 h25 e25 => ?_⟩
      obtain ⟨g25, l25, -⟩ := Heap.made a24 e25
      refine ⟨_, stores_whole g25 rfl (by simp) (by simp [isOne]) (by simp), ?_⟩
      generalize e26 : h25.set k24 _ = h26
      obtain ⟨g26, -, -⟩ := Heap.put e26
      refine ⟨_, cellH_vec g26 rfl, _, _, ⟨cellH_vec g26 rfl, cellH_vec g26 rfl, trivial⟩, ?_⟩
      have w : Wk B h13 h26 := by
        rw [← e26, e25, Heap.set_set]; exact Wk.new a24 b24
      have hc := hcall j h13 (encDF x) (by rw [List.getElem?_map, hx]; rfl) hJ
      refine CallV.mono ?_ (hc.weaken w)
      rintro v h27 ⟨h28, t1, h29, t2, hor⟩
      rcases hor with ⟨rfl, hJ'⟩ | ⟨rfl, hX⟩
      · refine ⟨true, rfl, fun _ => ⟨h29, t1.trans t2, l.length - (j + 1), by omega, j + 1, by omega, ?_, rfl, hJ'⟩, fun e => by cases e⟩
        rw [w64 (by omega) (by omega)]; omega
      · exact ⟨false, rfl, fun e => (by cases e), fun _ => ⟨h29, t1.trans t2, Fin.of (.inr hX)⟩⟩
    · have : j = l.length := by omega
      subst this
      refine Fin.of (.inl ?_)
      rw [List.length_map]
      exact hJ
  exact Spec.mono main fun v h' q => q.2
end
end Go.Proofs.Ytlehephbflgblaa.H
namespace Go.Proofs.Ytlehephbflgblaa.H
open Go
set_option linter.unusedVariables false
set_option maxRecDepth 100000
abbrev FileS := Bool × ByteArray
def slotF (x : FileS × Int) : List Value := [.bool x.1.1, .string x.1.2, .int .i64 x.2]
theorem slotF_len (x : FileS × Int) : (slotF x).length = 3 := rfl
theorem slotF_one (x : FileS × Int) : ∀ y ∈ slotF x, isOne y = true := fun y hy => by simp [slotF] at hy; rcases hy with rfl | rfl | rfl <;> rfl
theorem TK.slc_fslot : slcB PG TY.s_cell_slot_file_File = some (TY.cell_slot_file_File, 3, 32) := by kernel_rfl
theorem TK.zero_fslot : zeroB PG TY.cell_slot_file_File = some [.bool false, .string ByteArray.empty, .int .i64 0] := by kernel_rfl
theorem TK.sl_fslot : slT PG TY.s_cell_slot_file_File = true := by kernel_rfl
def FRow (r : Option (Nat × AObj)) (v : Value) (l : List (FileS × Int)) : Prop := Row r v TY.cell_slot_file_File 3 (l.flatMap slotF)
def frO (v : Value) : AObj := .vec TY.cell_Row_file_File (plains [v]) 1
def tomO (kR : Nat) : AObj := .vec TY.tome_Tome (plains [.pointer (some ⟨kR, 0, none⟩)]) 1
def fileAt (l : List (FileS × Int)) (i : Int) : FileS × Int := if 0 ≤ i then (l[i.toNat]?).getD ((false, ByteArray.empty), 0) else ((false, ByteArray.empty), 0)
theorem fileAt_in {l : List (FileS × Int)} {i : Int} (h0 : 0 ≤ i) (h1 : i.toNat < l.length) : fileAt l i = l[i.toNat] := by
  rw [fileAt, if_pos h0, List.getElem?_eq_getElem h1]; rfl
theorem fileAt_out {l : List (FileS × Int)} {i : Int} (hn : ¬ (0 ≤ i ∧ i < (l.length : Int))) : fileAt l i = ((false, ByteArray.empty), 0) := by
  unfold fileAt
  split
  · rw [List.getElem?_eq_none (by omega)]; rfl
  · rfl
section
variable {B : RO} {h0 h h' : Heap} {L : List (Option (Nat × AObj))} {r : Option (Nat × AObj)} {i kT kR : Nat} {v : Value} {l : List (FileS × Int)}
theorem fnew_wp {n : Int} {b : Bool} {s : ByteArray} {Q : Option Addr → Heap → Prop} (hn : n ≤ 1000)
    (hQ : ∀ k v r h', FRow r v (List.replicate n.toNat ((b, s), 0)) → Keep B h [some (k, frO v), r] h' → Q (some ⟨k, 0, none⟩) h') : C_cell_New_file_File B n b s h Q := by
  refine C_cell_New_file_File.of ?_
  unfold S_cell_New_file_File
  intro k5 a5 b5 h6 e6 k7 a7 b7 h8 e8
  have E := ((Keep.nil B h).made a5 b5 e6).made a7 b7 e8
  refine ⟨fun i m h' => ∃ (j : Nat) (v : Value) (r : Option (Nat × AObj)), (j : Int) ≤ max n 0 ∧ i = j ∧ m = n.toNat - j ∧ FRow r v (List.replicate j ((b, s), 0)) ∧ Keep B h [some (k5, .vec TY.file_File (plains [.bool b, .string s]) 2), some (k7, frO v), r] h', n.toNat, Fin.of ⟨0, _, none, by omega, rfl, by omega, Row.nil _ _, E.gap⟩, ?_⟩
  clear E e8 e6
  rintro _ _ h10 ⟨j, v, r, hj, rfl, rfl, R, E⟩
  refine ⟨fun hlt => ?_, fun hge => Fin.of ?_⟩
  · obtain ⟨a20, n21, c22, rfl⟩ := Row.slice R
    have hfl := flatMap_length slotF_len (List.replicate j ((b, s), (0 : Int)))
    rw [List.length_replicate] at hfl
    refine ⟨a20, n21, c22, E.cell 1 rfl rfl, _, _, ⟨E.cell 0 rfl rfl, E.cell 0 rfl rfl, trivial⟩, fun k28 a28 b28 h29 e29 => ?_⟩
    have E1 := E.made a28 b28 e29
    refine ⟨E1.cell 1 rfl rfl, ⟨E1.cell 0 rfl rfl, E1.cell 0 rfl rfl, trivial⟩, ?_⟩
    refine E.push1 2 rfl R TK.slc_fslot TK.zero_fslot rfl (by omega) (by omega) TK.sl_fslot rfl (by simp [isOne]) (by rw [hfl]; simp; omega) a28 b28 e29 fun a' m' c' r' h' R' E' => ?_
    obtain ⟨es, E2⟩ := E'.store 1 0 (.slice a' m' c') rfl rfl
    refine ⟨a', m', c', rfl, E'.cell 1 rfl rfl, ⟨E'.cell 0 rfl rfl, E'.cell 0 rfl rfl, trivial⟩, _, es, Fin.of ⟨n.toNat - (j + 1), by omega, j + 1, _, r', by omega, ?_, rfl, ?_, E2⟩⟩
    · rw [w64 (by omega) (by omega)]; omega
    · unfold FRow
      rw [List.replicate_succ', List.flatMap_append]
      exact R'
  · have : j = n.toNat := by omega
    subst this
    exact hQ _ _ _ _ R (E.sub2 1 2 rfl rfl)
structure FAt (L : List (Option (Nat × AObj))) (i : Nat) (kR : Nat) (v : Value) (r : Option (Nat × AObj)) : Prop where
  p : L[i]? = some (some (kR, frO v))
  q : L[i + 1]? = some r
theorem fis_wp {n : Int} {Q : Bool → Heap → Prop} (E : Keep B h0 L h) (A : FAt L i kR v r) (R : FRow r v l) (hQ : Q (decide (0 ≤ n ∧ n < (l.length : Int))) h) : C_cell_Row_file_File_is B (some ⟨kR, 0, none⟩) n h Q := by
  refine C_cell_Row_file_File_is.of ?_
  unfold S_cell_Row_file_File_is
  obtain ⟨a, m, c, rfl⟩ := Row.slice R
  obtain ⟨rfl, -⟩ := Row.rd (B := B) R slotF_len (by omega)
  refine ⟨fun e => (by cases e), fun _ => ⟨fun h1 => ⟨_, rfl, .inl ⟨a, _, c, E.cell i A.p rfl, Fin.of ?_⟩⟩, fun h1 => Fin.of ?_⟩⟩
  · have : decide (n < (l.length : Int)) = decide (0 ≤ n ∧ n < (l.length : Int)) := by rw [decide_eq_decide]; exact ⟨fun x => ⟨by omega, x⟩, fun x => x.2⟩
    rw [this]; exact hQ
  · rw [decide_eq_false (by omega)] at hQ; exact hQ
theorem fset_wp {n ver : Int} {b : Bool} {s : ByteArray} {Q : Bool → Heap → Prop} (E : Keep B h0 L h) (A : FAt L i kR v r) (R : FRow r v l)
    (hF : ¬ (0 ≤ n ∧ n < (l.length : Int)) → ∀ h', Keep B h0 L h' → Q false h') (hT : 0 ≤ n → n.toNat < l.length → ∀ r' h', FRow r' v (l.set n.toNat ((b, s), ver)) → Keep B h0 (L.set (i + 1) r') h' → Q true h') : C_cell_Row_file_File_Set B (some ⟨kR, 0, none⟩) n b s ver h Q := by
  refine C_cell_Row_file_File_Set.of ?_
  unfold S_cell_Row_file_File_Set
  intro k7 a7 b7 h8 e8
  have E1 := E.made a7 b7 e8
  let o7 : AObj := .vec TY.file_File (plains [.bool b, .string s]) 2
  have A1 : FAt (L ++ [some (k7, o7)]) i kR v r := ⟨up_app _ A.p, up_app _ A.q⟩
  have E1 : Keep B h0 (L ++ [some (k7, o7)]) h8 := E1
  refine fis_wp E1 A1 R ⟨fun hD => ?_, fun hD => Fin.of (hF (by simpa using hD) _ E1.pop)⟩
  rw [decide_eq_true_eq] at hD
  obtain ⟨a, m, c, rfl⟩ := Row.slice R
  obtain ⟨rfl, -⟩ := Row.rd (B := B) R slotF_len (by omega)
  obtain ⟨A18, h20, r', e1, st, R', E2⟩ := E1.rowSet (i + 1) A1.q R slotF_len (by omega) n.toNat (by omega) ((b, s), ver) (slotF_one _)
  have g := E1.last
  refine ⟨_, rfl, a, _, c, E1.cell i A1.p rfl, _, _, ⟨cellH_vec g rfl, cellH_vec g rfl, trivial⟩, A18, e1, hD.1, hD.2, h20, st, Fin.of (hT hD.1 (by omega) r' h20 R' ?_)⟩
  rw [List.set_append_left _ _ (List.getElem?_eq_some_iff.1 A.q).1] at E2
  exact E2.pop
structure TomeAt (L : List (Option (Nat × AObj))) (i kT kR : Nat) (v : Value) (r : Option (Nat × AObj)) : Prop where
  p : L[i]? = some (some (kT, tomO kR))
  f : FAt L (i + 1) kR v r
def tomE (kT kR : Nat) (v : Value) (r : Option (Nat × AObj)) : List (Option (Nat × AObj)) := [some (kT, tomO kR), some (kR, frO v), r]
def goodF (b : Bool) (s : ByteArray) : Bool := decide (s.size ≤ 32) && (b || decide (s = ByteArray.mk #[]))
theorem goodF_wp {b : Bool} {s : ByteArray} {Q : Bool → Heap → Prop} (hQ : ∀ h', Wk B h h' → Q (goodF b s) h') : C_file_Good B b s h Q := by
  refine C_file_Good.of ?_
  unfold S_file_Good
  intro k4 a4 b4 h5 e5
  have w : Wk B h h5 := by rw [e5]; exact Wk.new a4 b4
  have g : h5 k4 = some (.vec TY.file_File (plains [.bool b, .string s]) 2) := by rw [e5]; exact Heap.set_same _ _ _
  have hq := hQ h5 w
  unfold goodF at hq
  refine ⟨_, cellH_vec g rfl, fun h1 => ⟨_, cellH_vec g rfl, fun hb => Fin.of ?_, fun hb => ⟨_, cellH_vec g rfl, Fin.of ?_⟩⟩, fun h1 => Fin.of ?_⟩
  · subst hb
    rw [decide_eq_true (by omega)] at hq; exact hq
  · subst hb
    rw [decide_eq_true (by omega)] at hq; exact hq
  · rw [decide_eq_false (by omega)] at hq; exact hq
def setB (l : List (FileS × Int)) (n : Int) (b : Bool) (s : ByteArray) : Bool := goodF b s && decide (0 ≤ n ∧ n < (l.length : Int))
def setF (l : List (FileS × Int)) (n : Int) (b : Bool) (s : ByteArray) (ver : Int) : List (FileS × Int) := if setB l n b s = true then l.set n.toNat ((b, s), ver) else l
theorem setF_len (l : List (FileS × Int)) (n : Int) (b : Bool) (s : ByteArray) (ver : Int) : (setF l n b s ver).length = l.length := by unfold setF; split <;> simp
theorem tset_wp {n ver : Int} {b : Bool} {s : ByteArray} {Q : Bool → Heap → Prop} (E : Keep B h0 L h) (A : TomeAt L i kT kR v r) (R : FRow r v l)
    (hQ : ∀ r' h', FRow r' v (setF l n b s ver) → Keep B h0 (L.set (i + 2) r') h' → Q (setB l n b s) h') : C_tome_Tome_Set B (some ⟨kT, 0, none⟩) n b s ver h Q := by
  refine C_tome_Tome_Set.of ?_
  unfold S_tome_Tome_Set
  intro k7 a7 b7 h8 e8
  have E1 := E.made a7 b7 e8
  have g7 := E1.last
  have no : setB l n b s = false → ∀ h', Keep B h0 L h' → Q false h' := fun hn h' E' => by
    have h1 : setF l n b s ver = l := by rw [setF, hn]; rfl
    have h2 : L.set (i + 2) r = L := by
      obtain ⟨hl, rfl⟩ := List.getElem?_eq_some_iff.1 A.f.q
      exact List.set_getElem_self hl
    have := hQ r h' (by rw [h1]; exact R) (by rw [h2]; exact E')
    rw [hn] at this; exact this
  refine ⟨fun e => (by cases e), fun _ => ⟨_, _, ⟨cellH_vec g7 rfl, cellH_vec g7 rfl, trivial⟩, goodF_wp fun h18 w => ?_⟩⟩
  have E2 := E1.wk w
  have g := E2.last
  refine ⟨fun hg => ?_, fun hg => ?_⟩
  · have A2 : FAt (L ++ [some (k7, AObj.vec TY.file_File (plains [.bool b, .string s]) 2)]) (i + 1) kR v r := ⟨up_app _ A.f.p, up_app _ A.f.q⟩
    have hset : C_cell_Row_file_File_Set B (some ⟨kR, 0, none⟩) n b s ver h18 (fun b28 h27 => CellsAt B h27 ⟨k7, 0, none⟩ 0 [.bool b, .string s] ∧ Fin B h27 (Q b28)) := by
      refine fset_wp E2 A2 R (fun hn h' E' => ⟨⟨cellH_vec E'.last rfl, cellH_vec E'.last rfl, trivial⟩, Fin.of (no ?_ h' E'.pop)⟩) fun h1 h2 r' h' R' E' => ?_
      · rw [setB, decide_eq_false hn, Bool.and_false]
      · rw [List.set_append_left _ _ (List.getElem?_eq_some_iff.1 A.f.q).1] at E'
        have hb : setB l n b s = true := by rw [setB, hg, decide_eq_true ⟨h1, by omega⟩]; rfl
        have := hQ r' h' (by rw [setF, if_pos hb]; exact R') E'.pop
        rw [hb] at this
        exact ⟨⟨cellH_vec E'.last rfl, cellH_vec E'.last rfl, trivial⟩, Fin.of this⟩
    refine ⟨⟨cellH_vec g rfl, cellH_vec g rfl, trivial⟩, _, rfl, ⟨_, E2.cell i (up_app _ A.p) rfl, _, _, ⟨cellH_vec g rfl, cellH_vec g rfl, trivial⟩, hset⟩, ⟨_, _, ⟨cellH_vec g rfl, cellH_vec g rfl, trivial⟩, _, E2.cell i (up_app _ A.p) rfl, hset⟩⟩
  · have hn : setB l n b s = false := by rw [setB, hg]; rfl
    exact ⟨⟨cellH_vec g rfl, cellH_vec g rfl, trivial⟩, Fin.of (no hn _ E2.pop), Fin.of (no hn _ E2.pop)⟩
theorem tnew_wp {Q : Option Addr → Heap → Prop} (hQ : ∀ kT kR v r h', FRow r v (List.replicate 6 ((false, ByteArray.empty), 0)) → Keep B h (tomE kT kR v r) h' → Q (some ⟨kT, 0, none⟩) h') : C_tome_New B h Q := by
  refine C_tome_New.of ?_
  unfold S_tome_New
  refine fnew_wp (by decide) fun kR v r h2 R E => ?_
  intro k4 a4 b4 h5 e5
  have E1 := E.made a4 b4 e5
  exact Fin.of (hQ k4 kR v r h5 R (E1.sub3 2 0 1 rfl rfl rfl))
end
end Go.Proofs.Ytlehephbflgblaa.H
namespace Go.Proofs.Ytlehephbflgblaa.H
open Go
set_option linter.unusedVariables false
set_option maxRecDepth 100000
def allF (l : List (FileS × Int)) : List (Int × Bool × ByteArray) := l.zipIdx.map fun p => ((p.2 : Int), p.1.1.1, p.1.1.2)
def filesOf (l : List (FileS × Int)) : List (Int × Bool × ByteArray) := (allF l).filter fun x => x.2.1
def encF (x : Int × Bool × ByteArray) : List Value := [.int .i64 x.1, .agg #[.bool x.2.1, .string x.2.2]]
theorem allF_len (l : List (FileS × Int)) : (allF l).length = l.length := by simp [allF]
theorem allF_get (l : List (FileS × Int)) (i : Nat) : (allF l)[i]? = (l[i]?).map fun x => ((i : Int), x.1.1, x.1.2) := by
  simp [allF, List.getElem?_zipIdx]
  cases l[i]? <;> simp
theorem filter_at {α : Type} (f : α → Bool) : ∀ (l : List α) (q : Nat) (x : α), l[q]? = some x → f x = true → (l.filter f)[((l.take q).filter f).length]? = some x
  | [], q, x, h, _ => by simp at h
  | y :: l, 0, x, h, hf => by
    simp at h; subst h
    simp [List.filter_cons, hf]
  | y :: l, q + 1, x, h, hf => by
    have ih := filter_at f l q x (by simpa using h) hf
    by_cases hy : f y = true
    · simp only [List.take_succ_cons, List.filter_cons, hy, if_true, List.length_cons, List.getElem?_cons_succ]; exact ih
    · simp only [List.take_succ_cons, List.filter_cons, hy, if_false]; exact ih
theorem filter_step {α : Type} (f : α → Bool) (l : List α) (q : Nat) (x : α) (h : l[q]? = some x) : ((l.take (q + 1)).filter f).length = ((l.take q).filter f).length + (if f x = true then 1 else 0) := by
  obtain ⟨hq, rfl⟩ := List.getElem?_eq_some_iff.1 h
  rw [List.take_succ_eq_append_getElem hq, List.filter_append, List.length_append]
  congr 1
  by_cases hf : f l[q] = true
  · simp [List.filter_cons, hf]
  · simp [List.filter_cons, hf]
def fallF (k3 : Nat) : Value := Value.func (.func FN.cell_Row_file_File_All_1) #[] #[(Value.pointer (some ⟨k3, 0, none⟩))]
def tallF (k3 : Nat) : Value := Value.func (.func FN.tome_Tome_All_1) #[] #[(Value.pointer (some ⟨k3, 0, none⟩))]
theorem NilOK.one {y : Value} (h : NilOK y) : isOne y = true := by
  rcases h with ⟨g, a, b, rfl⟩ | ⟨l, a, b, rfl⟩ <;> rfl
theorem plain1 (t : TypeId) (v : Value) : PlainO (.vec t [.plain v] 1) := ⟨t, [v], 1, rfl⟩
section
variable {B : RO} {h0 h h' : Heap} {L : List (Option (Nat × AObj))} {r : Option (Nat × AObj)} {i kT kR k3 m c : Nat} {a : Option Addr} {v : Value} {l : List (FileS × Int)}
def fG (k3 kR : Nat) (v : Value) (r : Option (Nat × AObj)) (h : Heap) : Prop :=
  h k3 = some (.vec TY.p_cell_Row_file_File [.plain (.pointer (some ⟨kR, 0, none⟩))] 1) ∧ h kR = some (frO v) ∧ ∀ k o, r = some (k, o) → h k = some o
theorem fG_ins : Ins (fG k3 kR v r) := by
  rintro h k o hk ⟨g1, g2, g3⟩
  exact ⟨Heap.get_new hk g1, Heap.get_new hk g2, fun k' o' e => Heap.get_new hk (g3 k' o' e)⟩
theorem fall_wp {p : Option Addr} {Q : Value → Heap → Prop} (hQ : ∀ k, h k = none → B k = none → Q (fallF k) (h.set k (.vec TY.p_cell_Row_file_File [.plain (.pointer p)] 1))) : C_cell_Row_file_File_All B p h Q := by
  refine C_cell_Row_file_File_All.of ?_
  unfold S_cell_Row_file_File_All
  intro k a1 b1 h4 e4
  subst e4
  exact Fin.of (hQ k a1 b1)
theorem fall_iter (R : FRow r v l) (hlen : l.length ≤ 100000) : Iter PG B (fallF k3) ((allF l).map encF) (fG k3 kR v r) := by
  refine ⟨_, _, _, rfl, TG.cell_Row_file_File_All_1, fun y J X h hy hG h0 hcall => ?_⟩
  have main : C_cell_Row_file_File_All_1 B y ⟨k3, 0, none⟩ h (fun h' => Fin B h' (fun h'' => J ((allF l).map encF).length h'' ∨ X h'')) := by
    refine C_cell_Row_file_File_All_1.of ?_
    unfold S_cell_Row_file_File_All_1
    obtain ⟨a, m, c, rfl⟩ := Row.slice R
    obtain ⟨rfl, hrd⟩ := Row.rd (B := B) R slotF_len (by omega)
    obtain ⟨g1, g2, g3⟩ := hG 0 h h0
    refine ⟨_, cellH_vec g1 rfl, fun e => (by cases e), fun _ => ⟨_, cellH_vec g1 rfl, _, rfl, .inl ⟨a, _, c, cellH_vec g2 rfl, ?_⟩⟩⟩
    refine ⟨fun i m' h' => ∃ j : Nat, j ≤ l.length ∧ i = j ∧ m' = l.length - j ∧ J j h', l.length, Fin.of ⟨0, by omega, rfl, by omega, h0⟩, ?_⟩
    rintro _ _ h13 ⟨j, hj, rfl, rfl, hJ⟩
    obtain ⟨g1, g2, g3⟩ := hG j h13 hJ
    refine ⟨fun hlt => ?_, fun hge => Fin.of ?_⟩
    · have hj' : j < l.length := by omega
      obtain ⟨A, e, _, q⟩ := hrd h13 g3 j _ (List.getElem?_eq_getElem hj')
      refine ⟨A, e, by omega, hlt, l[j].1.1, l[j].1.2, l[j].2, q, fun k24 a24 b24 h25 e25 => ?_⟩
      obtain ⟨g25, l25, -⟩ := Heap.made a24 e25
      refine ⟨_, stores_whole g25 rfl (by simp) (by simp [isOne]) (by simp), ?_⟩
      generalize e26 : h25.set k24 _ = h26
      obtain ⟨g26, -, -⟩ := Heap.put e26
      refine ⟨_, _, ⟨cellH_vec g26 rfl, cellH_vec g26 rfl, trivial⟩, ?_⟩
      have w : Wk B h13 h26 := by
        rw [← e26, e25, Heap.set_set]; exact Wk.new a24 b24
      have hc := hcall j h13 (encF ((j : Int), l[j].1.1, l[j].1.2)) (by
        rw [List.getElem?_map, allF_get, List.getElem?_eq_getElem hj']; rfl) hJ
      refine CallV.mono ?_ (hc.weaken w)
      rintro v h27 ⟨h28, t1, h29, t2, hor⟩
      rcases hor with ⟨rfl, hJ'⟩ | ⟨rfl, hX⟩
      · refine ⟨true, rfl, fun _ => ⟨h29, t1.trans t2, l.length - (j + 1), by omega, j + 1, by omega, ?_, rfl, hJ'⟩, fun e => by cases e⟩
        rw [w64 (by omega) (by omega)]; omega
      · exact ⟨false, rfl, fun e => (by cases e), fun _ => ⟨h29, t1.trans t2, Fin.of (.inr hX)⟩⟩
    · have : j = l.length := by omega
      subst this
      refine Fin.of (.inl ?_)
      rw [List.length_map, allF_len]
      exact hJ
  exact Spec.mono main fun v h' q => q.2
def tG (k3 kT kR : Nat) (v : Value) (r : Option (Nat × AObj)) (h : Heap) : Prop :=
  h k3 = some (.vec TY.p_tome_Tome [.plain (.pointer (some ⟨kT, 0, none⟩))] 1) ∧ h kT = some (tomO kR) ∧ h kR = some (frO v) ∧ ∀ k o, r = some (k, o) → h k = some o
theorem tG_ins : Ins (tG k3 kT kR v r) := by
  rintro h k o hk ⟨g1, g2, g3, g4⟩
  exact ⟨Heap.get_new hk g1, Heap.get_new hk g2, Heap.get_new hk g3, fun k' o' e => Heap.get_new hk (g4 k' o' e)⟩
theorem tall_wp {p : Option Addr} {Q : Value → Heap → Prop} (hQ : ∀ k, h k = none → B k = none → Q (tallF k) (h.set k (.vec TY.p_tome_Tome [.plain (.pointer p)] 1))) : C_tome_Tome_All B p h Q := by
  refine C_tome_Tome_All.of ?_
  unfold S_tome_Tome_All
  intro k a1 b1 h4 e4
  subst e4
  exact Fin.of (hQ k a1 b1)
theorem tall_iter (R : FRow r v l) (hlen : l.length ≤ 100000) : Iter PG B (tallF k3) ((filesOf l).map encF) (tG k3 kT kR v r) := by
  refine ⟨_, _, _, rfl, TG.tome_Tome_All_1, fun y J X h hy hG h0 hcall => ?_⟩
  have main : C_tome_Tome_All_1 B y ⟨k3, 0, none⟩ h (fun h' => Fin B h' (fun h'' => J ((filesOf l).map encF).length h'' ∨ X h'')) := by
    refine C_tome_Tome_All_1.of ?_
    unfold S_tome_Tome_All_1
    obtain ⟨g1, g2, g3, g4⟩ := hG 0 h h0
    refine ⟨hy.one, fun ky ay by' h4 e4 => ?_⟩
    obtain ⟨tyY, e4⟩ : ∃ ty, h4 = h.set ky (.vec ty [.plain y] 1) := ⟨_, e4⟩
    obtain ⟨gy, ly, fy⟩ := Heap.made ay e4
    refine ⟨_, cellH_vec (ly _ _ g1) rfl, fun e => (by cases e), fun _ => ⟨_, cellH_vec (ly _ _ g1) rfl, _, rfl, _, cellH_vec (ly _ _ g2) rfl, fall_wp fun kc ac bc => ?_⟩⟩
    have hky : kc ≠ ky := Heap.ne_of ac gy
    have it := fall_iter (B := B) (k3 := kc) (kR := kR) R hlen
    let cnt : Nat → Nat := fun q => (((allF l).take q).filter fun x => x.2.1).length
    refine ⟨allF l, fG kc kR v r, fun q h' => ∃ hu, hu ky = none ∧ hu kc = none ∧ h' = (hu.set ky (.vec tyY [.plain y] 1)).set kc (.vec TY.p_cell_Row_file_File [.plain (.pointer (some ⟨kR, 0, none⟩))] 1) ∧ J (cnt q) hu, it, fG_ins, ?_, Fin.of ⟨h, ay, ?_, by rw [e4], h0⟩, ?_, ?_⟩
    · rintro q h' ⟨hu, n1, n2, rfl, hJ⟩
      obtain ⟨u1, u2, u3, u4⟩ := hG _ hu hJ
      have up : ∀ {b : Nat} {o : AObj}, hu b = some o → ((hu.set ky (.vec tyY [.plain y] 1)).set kc (.vec TY.p_cell_Row_file_File [.plain (.pointer (some ⟨kR, 0, none⟩))] 1)) b = some o := fun hb =>
        Heap.get_new (by rw [Heap.set_ne _ _ _ _ hky]; exact n2) (Heap.get_new n1 hb)
      exact ⟨Heap.set_same _ _ _, up u3, fun k o e => up (u4 k o e)⟩
    · rw [e4, Heap.set_ne _ _ _ _ hky] at ac; exact ac
    · rintro q h17 i13 b14 s15 hg ⟨hu, n1, n2, rfl, hJ⟩
      have n2' : (hu.set ky (.vec tyY [.plain y] 1)) kc = none := by rw [Heap.set_ne _ _ _ _ hky]; exact n2
      generalize e17 : (hu.set ky (.vec tyY [.plain y] 1)).set kc (.vec TY.p_cell_Row_file_File [.plain (.pointer (some ⟨kR, 0, none⟩))] 1) = h17
      intro k21 a21 b21 h22 e22
      obtain ⟨g22, -, -⟩ := Heap.made a21 e22
      refine ⟨_, stores_whole g22 rfl (by simp) (by simp [isOne]) (by simp), ?_⟩
      generalize e23 : h22.set k21 _ = h23
      obtain ⟨g23, -, -⟩ := Heap.put e23
      have w : Wk B h17 h23 := by
        rw [← e23, e22, Heap.set_set]; exact Wk.new a21 b21
      have st := filter_step (fun x : Int × Bool × ByteArray => x.2.1) (allF l) q _ hg
      have gky : h17 ky = some (.vec tyY [.plain y] 1) := by
        rw [← e17, Heap.set_ne _ _ _ _ (Ne.symm hky), Heap.set_same]
      refine ⟨b14, cellH_vec g23 rfl, fun hb => ?_, fun hb => ?_⟩
      · subst hb
        refine ⟨y, cellH_vec (w.1 _ _ gky) rfl, _, _, ⟨cellH_vec g23 rfl, cellH_vec g23 rfl, trivial⟩, ?_⟩
        have hat := filter_at (fun x : Int × Bool × ByteArray => x.2.1) (allF l) q _ hg rfl
        have hc := hcall (cnt q) hu (encF (i13, true, s15)) (by
          show ((filesOf l).map encF)[cnt q]? = _
          rw [List.getElem?_map]
          show Option.map encF ((allF l).filter fun x => x.2.1)[cnt q]? = _
          rw [hat]; rfl) hJ
        have h1 := hc.frame1 (ob := .vec tyY [.plain y] 1) n1 by' (plain1 _ _)
        have h2 := h1.frame1 (ob := .vec TY.p_cell_Row_file_File [.plain (.pointer (some ⟨kR, 0, none⟩))] 1) n2' bc (plain1 _ _)
        rw [e17] at h2
        refine CallV.mono ?_ (h2.weaken w)
        rintro v h27 ⟨h28, t1, hx, x1, rfl, hz, z1, rfl, h29, t2, hor⟩
        have z2 : hz kc = none := by rw [Heap.set_ne _ _ _ _ hky] at x1; exact x1
        have lift : Ent B h27 ((h29.set ky (.vec tyY [.plain y] 1)).set kc (.vec TY.p_cell_Row_file_File [.plain (.pointer (some ⟨kR, 0, none⟩))] 1)) :=
          t1.trans (Ent.frame1 x1 bc (plain1 _ _) (Ent.frame1 z1 by' (plain1 _ _) t2))
        have w1 : h29 ky = none := t2.1 _ z1
        have w2 : h29 kc = none := t2.1 _ z2
        have drop : Ent B ((h29.set ky (.vec tyY [.plain y] 1)).set kc (.vec TY.p_cell_Row_file_File [.plain (.pointer (some ⟨kR, 0, none⟩))] 1)) h29 := Ent.forget fun b o hb =>
          Heap.get_new (by rw [Heap.set_ne _ _ _ _ hky]; exact w2) (Heap.get_new w1 hb)
        rcases hor with ⟨rfl, hJ'⟩ | ⟨rfl, hX⟩
        · refine ⟨true, rfl, fun _ => ⟨_, lift, h29, w1, w2, rfl, ?_⟩, fun e => by cases e⟩
          have : cnt (q + 1) = cnt q + 1 := st
          rw [this]; exact hJ'
        · exact ⟨false, rfl, fun e => (by cases e), fun _ => ⟨h29, lift.trans drop, Fin.of (.inr hX)⟩⟩
      · subst hb
        have hf : Ent B h23 h17 := Ent.forget w.1
        refine ⟨h17, hf, hu, n1, n2, e17.symm, ?_⟩
        have : cnt (q + 1) = cnt q := st
        rw [this]; exact hJ
    · rintro h17 ⟨hu, n1, n2, rfl, hJ⟩
      have drop : Ent B ((hu.set ky (.vec tyY [.plain y] 1)).set kc (.vec TY.p_cell_Row_file_File [.plain (.pointer (some ⟨kR, 0, none⟩))] 1)) hu := Ent.forget fun b o hb =>
        Heap.get_new (by rw [Heap.set_ne _ _ _ _ hky]; exact n2) (Heap.get_new n1 hb)
      refine ⟨hu, drop, Fin.of (.inl ?_)⟩
      have e : cnt (allF l).length = ((filesOf l).map encF).length := by
        show (((allF l).take (allF l).length).filter _).length = _
        rw [List.take_length, List.length_map]; rfl
      rw [← e]; exact hJ
  exact Spec.mono main fun v h' q => q.2
end
end Go.Proofs.Ytlehephbflgblaa.H
