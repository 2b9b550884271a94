/- What the law's proof stands on, part 3. No condition. -/
import Derived.IntWalk
import Derived.Laws.BitsLemmas
import Derived.Shelf.Strings.Repeat
import Derived.Test.YtcncdfmnpmmikaaG2
namespace Go.Proofs.Ytcncdfmnpmmikaa.H
open Go
set_option linter.unusedVariables false
set_option maxRecDepth 100000
set_option maxHeartbeats 4000000
theorem C_countermandref14_Sheet_put.of {B : RO} {p1 : Option Addr} {i2 : Int} {b3 : Bool} {s4 : ByteArray} {h : Heap} {Q : Heap → Prop} (s : S_countermandref14_Sheet_put B p1 i2 b3 s4 h Q) : C_countermandref14_Sheet_put B p1 i2 b3 s4 h Q := by
 refine zspec Try.func116 [] rfl rfl rfl rfl rfl ?_
 refine au 2 rfl ?_
 refine zbn s rfl rfl rfl fun k5 h6 s => ?_
 refine au 2 rfl ?_
 refine Run.drawM (fun h' => h' = h6) [] ⟨[0, 0, 1, 4, 10, 16, 0, 96], [255, 255, 254, 251, 245, 239, 255, 159], [0, 0, 0, 0, 0, 0, 0, 0], 0⟩ (.q 0 (.q 1 (.q 2 (.q 3 (.q 4 (.q 5 (.q 6 (.q 7 .nil)))))))) TF.mixed (by kernel_rfl) rfl ?_
 refine auT 2 rfl ?_
 obtain ⟨A7, e8, s⟩ := s
 refine zqe rfl (sem_nilCheck A7 (congrArg Value.pointer e8) ⟨rfl, rfl⟩) ?_
 refine auT 1 rfl ?_
 obtain ⟨hi0, hi1, s⟩ := s
 refine zqe rfl (sem_indexAddrA (Addr.add A7 12) .i64 (i2) rfl rfl TF.arr_77 hi0 hi1 ⟨rfl, rfl⟩) ?_
 obtain ⟨b9, s10, hl, s⟩ := s
 refine zqe rfl (sem_loadN (Addr.add (Addr.add A7 12) (Int.toNat (i2) * 2)) [(.bool b9), (.string s10)] rfl TF.agg_76 TF.sz_76 hl ⟨rfl, rfl⟩) ?_
 obtain ⟨b11, s12, hl, s⟩ := s
 refine zqe rfl (sem_loadN ⟨k5, 0, none⟩ [(.bool b11), (.string s12)] rfl TF.agg_76 TF.sz_76 hl ⟨rfl, rfl⟩) ?_
 by_cases hb13 : eqL [(.bool b9), (.string s10)] [(.bool b11), (.string s12)] = true
 ·replace s := s.1 hb13
  refine zqe rfl (sem_aggEq [(.bool b9), (.string s10)] [(.bool b11), (.string s12)] _ (false) (.inr rfl) rfl rfl TF.agg_76 TF.flat_76 TF.eqg_76 ⟨⟨_, rfl⟩, ⟨_, rfl⟩, trivial⟩ ⟨⟨_, rfl⟩, ⟨_, rfl⟩, trivial⟩ (eqLT_neq hb13) ⟨rfl, rfl⟩) ?_
  refine au 2 rfl ?_
  exact zf (s.imp fun _ q => ⟨rfl, q⟩)
 ·replace s := s.2 hb13
  refine zqe rfl (sem_aggEq [(.bool b9), (.string s10)] [(.bool b11), (.string s12)] _ (true) (.inr rfl) rfl rfl TF.agg_76 TF.flat_76 TF.eqg_76 ⟨⟨_, rfl⟩, ⟨_, rfl⟩, trivial⟩ ⟨⟨_, rfl⟩, ⟨_, rfl⟩, trivial⟩ (eqLF_neq hb13) ⟨rfl, rfl⟩) ?_
  refine au 2 rfl ?_
  refine Run.drawM (fun h' => h' = h6) [6] ⟨[0, 0, 0, 1, 8, 23, 39], [127, 127, 127, 126, 119, 109, 91], [0, 0, 0, 1, 9, 31, 63], 64⟩ (.q 0 (.q 1 (.q 2 (.q 3 (.q 4 (.q 5 (.x 6 .nil .no))))))) TF.mixed (by kernel_rfl) rfl ?_
  refine auT 2 rfl ?_
  obtain ⟨b14, s15, hl, s⟩ := s
  refine zqe rfl (sem_loadN ⟨k5, 0, none⟩ [(.bool b14), (.string s15)] rfl TF.agg_76 TF.sz_76 hl ⟨rfl, rfl⟩) ?_
  obtain ⟨A16, e17, s⟩ := s
  refine zqe rfl (sem_nilCheck A16 (congrArg Value.pointer e17) ⟨rfl, rfl⟩) ?_
  refine auT 1 rfl ?_
  obtain ⟨hi0, hi1, s⟩ := s
  refine zqe rfl (sem_indexAddrA (Addr.add A16 12) .i64 (i2) rfl rfl TF.arr_77 hi0 hi1 ⟨rfl, rfl⟩) ?_
  obtain ⟨h18, hst, s⟩ := s
  refine ⟨zo0 rfl (sem_storeN (Addr.add (Addr.add A16 12) (Int.toNat (i2) * 2)) [(.bool b14), (.string s15)] h18 rfl rfl TF.sz_76 hst ?_), trivial⟩
  refine ⟨fun hz => Bool.noConfusion hz, ?_⟩
  refine au 3 rfl ?_
  refine znil s rfl rfl fun A19 s => ?_
  refine au 1 rfl ?_
  obtain ⟨hi0, hi1, s⟩ := s
  refine zg rfl (sem_indexAddrA (Addr.add A19 24) .i64 (i2) rfl rfl TF.arr_84 hi0 hi1 ?_)
  refine zs1 s rfl rfl rfl rfl TF.sz_4 fun h21 s => ?_
  refine au 1 rfl ?_
  exact zf (s.imp fun _ q => ⟨rfl, q⟩)
theorem C_countermandref09_Put.of {B : RO} {b1 : Bool} {s2 : ByteArray} {i3 : Int} {i4 : Int} {h : Heap} {Q : Bool → ByteArray → Heap → Prop} (s : S_countermandref09_Put B b1 s2 i3 i4 h Q) : C_countermandref09_Put B b1 s2 i3 i4 h Q := by
 refine zspec Try.func117 [ResultVar.cell 6 76] rfl rfl rfl rfl rfl ?_
 refine au 2 rfl ?_
 refine zbn s rfl rfl rfl fun k7 h8 s => ?_
 refine zal s rfl TF.zero_76 rfl fun k9 h10 s => ?_
 refine au 1 rfl ?_
 refine Run.seqJ (fun e h12 => Agree [(1, (.int .i64 (i3))), (2, (.int .u8 (i4))), (3, (.pointer (some ⟨k7, 0, none⟩))), (6, (.pointer (some ⟨k9, 0, none⟩)))] e ∧ S_countermandref09_Put_J1 B i3 i4 k7 k9 h12 Q) ?_ fun j11 => ?_
 ·rintro e h12 ⟨hag, s⟩
  refine Run.env hag ?_; clear hag
  refine au 10 rfl ?_
  obtain ⟨J19, m17, h0, s⟩ := s
  refine Run.of_fin (h0.imp fun h' h0 => ?_)
  refine Run.loop (σ := ByteArray × Int × Nat) (fun x e h => J19 x.1 x.2.1 x.2.2 h ∧ Agree [(1, (.int .i64 (i3))), (2, (.int .u8 (i4))), (3, (.pointer (some ⟨k7, 0, none⟩))), (6, (.pointer (some ⟨k9, 0, none⟩))), (7, (.string x.1)), (8, (.int .i64 (x.2.1)))] e) (fun x => x.2.2) ((ByteArray.mk #[]), (0), m17) ⟨h0, ⟨rfl, rfl, rfl, rfl, rfl, rfl, trivial⟩⟩ ?_; clear h0
  rintro ⟨s13, i14, m16⟩ e h15 ⟨hJ, hag⟩ ih18
  have s := s s13 i14 m16 h15 hJ; clear hJ
  refine Run.env hag ?_; clear hag
  refine Run.seqJ (fun e h21 => Agree [(1, (.int .i64 (i3))), (2, (.int .u8 (i4))), (3, (.pointer (some ⟨k7, 0, none⟩))), (6, (.pointer (some ⟨k9, 0, none⟩))), (7, (.string s13)), (8, (.int .i64 (i14)))] e ∧ S_countermandref09_Put_J2 B i3 i4 k7 k9 s13 i14 m16 J19 h21 Q) ?_ fun j20 => ?_
  ·rintro e h21 ⟨hag, s⟩
   refine Run.env hag ?_; clear hag
   refine au 4 rfl ?_
   obtain ⟨b22, s23, hl, s⟩ := s
   refine zn hl rfl rfl TF.agg_76 TF.sz_76 rfl ?_
   refine au 1 rfl ?_
   refine zcall s rfl rfl TF.goes_138 ?_
   rintro _ h24 ⟨i25, rfl, s⟩
   refine zg rfl (sem_max .i64 (i25) (0) rfl rfl ?_)
   refine au 2 rfl ?_
   refine Run.seqJ (fun e h28 => ∃ i27 : Int, Agree [(1, (.int .i64 (i3))), (2, (.int .u8 (i4))), (3, (.pointer (some ⟨k7, 0, none⟩))), (6, (.pointer (some ⟨k9, 0, none⟩))), (7, (.string s13)), (8, (.int .i64 (i14))), (9, (.int .i64 (i27)))] e ∧ S_countermandref09_Put_J3 B i3 i4 k7 k9 s13 i14 m16 J19 i27 h28 Q) ?_ fun j26 => ?_
   ·rintro e h28 ⟨i27, hag, s⟩
    refine Run.env hag ?_; clear hag
    refine au 3 rfl ?_
    refine zg rfl (sem_convI .i64 .u8 (i27) rfl TF.int_3 TF.int_5 ?_)
    refine zg rfl (sem_buildSliceL [(0, (.int .u8 (IntKind.wrap .u8 (i27))))] [(.int .u8 (IntKind.wrap .u8 (i27)))] TF.slc_144 TF.zero_5 rfl (by decide) (by decide) rfl rfl (fun k29 hb1 hb2 h30 hb3 => ?_))
    have s := s k29 hb1 hb2 h30 hb3
    refine zg rfl (sem_convW ((.slice (some ⟨k29, 0, none⟩) 1 1)) rfl (semH_mono (fun v h32 hv => ?_) s))
    obtain ⟨s31, rfl, s⟩ := hv
    obtain ⟨hi0, s⟩ := s
    refine zg rfl (sem_strAdd s13 s31 rfl rfl hi0 ?_)
    refine au 8 rfl ?_
    exact Run.of_fin (s.imp fun h' ⟨m', hm, s⟩ => ih18 ((s13 ++ s31), (IntKind.wrap .i64 ((i14) + (1))), m') _ _ ⟨s, ⟨rfl, rfl, rfl, rfl, rfl, rfl, trivial⟩⟩ hm)
   refine au 4 rfl ?_
   refine zt s rfl rfl rfl binI_eql_t binI_eql_f (fun s => ?_) fun s => ?_
   ·refine au 4 rfl ?_
    refine zg rfl (sem_convI .u8 .i64 (i4) rfl TF.int_5 TF.int_3 ?_)
    refine au 2 rfl ?_
    exact Run.of_fin (s.imp fun h' s => j26 _ _ ⟨(IntKind.wrap .i64 (i4)), ⟨rfl, rfl, rfl, rfl, rfl, rfl, rfl, trivial⟩, s⟩)
   ·refine au 3 rfl ?_
    exact Run.of_fin (s.imp fun h' s => j26 _ _ ⟨(if (0 : Int) > (i25) then (0 : Int) else (i25)), ⟨rfl, rfl, rfl, rfl, rfl, rfl, rfl, trivial⟩, s⟩)
  refine au 4 rfl ?_
  refine zl s rfl rfl TF.agg_9 fun s33 s => ?_
  refine zg rfl (sem_lenStr s33 rfl TF.isStr_9 ?_)
  refine zt s rfl rfl rfl binI_lss_t binI_lss_f (fun s => ?_) fun s => ?_
  ·refine au 8 rfl ?_
   exact Run.of_fin (s.imp fun h' s => j20 _ _ ⟨⟨rfl, rfl, rfl, rfl, rfl, rfl, trivial⟩, s⟩)
  ·refine au 3 rfl ?_
   refine zt s rfl rfl rfl binI_leq_t binI_leq_f (fun s => ?_) fun s => ?_
   ·refine au 4 rfl ?_
    exact Run.of_fin (s.imp fun h' s => j20 _ _ ⟨⟨rfl, rfl, rfl, rfl, rfl, rfl, trivial⟩, s⟩)
   ·refine au 7 rfl ?_
    refine zg rfl (sem_buildSL [(0, (.bool true)), (1, (.string s13))] [(.bool true), (.string s13)] TF.zero_76 TF.places_76 rfl rfl ?_)
    refine zsn s rfl rfl rfl TF.sz_76 rfl fun h34 s => ?_
    refine au 1 rfl ?_
    obtain ⟨b35, s36, hl0, s⟩ := s
    exact zr (⟨⟨k9, 0, none⟩, (.agg #[(.bool b35), (.string s36)]), rfl, loadHN TF.agg_76 TF.sz_76 hl0, s.imp fun _ q => ⟨_, _, rfl, q⟩⟩)
 refine au 3 rfl ?_
 refine zt s rfl rfl rfl binI_lss_t binI_lss_f (fun s => ?_) fun s => ?_
 ·refine au 8 rfl ?_
  obtain ⟨b37, s38, hl, s⟩ := s
  refine zn hl rfl rfl TF.agg_76 TF.sz_76 rfl ?_
  refine zsn s rfl rfl rfl TF.sz_76 rfl fun h39 s => ?_
  refine au 1 rfl ?_
  obtain ⟨b40, s41, hl0, s⟩ := s
  exact zr (⟨⟨k9, 0, none⟩, (.agg #[(.bool b40), (.string s41)]), rfl, loadHN TF.agg_76 TF.sz_76 hl0, s.imp fun _ q => ⟨_, _, rfl, q⟩⟩)
 ·refine au 2 rfl ?_
  refine zt s rfl rfl rfl binI_gtr_t binI_gtr_f (fun s => ?_) fun s => ?_
  ·refine au 5 rfl ?_
   obtain ⟨b42, s43, hl, s⟩ := s
   refine zn hl rfl rfl TF.agg_76 TF.sz_76 rfl ?_
   refine zsn s rfl rfl rfl TF.sz_76 rfl fun h44 s => ?_
   refine au 1 rfl ?_
   obtain ⟨b45, s46, hl0, s⟩ := s
   exact zr (⟨⟨k9, 0, none⟩, (.agg #[(.bool b45), (.string s46)]), rfl, loadHN TF.agg_76 TF.sz_76 hl0, s.imp fun _ q => ⟨_, _, rfl, q⟩⟩)
  ·refine au 4 rfl ?_
   exact Run.of_fin (s.imp fun h' s => j11 _ _ ⟨⟨rfl, rfl, rfl, rfl, trivial⟩, s⟩)
theorem C_countermandref09_Cut.of {B : RO} {b1 : Bool} {s2 : ByteArray} {i3 : Int} {h : Heap} {Q : Bool → ByteArray → Heap → Prop} (s : S_countermandref09_Cut B b1 s2 i3 h Q) : C_countermandref09_Cut B b1 s2 i3 h Q := by
 refine zspec Try.func118 [ResultVar.cell 4 76] rfl rfl rfl rfl rfl ?_
 refine au 2 rfl ?_
 refine zbn s rfl rfl rfl fun k6 h7 s => ?_
 refine zal s rfl TF.zero_76 rfl fun k8 h9 s => ?_
 refine au 1 rfl ?_
 refine Run.seqJ (fun e h11 => Agree [(1, (.int .i64 (i3))), (2, (.pointer (some ⟨k6, 0, none⟩))), (4, (.pointer (some ⟨k8, 0, none⟩)))] e ∧ S_countermandref09_Cut_J1 B i3 k6 k8 h11 Q) ?_ fun j10 => ?_
 ·rintro e h11 ⟨hag, s⟩
  refine Run.env hag ?_; clear hag
  refine au 10 rfl ?_
  obtain ⟨J18, m16, h0, s⟩ := s
  refine Run.of_fin (h0.imp fun h' h0 => ?_)
  refine Run.loop (σ := ByteArray × Int × Nat) (fun x e h => J18 x.1 x.2.1 x.2.2 h ∧ Agree [(1, (.int .i64 (i3))), (2, (.pointer (some ⟨k6, 0, none⟩))), (4, (.pointer (some ⟨k8, 0, none⟩))), (5, (.string x.1)), (6, (.int .i64 (x.2.1)))] e) (fun x => x.2.2) ((ByteArray.mk #[]), (0), m16) ⟨h0, ⟨rfl, rfl, rfl, rfl, rfl, trivial⟩⟩ ?_; clear h0
  rintro ⟨s12, i13, m15⟩ e h14 ⟨hJ, hag⟩ ih17
  have s := s s12 i13 m15 h14 hJ; clear hJ
  refine Run.env hag ?_; clear hag
  refine au 5 rfl ?_
  refine zt s rfl rfl rfl binI_lss_t binI_lss_f (fun s => ?_) fun s => ?_
  ·refine au 7 rfl ?_
   obtain ⟨b19, s20, hl, s⟩ := s
   refine zn hl rfl rfl TF.agg_76 TF.sz_76 rfl ?_
   refine au 1 rfl ?_
   refine zcall s rfl rfl TF.goes_138 ?_
   rintro _ h21 ⟨i22, rfl, s⟩
   refine zg rfl (sem_max .i64 (i22) (0) rfl rfl ?_)
   refine zg rfl (sem_convI .i64 .u8 (if (0 : Int) > (i22) then (0 : Int) else (i22)) rfl TF.int_3 TF.int_5 ?_)
   refine zg rfl (sem_buildSliceL [(0, (.int .u8 (IntKind.wrap .u8 (if (0 : Int) > (i22) then (0 : Int) else (i22)))))] [(.int .u8 (IntKind.wrap .u8 (if (0 : Int) > (i22) then (0 : Int) else (i22))))] TF.slc_144 TF.zero_5 rfl (by decide) (by decide) rfl rfl (fun k23 hb1 hb2 h24 hb3 => ?_))
   have s := s k23 hb1 hb2 h24 hb3
   refine zg rfl (sem_convW ((.slice (some ⟨k23, 0, none⟩) 1 1)) rfl (semH_mono (fun v h26 hv => ?_) s))
   obtain ⟨s25, rfl, s⟩ := hv
   obtain ⟨hi0, s⟩ := s
   refine zg rfl (sem_strAdd s12 s25 rfl rfl hi0 ?_)
   refine au 8 rfl ?_
   exact Run.of_fin (s.imp fun h' ⟨m', hm, s⟩ => ih17 ((s12 ++ s25), (IntKind.wrap .i64 ((i13) + (1))), m') _ _ ⟨s, ⟨rfl, rfl, rfl, rfl, rfl, trivial⟩⟩ hm)
  ·refine au 6 rfl ?_
   refine zg rfl (sem_buildSL [(0, (.bool true)), (1, (.string s12))] [(.bool true), (.string s12)] TF.zero_76 TF.places_76 rfl rfl ?_)
   refine zsn s rfl rfl rfl TF.sz_76 rfl fun h27 s => ?_
   refine au 1 rfl ?_
   obtain ⟨b28, s29, hl0, s⟩ := s
   exact zr (⟨⟨k8, 0, none⟩, (.agg #[(.bool b28), (.string s29)]), rfl, loadHN TF.agg_76 TF.sz_76 hl0, s.imp fun _ q => ⟨_, _, rfl, q⟩⟩)
 refine au 3 rfl ?_
 refine zl s rfl rfl TF.agg_4 fun b30 s => ?_
 cases b30
 ·replace s := s.2 rfl
  refine au 13 rfl ?_
  obtain ⟨b31, s32, hl, s⟩ := s
  refine zn hl rfl rfl TF.agg_76 TF.sz_76 rfl ?_
  refine zsn s rfl rfl rfl TF.sz_76 rfl fun h33 s => ?_
  refine au 1 rfl ?_
  obtain ⟨b34, s35, hl0, s⟩ := s
  exact zr (⟨⟨k8, 0, none⟩, (.agg #[(.bool b34), (.string s35)]), rfl, loadHN TF.agg_76 TF.sz_76 hl0, s.imp fun _ q => ⟨_, _, rfl, q⟩⟩)
 ·replace s := s.1 rfl
  refine au 3 rfl ?_
  refine zt s rfl rfl rfl binI_lss_t binI_lss_f (fun s => ?_) fun s => ?_
  ·refine au 9 rfl ?_
   obtain ⟨b36, s37, hl, s⟩ := s
   refine zn hl rfl rfl TF.agg_76 TF.sz_76 rfl ?_
   refine zsn s rfl rfl rfl TF.sz_76 rfl fun h38 s => ?_
   refine au 1 rfl ?_
   obtain ⟨b39, s40, hl0, s⟩ := s
   exact zr (⟨⟨k8, 0, none⟩, (.agg #[(.bool b39), (.string s40)]), rfl, loadHN TF.agg_76 TF.sz_76 hl0, s.imp fun _ q => ⟨_, _, rfl, q⟩⟩)
  ·refine au 3 rfl ?_
   refine zt s rfl rfl rfl binI_gtr_t binI_gtr_f (fun s => ?_) fun s => ?_
   ·refine au 5 rfl ?_
    obtain ⟨b41, s42, hl, s⟩ := s
    refine zn hl rfl rfl TF.agg_76 TF.sz_76 rfl ?_
    refine zsn s rfl rfl rfl TF.sz_76 rfl fun h43 s => ?_
    refine au 1 rfl ?_
    obtain ⟨b44, s45, hl0, s⟩ := s
    exact zr (⟨⟨k8, 0, none⟩, (.agg #[(.bool b44), (.string s45)]), rfl, loadHN TF.agg_76 TF.sz_76 hl0, s.imp fun _ q => ⟨_, _, rfl, q⟩⟩)
   ·refine au 4 rfl ?_
    exact Run.of_fin (s.imp fun h' s => j10 _ _ ⟨⟨rfl, rfl, rfl, trivial⟩, s⟩)
theorem C_cell_Row_file_File_is.of {B : RO} {p1 : Option Addr} {i2 : Int} {h : Heap} {Q : Bool → Heap → Prop} (s : S_cell_Row_file_File_is B p1 i2 h Q) : C_cell_Row_file_File_is B p1 i2 h Q := by
 refine zspec Try.func120 [ResultVar.tmp 4] rfl rfl rfl rfl rfl ?_
 refine au 7 rfl ?_
 by_cases hb4 : p1 = none
 ·replace s := s.1 hb4
  refine zg rfl (sem_ptrNilT p1 (.inr rfl) false rfl rfl TF.ptr_110 hb4 rfl ?_)
  refine au 15 rfl ?_
  exact zr (s.imp fun _ q => ⟨_, rfl, q⟩)
 ·replace s := s.2 hb4
  refine zg rfl (sem_ptrNilF p1 (.inr rfl) true rfl rfl TF.ptr_110 hb4 rfl ?_)
  refine au 2 rfl ?_
  refine zt s rfl rfl rfl binI_geq_t binI_geq_f (fun s => ?_) fun s => ?_
  ·refine au 4 rfl ?_
   refine znil s rfl rfl fun A5 s => ?_
   refine au 1 rfl ?_
   refine Run.ldSl s fun a7 n8 c9 h10 hl s => ?_
   refine zg rfl (sem_load1 A5 ((.slice a7 n8 c9)) rfl TF.agg_166 hl ?_)
   refine zg rfl (sem_lenSl a7 n8 c9 rfl TF.sl_166 ?_)
   refine au 4 rfl ?_
   exact zr (s.imp fun _ q => ⟨_, rfl, q⟩)
  ·refine au 12 rfl ?_
   exact zr (s.imp fun _ q => ⟨_, rfl, q⟩)
theorem C_slices_Insert_s_draft_entry_file_File_draft_entry_file_File.of {B : RO} {a1 : Option Addr} {n2 : Nat} {c3 : Nat} {i4 : Int} {a5 : Option Addr} {n6 : Nat} {c7 : Nat} {h : Heap} {Q : Option Addr → Nat → Nat → Heap → Prop} (s : S_slices_Insert_s_draft_entry_file_File_draft_entry_file_File B a1 n2 c3 i4 a5 n6 c7 h Q) : C_slices_Insert_s_draft_entry_file_File_draft_entry_file_File B a1 n2 c3 i4 a5 n6 c7 h Q := by
 refine zspec Try.func125 [ResultVar.tmp 6] rfl rfl rfl rfl rfl ?_
 refine au 8 rfl ?_
 obtain ⟨hi0, hi1, hi2, s⟩ := s
 refine zg rfl (sem_sliceSlI a1 n2 c3 (i4) ((n2 : Nat)) rfl TF.slc_158 ⟨_, rfl⟩ rfl hi0 hi1 hi2 ?_)
 refine au 4 rfl ?_
 refine zg rfl (sem_lenSl a5 n6 c7 rfl TF.sl_158 ?_)
 refine au 6 rfl ?_
 refine zt s rfl rfl rfl binI_eql_t binI_eql_f (fun s => ?_) fun s => ?_
 ·refine au 7 rfl ?_
  exact zr (s.imp fun _ q => ⟨_, _, _, rfl, q⟩)
 ·refine au 6 rfl ?_
  refine zg rfl (sem_lenSl a1 n2 c3 rfl TF.sl_158 ?_)
  refine au 7 rfl ?_
  refine zt s rfl rfl rfl binI_eql_t binI_eql_f (fun s => ?_) fun s => ?_
  ·refine au 6 rfl ?_
   refine zg rfl (sem_appendL [(.slice a1 n2 c3), (.slice a5 n6 c7)] rfl (semH_mono (fun v h11 hv => ?_) s))
   obtain ⟨a12, n13, c14, rfl, s⟩ := hv
   refine au 2 rfl ?_
   exact zr (s.imp fun _ q => ⟨_, _, _, rfl, q⟩)
  ·refine au 10 rfl ?_
   refine zg rfl (sem_capSl a1 (n2) (c3) rfl TF.sl_158 ?_)
   refine zt s rfl rfl rfl binI_gtr_t binI_gtr_f (fun s => ?_) fun s => ?_
   ·refine au 6 rfl ?_
    obtain ⟨hi0, hi1, hi2, s⟩ := s
    refine zg rfl (sem_sliceSlI a1 n2 c3 (0) (i4) rfl TF.slc_158 rfl ⟨_, rfl⟩ hi0 hi1 hi2 ?_)
    refine au 5 rfl ?_
    refine zg rfl (sem_appendL [(.slice (if c3 = Int.toNat (0) then a1 else Option.map (·.add (Int.toNat (0) * 3)) a1) (Int.toNat (i4) - Int.toNat (0)) (c3 - Int.toNat (0))), (.int .i64 (IntKind.wrap .i64 ((IntKind.wrap .i64 (((n2 : Nat)) + ((n6 : Nat)))) - (i4))))] rfl (semH_mono (fun v h15 hv => ?_) s))
    obtain ⟨a16, n17, c18, rfl, s⟩ := hv
    refine au 6 rfl ?_
    obtain ⟨hi0, hi1, hi2, s⟩ := s
    refine zg rfl (sem_sliceSlI a16 n17 c18 (i4) ((n17 : Nat)) rfl TF.slc_158 ⟨_, rfl⟩ rfl hi0 hi1 hi2 ?_)
    refine au 1 rfl ?_
    refine zg rfl (sem_copyL [(.slice (if c18 = Int.toNat (i4) then a16 else Option.map (·.add (Int.toNat (i4) * 3)) a16) (Int.toNat ((n17 : Nat)) - Int.toNat (i4)) (c18 - Int.toNat (i4))), (.slice a5 n6 c7)] rfl (semH_mono (fun v h19 hv => ?_) s))
    obtain ⟨i20, rfl, s⟩ := hv
    refine au 2 rfl ?_
    refine Run.drawM (fun h' => h' = h19) [8] ⟨[0, 0, 0, 6, 9, 0, 0, 96, 144], [511, 511, 511, 505, 502, 511, 511, 415, 367], [0, 0, 0, 6, 15, 0, 0, 96, 255], 256⟩ (.q 0 (.q 1 (.q 2 (.q 3 (.q 4 (.q 5 (.q 6 (.q 7 (.x 8 .nil .no))))))))) TF.mixed (by kernel_rfl) rfl ?_
    refine auT 4 rfl ?_
    obtain ⟨hi0, hi1, hi2, s⟩ := s
    refine zqe rfl (sem_sliceSlI a16 n17 c18 (IntKind.wrap .i64 ((i4) + ((n6 : Nat)))) ((n17 : Nat)) rfl TF.slc_158 ⟨_, rfl⟩ rfl hi0 hi1 hi2 ⟨rfl, rfl⟩) ?_
    refine auT 2 rfl ?_
    obtain ⟨hi0, hi1, hi2, s⟩ := s
    refine zqe rfl (sem_sliceSlI a1 n2 c3 (i4) ((n2 : Nat)) rfl TF.slc_158 ⟨_, rfl⟩ rfl hi0 hi1 hi2 ⟨rfl, rfl⟩) ?_
    refine ⟨zo rfl (sem_copyL [(.slice (if c18 = Int.toNat (IntKind.wrap .i64 ((i4) + ((n6 : Nat)))) then a16 else Option.map (·.add (Int.toNat (IntKind.wrap .i64 ((i4) + ((n6 : Nat)))) * 3)) a16) (Int.toNat ((n17 : Nat)) - Int.toNat (IntKind.wrap .i64 ((i4) + ((n6 : Nat))))) (c18 - Int.toNat (IntKind.wrap .i64 ((i4) + ((n6 : Nat)))))), (.slice (if c3 = Int.toNat (i4) then a1 else Option.map (·.add (Int.toNat (i4) * 3)) a1) (Int.toNat ((n2 : Nat)) - Int.toNat (i4)) (c3 - Int.toNat (i4)))] rfl (semH_mono (fun v h21 hv => ?_) s)), trivial⟩
    obtain ⟨i22, rfl, s⟩ := hv
    refine ⟨fun hz => Bool.noConfusion hz, ?_⟩
    refine au 5 rfl ?_
    exact zr (s.imp fun _ q => ⟨_, _, _, rfl, q⟩)
   ·refine au 9 rfl ?_
    obtain ⟨hi0, hi1, hi2, s⟩ := s
    refine zg rfl (sem_sliceSlI a1 n2 c3 (0) (IntKind.wrap .i64 (((n2 : Nat)) + ((n6 : Nat)))) rfl TF.slc_158 rfl ⟨_, rfl⟩ hi0 hi1 hi2 ?_)
    refine au 10 rfl ?_
    obtain ⟨hi0, hi1, hi2, s⟩ := s
    refine zg rfl (sem_sliceSlI (if c3 = Int.toNat (0) then a1 else Option.map (·.add (Int.toNat (0) * 3)) a1) (Int.toNat (IntKind.wrap .i64 (((n2 : Nat)) + ((n6 : Nat)))) - Int.toNat (0)) (c3 - Int.toNat (0)) (IntKind.wrap .i64 ((i4) + ((n6 : Nat)))) (((Int.toNat (IntKind.wrap .i64 (((n2 : Nat)) + ((n6 : Nat)))) - Int.toNat (0)) : Nat)) rfl TF.slc_158 ⟨_, rfl⟩ rfl hi0 hi1 hi2 ?_)
    refine zg rfl (sem_callXL [(.slice a5 n6 c7), (.slice (if (c3 - Int.toNat (0)) = Int.toNat (IntKind.wrap .i64 ((i4) + ((n6 : Nat)))) then (if c3 = Int.toNat (0) then a1 else Option.map (·.add (Int.toNat (0) * 3)) a1) else Option.map (·.add (Int.toNat (IntKind.wrap .i64 ((i4) + ((n6 : Nat)))) * 3)) (if c3 = Int.toNat (0) then a1 else Option.map (·.add (Int.toNat (0) * 3)) a1)) (Int.toNat (((Int.toNat (IntKind.wrap .i64 (((n2 : Nat)) + ((n6 : Nat)))) - Int.toNat (0)) : Nat)) - Int.toNat (IntKind.wrap .i64 ((i4) + ((n6 : Nat))))) ((c3 - Int.toNat (0)) - Int.toNat (IntKind.wrap .i64 ((i4) + ((n6 : Nat))))))] (TF.goesx_147) rfl rfl (semH_mono (fun v h23 hv => ?_) s))
    obtain ⟨b24, rfl, s⟩ := hv
    cases b24
    ·replace s := s.2 rfl
     refine au 4 rfl ?_
     refine Run.drawM (fun h' => h' = h23) [8] ⟨[0, 0, 0, 6, 9, 0, 0, 96, 144], [511, 511, 511, 505, 502, 511, 511, 415, 367], [0, 0, 0, 6, 15, 0, 0, 96, 255], 256⟩ (.q 0 (.q 1 (.q 2 (.q 3 (.q 4 (.q 5 (.q 6 (.q 7 (.x 8 .nil .no))))))))) TF.mixed (by kernel_rfl) rfl ?_
     refine auT 4 rfl ?_
     obtain ⟨hi0, hi1, hi2, s⟩ := s
     refine zqe rfl (sem_sliceSlI (if c3 = Int.toNat (0) then a1 else Option.map (·.add (Int.toNat (0) * 3)) a1) (Int.toNat (IntKind.wrap .i64 (((n2 : Nat)) + ((n6 : Nat)))) - Int.toNat (0)) (c3 - Int.toNat (0)) (IntKind.wrap .i64 ((i4) + ((n6 : Nat)))) (((Int.toNat (IntKind.wrap .i64 (((n2 : Nat)) + ((n6 : Nat)))) - Int.toNat (0)) : Nat)) rfl TF.slc_158 ⟨_, rfl⟩ rfl hi0 hi1 hi2 ⟨rfl, rfl⟩) ?_
     refine auT 2 rfl ?_
     obtain ⟨hi0, hi1, hi2, s⟩ := s
     refine zqe rfl (sem_sliceSlI (if c3 = Int.toNat (0) then a1 else Option.map (·.add (Int.toNat (0) * 3)) a1) (Int.toNat (IntKind.wrap .i64 (((n2 : Nat)) + ((n6 : Nat)))) - Int.toNat (0)) (c3 - Int.toNat (0)) (i4) (((Int.toNat (IntKind.wrap .i64 (((n2 : Nat)) + ((n6 : Nat)))) - Int.toNat (0)) : Nat)) rfl TF.slc_158 ⟨_, rfl⟩ rfl hi0 hi1 hi2 ⟨rfl, rfl⟩) ?_
     refine ⟨zo rfl (sem_copyL [(.slice (if (c3 - Int.toNat (0)) = Int.toNat (IntKind.wrap .i64 ((i4) + ((n6 : Nat)))) then (if c3 = Int.toNat (0) then a1 else Option.map (·.add (Int.toNat (0) * 3)) a1) else Option.map (·.add (Int.toNat (IntKind.wrap .i64 ((i4) + ((n6 : Nat)))) * 3)) (if c3 = Int.toNat (0) then a1 else Option.map (·.add (Int.toNat (0) * 3)) a1)) (Int.toNat (((Int.toNat (IntKind.wrap .i64 (((n2 : Nat)) + ((n6 : Nat)))) - Int.toNat (0)) : Nat)) - Int.toNat (IntKind.wrap .i64 ((i4) + ((n6 : Nat))))) ((c3 - Int.toNat (0)) - Int.toNat (IntKind.wrap .i64 ((i4) + ((n6 : Nat)))))), (.slice (if (c3 - Int.toNat (0)) = Int.toNat (i4) then (if c3 = Int.toNat (0) then a1 else Option.map (·.add (Int.toNat (0) * 3)) a1) else Option.map (·.add (Int.toNat (i4) * 3)) (if c3 = Int.toNat (0) then a1 else Option.map (·.add (Int.toNat (0) * 3)) a1)) (Int.toNat (((Int.toNat (IntKind.wrap .i64 (((n2 : Nat)) + ((n6 : Nat)))) - Int.toNat (0)) : Nat)) - Int.toNat (i4)) ((c3 - Int.toNat (0)) - Int.toNat (i4)))] rfl (semH_mono (fun v h25 hv => ?_) s)), trivial⟩
     obtain ⟨i26, rfl, s⟩ := hv
     refine ⟨fun hz => Bool.noConfusion hz, ?_⟩
     refine au 4 rfl ?_
     obtain ⟨hi0, hi1, hi2, s⟩ := s
     refine zg rfl (sem_sliceSlI (if c3 = Int.toNat (0) then a1 else Option.map (·.add (Int.toNat (0) * 3)) a1) (Int.toNat (IntKind.wrap .i64 (((n2 : Nat)) + ((n6 : Nat)))) - Int.toNat (0)) (c3 - Int.toNat (0)) (i4) (((Int.toNat (IntKind.wrap .i64 (((n2 : Nat)) + ((n6 : Nat)))) - Int.toNat (0)) : Nat)) rfl TF.slc_158 ⟨_, rfl⟩ rfl hi0 hi1 hi2 ?_)
     refine au 1 rfl ?_
     refine zg rfl (sem_copyL [(.slice (if (c3 - Int.toNat (0)) = Int.toNat (i4) then (if c3 = Int.toNat (0) then a1 else Option.map (·.add (Int.toNat (0) * 3)) a1) else Option.map (·.add (Int.toNat (i4) * 3)) (if c3 = Int.toNat (0) then a1 else Option.map (·.add (Int.toNat (0) * 3)) a1)) (Int.toNat (((Int.toNat (IntKind.wrap .i64 (((n2 : Nat)) + ((n6 : Nat)))) - Int.toNat (0)) : Nat)) - Int.toNat (i4)) ((c3 - Int.toNat (0)) - Int.toNat (i4))), (.slice a5 n6 c7)] rfl (semH_mono (fun v h27 hv => ?_) s))
     obtain ⟨i28, rfl, s⟩ := hv
     refine au 6 rfl ?_
     exact zr (s.imp fun _ q => ⟨_, _, _, rfl, q⟩)
    ·replace s := s.1 rfl
     refine au 8 rfl ?_
     obtain ⟨hi0, hi1, hi2, s⟩ := s
     refine zg rfl (sem_sliceSlI (if c3 = Int.toNat (0) then a1 else Option.map (·.add (Int.toNat (0) * 3)) a1) (Int.toNat (IntKind.wrap .i64 (((n2 : Nat)) + ((n6 : Nat)))) - Int.toNat (0)) (c3 - Int.toNat (0)) ((n2 : Nat)) (((Int.toNat (IntKind.wrap .i64 (((n2 : Nat)) + ((n6 : Nat)))) - Int.toNat (0)) : Nat)) rfl TF.slc_158 ⟨_, rfl⟩ rfl hi0 hi1 hi2 ?_)
     refine au 1 rfl ?_
     refine zg rfl (sem_copyL [(.slice (if (c3 - Int.toNat (0)) = Int.toNat ((n2 : Nat)) then (if c3 = Int.toNat (0) then a1 else Option.map (·.add (Int.toNat (0) * 3)) a1) else Option.map (·.add (Int.toNat ((n2 : Nat)) * 3)) (if c3 = Int.toNat (0) then a1 else Option.map (·.add (Int.toNat (0) * 3)) a1)) (Int.toNat (((Int.toNat (IntKind.wrap .i64 (((n2 : Nat)) + ((n6 : Nat)))) - Int.toNat (0)) : Nat)) - Int.toNat ((n2 : Nat))) ((c3 - Int.toNat (0)) - Int.toNat ((n2 : Nat)))), (.slice a5 n6 c7)] rfl (semH_mono (fun v h29 hv => ?_) s))
     obtain ⟨i30, rfl, s⟩ := hv
     refine au 5 rfl ?_
     obtain ⟨hi0, hi1, hi2, s⟩ := s
     refine zg rfl (sem_sliceSlI (if c3 = Int.toNat (0) then a1 else Option.map (·.add (Int.toNat (0) * 3)) a1) (Int.toNat (IntKind.wrap .i64 (((n2 : Nat)) + ((n6 : Nat)))) - Int.toNat (0)) (c3 - Int.toNat (0)) (i4) (((Int.toNat (IntKind.wrap .i64 (((n2 : Nat)) + ((n6 : Nat)))) - Int.toNat (0)) : Nat)) rfl TF.slc_158 ⟨_, rfl⟩ rfl hi0 hi1 hi2 ?_)
     refine au 1 rfl ?_
     refine zcall s rfl rfl TF.goes_148 ?_
     rintro _ h31 ⟨rfl, s⟩
     refine au 6 rfl ?_
     exact zr (s.imp fun _ q => ⟨_, _, _, rfl, q⟩)
theorem C_slices_BinarySearchFunc_s_draft_entry_file_File_draft_entry_file_File_int.of {B : RO} {a1 : Option Addr} {n2 : Nat} {c3 : Nat} {i4 : Int} {v5 : Value} {h : Heap} {Q : Int → Bool → Heap → Prop} (s : S_slices_BinarySearchFunc_s_draft_entry_file_File_draft_entry_file_File_int B a1 n2 c3 i4 v5 h Q) : C_slices_BinarySearchFunc_s_draft_entry_file_File_draft_entry_file_File_int B a1 n2 c3 i4 v5 h Q := by
 refine zspec Try.func126 [ResultVar.tmp 6, ResultVar.tmp 7] rfl rfl rfl rfl rfl ?_
 refine au 8 rfl ?_
 refine zg rfl (sem_lenSl a1 n2 c3 rfl TF.sl_158 ?_)
 refine au 8 rfl ?_
 refine Run.seqJ (fun e h10 => ∃ i9 : Int, Agree [(0, (.slice a1 n2 c3)), (1, (.int .i64 (i4))), (2, v5), (8, (.int .i64 ((n2 : Nat)))), (9, (.int .i64 (i9)))] e ∧ S_slices_BinarySearchFunc_s_draft_entry_file_File_draft_entry_file_File_int_J1 B a1 n2 c3 i4 v5 i9 h10 Q) ?_ fun j8 => ?_
 ·rintro e h10 ⟨i9, hag, s⟩
  refine Run.env hag ?_; clear hag
  refine au 5 rfl ?_
  refine zt s rfl rfl rfl binI_lss_t binI_lss_f (fun s => ?_) fun s => ?_
  ·refine au 4 rfl ?_
   obtain ⟨A11, e12, hi0, hi1, s⟩ := s
   refine zg rfl (sem_indexAddrS A11 n2 c3 .i64 (i9) (congrArg (fun a => Value.slice a n2 c3) e12) rfl TF.slc_158 hi0 hi1 ?_)
   obtain ⟨i13, b14, s15, hl, s⟩ := s
   refine zn hl rfl rfl TF.agg_162 TF.sz_162 rfl ?_
   refine au 1 rfl ?_
   refine zg rfl (sem_callV (v5) [(.agg #[(.int .i64 (i13)), (.bool b14), (.string s15)]), (.int .i64 (i4))] rfl rfl s (fun nx h' ha => ha.mono fun v h16 hv => ?_))
   obtain ⟨i17, rfl, s⟩ := hv
   refine au 5 rfl ?_
   exact zr (s.imp fun _ q => ⟨_, _, rfl, q⟩)
  ·refine au 13 rfl ?_
   exact zr (s.imp fun _ q => ⟨_, _, rfl, q⟩)
 refine au 1 rfl ?_
 obtain ⟨J24, m22, h0, s⟩ := s
 refine Run.of_fin (h0.imp fun h' h0 => ?_)
 refine Run.loop (σ := Int × Int × Nat) (fun x e h => J24 x.1 x.2.1 x.2.2 h ∧ Agree [(0, (.slice a1 n2 c3)), (1, (.int .i64 (i4))), (2, v5), (8, (.int .i64 ((n2 : Nat)))), (9, (.int .i64 (x.1))), (10, (.int .i64 (x.2.1)))] e) (fun x => x.2.2) ((0), ((n2 : Nat)), m22) ⟨h0, ⟨rfl, rfl, rfl, rfl, rfl, rfl, trivial⟩⟩ ?_; clear h0
 rintro ⟨i18, i19, m21⟩ e h20 ⟨hJ, hag⟩ ih23
 have s := s i18 i19 m21 h20 hJ; clear hJ
 refine Run.env hag ?_; clear hag
 refine au 5 rfl ?_
 refine zt s rfl rfl rfl binI_lss_t binI_lss_f (fun s => ?_) fun s => ?_
 ·refine au 9 rfl ?_
  refine zg rfl (sem_convI .i64 .u64 (IntKind.wrap .i64 ((i18) + (i19))) rfl TF.int_3 TF.int_57 ?_)
  obtain ⟨hi0, s⟩ := s
  refine zg rfl (sem_shr .u64 .u64 (IntKind.wrap .u64 (IntKind.wrap .i64 ((i18) + (i19)))) (1) rfl rfl hi0 ?_)
  refine zg rfl (sem_convI .u64 .i64 (Int.fdiv (IntKind.wrap .u64 (IntKind.wrap .i64 ((i18) + (i19)))) (2 ^ (min (Int.toNat (1)) (IntKind.bits .u64)))) rfl TF.int_57 TF.int_3 ?_)
  refine au 7 rfl ?_
  obtain ⟨A25, e26, hi0, hi1, s⟩ := s
  refine zg rfl (sem_indexAddrS A25 n2 c3 .i64 (IntKind.wrap .i64 (Int.fdiv (IntKind.wrap .u64 (IntKind.wrap .i64 ((i18) + (i19)))) (2 ^ (min (Int.toNat (1)) (IntKind.bits .u64))))) (congrArg (fun a => Value.slice a n2 c3) e26) rfl TF.slc_158 hi0 hi1 ?_)
  obtain ⟨i27, b28, s29, hl, s⟩ := s
  refine zn hl rfl rfl TF.agg_162 TF.sz_162 rfl ?_
  refine au 1 rfl ?_
  refine zg rfl (sem_callV (v5) [(.agg #[(.int .i64 (i27)), (.bool b28), (.string s29)]), (.int .i64 (i4))] rfl rfl s (fun nx h' ha => ha.mono fun v h30 hv => ?_))
  obtain ⟨i31, rfl, s⟩ := hv
  refine zt s rfl rfl rfl binI_lss_t binI_lss_f (fun s => ?_) fun s => ?_
  ·refine au 8 rfl ?_
   exact Run.of_fin (s.imp fun h' ⟨m', hm, s⟩ => ih23 ((IntKind.wrap .i64 ((IntKind.wrap .i64 (Int.fdiv (IntKind.wrap .u64 (IntKind.wrap .i64 ((i18) + (i19)))) (2 ^ (min (Int.toNat (1)) (IntKind.bits .u64))))) + (1))), (i19), m') _ _ ⟨s, ⟨rfl, rfl, rfl, rfl, rfl, rfl, trivial⟩⟩ hm)
  ·refine au 7 rfl ?_
   exact Run.of_fin (s.imp fun h' ⟨m', hm, s⟩ => ih23 ((i18), (IntKind.wrap .i64 (Int.fdiv (IntKind.wrap .u64 (IntKind.wrap .i64 ((i18) + (i19)))) (2 ^ (min (Int.toNat (1)) (IntKind.bits .u64))))), m') _ _ ⟨s, ⟨rfl, rfl, rfl, rfl, rfl, rfl, trivial⟩⟩ hm)
 ·refine au 3 rfl ?_
  exact Run.of_fin (s.imp fun h' s => j8 _ _ ⟨(i18), ⟨rfl, rfl, rfl, rfl, rfl, trivial⟩, s⟩)
theorem C_draft_by_file_File.of {B : RO} {i1 : Int} {b2 : Bool} {s3 : ByteArray} {i4 : Int} {h : Heap} {Q : Int → Heap → Prop} (s : S_draft_by_file_File B i1 b2 s3 i4 h Q) : C_draft_by_file_File B i1 b2 s3 i4 h Q := by
 refine zspec Try.func127 [ResultVar.tmp 4] rfl rfl rfl rfl rfl ?_
 refine au 2 rfl ?_
 refine zbn s rfl rfl rfl fun k6 h7 s => ?_
 refine au 7 rfl ?_
 refine zl s rfl rfl TF.agg_3 fun i8 s => ?_
 refine au 1 rfl ?_
 refine zt s rfl rfl rfl binI_lss_t binI_lss_f (fun s => ?_) fun s => ?_
 ·refine au 7 rfl ?_
  exact zr (s.imp fun _ q => ⟨_, rfl, q⟩)
 ·refine au 6 rfl ?_
  refine zl s rfl rfl TF.agg_3 fun i9 s => ?_
  refine au 1 rfl ?_
  refine zt s rfl rfl rfl binI_gtr_t binI_gtr_f (fun s => ?_) fun s => ?_
  ·refine au 7 rfl ?_
   exact zr (s.imp fun _ q => ⟨_, rfl, q⟩)
  ·refine au 9 rfl ?_
   exact zr (s.imp fun _ q => ⟨_, rfl, q⟩)
theorem C_countermandref09_At.of {B : RO} {b1 : Bool} {s2 : ByteArray} {i3 : Int} {h : Heap} {Q : Int → Heap → Prop} (s : S_countermandref09_At B b1 s2 i3 h Q) : C_countermandref09_At B b1 s2 i3 h Q := by
 refine zspec Try.func138 [ResultVar.tmp 4] rfl rfl rfl rfl rfl ?_
 refine au 2 rfl ?_
 refine zbn s rfl rfl rfl fun k5 h6 s => ?_
 refine au 8 rfl ?_
 obtain ⟨J12, m10, h0, s⟩ := s
 refine Run.of_fin (h0.imp fun h' h0 => ?_)
 refine Run.loop (σ := Int × Nat) (fun x e h => J12 x.1 x.2 h ∧ Agree [(1, (.int .i64 (i3))), (2, (.pointer (some ⟨k5, 0, none⟩))), (5, (.int .i64 (x.1)))] e) (fun x => x.2) ((0), m10) ⟨h0, ⟨rfl, rfl, rfl, trivial⟩⟩ ?_; clear h0
 rintro ⟨i7, m9⟩ e h8 ⟨hJ, hag⟩ ih11
 have s := s i7 m9 h8 hJ; clear hJ
 refine Run.env hag ?_; clear hag
 refine au 5 rfl ?_
 refine zl s rfl rfl TF.agg_9 fun s13 s => ?_
 refine zg rfl (sem_lenStr s13 rfl TF.isStr_9 ?_)
 refine zt s rfl rfl rfl binI_lss_t binI_lss_f (fun s => ?_) fun s => ?_
 ·refine au 9 rfl ?_
  refine zt s rfl rfl rfl binI_eql_t binI_eql_f (fun s => ?_) fun s => ?_
  ·refine au 5 rfl ?_
   refine zl s rfl rfl TF.agg_9 fun s14 s => ?_
   refine au 1 rfl ?_
   obtain ⟨hi0, hi1, s⟩ := s
   refine zg rfl (sem_indexStr' s14 .i64 (i7) rfl rfl TF.isStr_9 hi0 hi1 ?_)
   refine zg rfl (sem_convI .u8 .i64 (byteAt s14 (Int.toNat (i7))) rfl TF.int_5 TF.int_3 ?_)
   refine au 2 rfl ?_
   exact zr (s.imp fun _ q => ⟨_, rfl, q⟩)
  ·refine au 9 rfl ?_
   exact Run.of_fin (s.imp fun h' ⟨m', hm, s⟩ => ih11 ((IntKind.wrap .i64 ((i7) + (1))), m') _ _ ⟨s, ⟨rfl, rfl, rfl, trivial⟩⟩ hm)
 ·refine au 7 rfl ?_
  exact zr (s.imp fun _ q => ⟨_, rfl, q⟩)
end Go.Proofs.Ytcncdfmnpmmikaa.H
namespace Go.Proofs.Ytcncdfmnpmmikaa.H
open Go
set_option linter.unusedVariables false
section
variable {P : Program} {B : RO} {h0 h h' : Heap} {L : List (Option (Nat × AObj))} {r : Option (Nat × AObj)} {e : TypeId} {sz : Nat} {xs : List Value} {α : Type} {cells : α → List Value} {l : List α} {a : Option Addr} {m c : Nat}
theorem Keep.pushS (E : Keep B h0 L h) (q : Nat) {t tx : TypeId} {bz n : Nat} {zs ys : List Value} {x : Value} (hq : L[q]? = some r) (R : Row r (.slice a m c) e sz xs) (ht : slcB P t = some (e, sz, bz)) (hz : zeroB P e = some zs) (hzs : zs.length = sz) (hsz : 0 < sz) (hbz : 0 < bz) (hst : slT P tx = true)
    (hx : Src B h x sz n ys) (hb : (xs.length + ys.length) * bz ≤ 1099511627776) {K : Value → Heap → Prop}
    (hK : ∀ a' m' c' r' h'', Row r' (.slice a' m' c') e sz (xs ++ ys) → Keep B h0 (L.set q r') h'' → K (.slice a' m' c') h'') {ty : TypeId} : semH P B (Builtin.append_ #[t, tx] ty #[.slice a m c, x]) h K := by
  have tf := slT_facts hst
  refine semH_append (n := n) (ys := ys) ht hz hzs hsz hbz tf.1 tf.2 (E.sl q hq R) hx hb ?_
  intro v' h'' ap
  obtain ⟨r', R', E'⟩ := E.appd q hq R ap
  obtain ⟨a', m', c', rfl⟩ := R'.slice
  exact hK _ _ _ _ _ R' E'
theorem Row.cut (R : Row r (.slice a m c) e sz xs) {n : Nat} (hn : n ≤ m) : Row r (.slice a n c) e sz (xs.take (n * sz)) := by
  rcases R with ⟨e0, e1, e2⟩ | ⟨k, m', c', nn, js, e0, e1, e3, e4, e5⟩
  · cases e1
    have : n = 0 := by omega
    subst this
    exact .inl ⟨e0, rfl, by rw [e2]; simp⟩
  · cases e1
    have h1 : n * sz ≤ m * sz := Nat.mul_le_mul_right _ hn
    refine .inr ⟨k, n, c, nn, xs.drop (n * sz) ++ js, ?_, rfl, by rw [List.length_take]; omega, by omega, e5⟩
    rw [← List.append_assoc, List.take_append_drop]; exact e0
end
end Go.Proofs.Ytcncdfmnpmmikaa.H
namespace Go.Proofs.Ytcncdfmnpmmikaa.H
open Go
set_option linter.unusedVariables false
theorem flatMap_setR {α : Type} {cells : α → List Value} (x : α) : ∀ (l : List α) (i : Nat) (hi : i < l.length), (l.set i x).flatMap cells = (l.take i).flatMap cells ++ cells x ++ (l.drop (i + 1)).flatMap cells
  | [], i, hi => by simp at hi
  | y :: l, 0, _ => by simp
  | y :: l, i + 1, hi => by
    simp only [List.set_cons_succ, List.flatMap_cons, List.take_succ_cons, List.drop_succ_cons]
    rw [flatMap_setR x l i (by simpa using hi)]
    simp [List.append_assoc]
theorem flatMap_splitR {α : Type} {cells : α → List Value} (l : List α) (i : Nat) (hi : i < l.length) : l.flatMap cells = (l.take i).flatMap cells ++ (cells l[i] ++ (l.drop (i + 1)).flatMap cells) := by
  conv => lhs; rw [← List.take_append_drop i l, List.drop_eq_getElem_cons hi]
  rw [List.flatMap_append, List.flatMap_cons]
section
variable {P : Program} {B : RO} {h0 h h' : Heap} {L : List (Option (Nat × AObj))} {r : Option (Nat × AObj)} {e : TypeId} {sz : Nat} {α : Type} {cells : α → List Value} {l : List α} {a : Option Addr} {m c : Nat}
theorem Keep.rowSet (E : Keep B h0 L h) (q : Nat) (hq : L[q]? = some r) (R : Row r (.slice a m c) e sz (l.flatMap cells)) (hc : ∀ x, (cells x).length = sz) (hsz : 0 < sz) (i : Nat) (hi : i < l.length) (x : α) (ho : ∀ y ∈ cells x, isOne y = true) :
    ∃ A h' r', a = some A ∧ StoresAt (A.add (i * sz)) h 0 (cells x) h' ∧ Row r' (.slice a m c) e sz ((l.set i x).flatMap cells) ∧ Keep B h0 (L.set q r') h' := by
  have hfl := flatMap_length hc l
  rcases R with ⟨_, _, e2⟩ | ⟨k, m', c', nn, js, rfl, e1, e3, e4, e5⟩
  · rw [e2] at hfl
    have : l.length * sz = 0 := hfl.symm
    rcases Nat.mul_eq_zero.1 this with h | h <;> omega
  · cases e1
    have hb := E.at q hq
    have hlen := flatMap_length hc (l.take i)
    rw [List.length_take, Nat.min_eq_left (by omega)] at hlen
    have hbb := hb
    rw [flatMap_splitR l i hi, List.append_assoc, List.append_assoc] at hbb
    have htot : l.length * sz ≤ nn := by
      have : m * sz ≤ c * sz := Nat.mul_le_mul_right _ e4
      omega
    have hii : i * sz + sz ≤ l.length * sz := by
      have : (i + 1) * sz ≤ l.length * sz := Nat.mul_le_mul_right _ hi
      rw [Nat.add_mul, Nat.one_mul] at this; exact this
    obtain ⟨h2, s1, _, s3⟩ := StoresAt.over (cells x) h (i * sz) 0 _ _ ho hbb (by rw [hlen]; omega) (by rw [hc]; omega)
    have hne : cells x ≠ [] := fun e0 => by have := hc x; rw [e0] at this; simp at this; omega
    have s3 := s3 hne
    have hdrop : (cells l[i] ++ ((l.drop (i + 1)).flatMap cells ++ js)).drop (cells x).length = (l.drop (i + 1)).flatMap cells ++ js := by
      rw [hc, ← hc l[i], List.drop_left]
    rw [hdrop, ← List.append_assoc, ← flatMap_setR (cells := cells) x l i hi] at s3
    have hset : ((l.set i x).flatMap cells).length = (l.flatMap cells).length := by
      rw [flatMap_length hc, flatMap_length hc, List.length_set]
    have E2 := E.put (o' := .vec e (plains ((l.set i x).flatMap cells ++ js)) nn) q hq
    rw [← s3] at E2
    refine ⟨_, h2, _, rfl, ?_, .inr ⟨k, m, c, nn, js, rfl, rfl, by rw [hset]; exact e3, e4, e5⟩, E2⟩
    rw [addr_more, Nat.zero_add]; exact s1
end
end Go.Proofs.Ytcncdfmnpmmikaa.H
namespace Go.Proofs.Ytcncdfmnpmmikaa.H
open Go
set_option linter.unusedVariables false
theorem w64 {n : Int} (h : -9223372036854775808 ≤ n) (h' : n ≤ 9223372036854775807) : IntKind.wrap .i64 n = n := IntWalk.i64_in n ⟨h, h'⟩
theorem wu64 (n : Int) : IntKind.wrap .u64 n = n % 18446744073709551616 := by simp [IntKind.wrap, IntKind.bits, IntKind.signed]
theorem wu8 (n : Int) : IntKind.wrap .u8 n = n % 256 := IntKind.wrap_u8 n
def natB (n : Nat) : List UInt8 := if n < 128 then [UInt8.ofNat n] else UInt8.ofNat (n % 128 + 128) :: natB (n / 128)
termination_by n
decreasing_by omega
theorem natB_lo {n : Nat} (h : n < 128) : natB n = [UInt8.ofNat n] := by rw [natB, if_pos h]
theorem natB_hi {n : Nat} (h : ¬ n < 128) : natB n = UInt8.ofNat (n % 128 + 128) :: natB (n / 128) := by rw [natB, if_neg h]
theorem natB_pos (n : Nat) : 0 < (natB n).length := by
  rw [natB]; split <;> simp
def natI (i : Int) : List UInt8 := if i < 0 then [] else natB i.toNat
def zig (i : Int) : Nat := if i < 0 then (-2 * i - 1).toNat else (2 * i).toNat
theorem two1 : (2 : Int) ^ (min (Int.toNat (1)) (IntKind.bits .u64)) = 2 := by decide
def bl (s : ByteArray) : List UInt8 := s.data.toList
def ba (l : List UInt8) : ByteArray := ⟨l.toArray⟩
theorem bl_ba (l : List UInt8) : bl (ba l) = l := by simp [bl, ba]
theorem ba_bl (s : ByteArray) : ba (bl s) = s := by cases s; simp [bl, ba]
theorem bl_inj {s t : ByteArray} (h : bl s = bl t) : s = t := by rw [← ba_bl s, h, ba_bl]
theorem bl_append (s t : ByteArray) : bl (s ++ t) = bl s ++ bl t := by simp [bl]
theorem ba_append (l m : List UInt8) : ba (l ++ m) = ba l ++ ba m := bl_inj (by rw [bl_append, bl_ba, bl_ba, bl_ba])
theorem bl_length (s : ByteArray) : (bl s).length = s.size := by simp [bl]
theorem ba_size (l : List UInt8) : (ba l).size = l.length := by rw [← bl_length, bl_ba]
end Go.Proofs.Ytcncdfmnpmmikaa.H
namespace Go.Proofs.Ytcncdfmnpmmikaa.H
open Go
set_option linter.unusedVariables false
set_option maxRecDepth 100000
section
variable {P : Program} {B : RO} {h0 h h' : Heap} {L : List (Option (Nat × AObj))} {r : Option (Nat × AObj)} {e : TypeId} {sz : Nat} {xs : List Value} {α : Type} {cells : α → List Value} {l : List α} {a : Option Addr} {m c : Nat}
theorem semH_appendZ {t tx ty : TypeId} {bz : Nat} {zs : List Value} {n : Nat} {ki : IntKind} {K : Value → Heap → Prop} (ht : slcB P t = some (e, sz, bz)) (hz : zeroB P e = some zs) (hzs : zs.length = sz) (hsz : 0 < sz) (hbz : 0 < bz) (hix : intB P tx = some ki)
    (hv : SlRow h (.slice a m c) e sz xs) (hgrow : c < m + n) (h0 : 0 < n) (hb : (m + n) * bz ≤ 1099511627776)
    (hk : ∀ b nc nn ys js, h b = none → B b = none → ys.length = n * sz → m + n ≤ nc → nc * sz ≤ nn → K (.slice (some ⟨b, 0, none⟩) (m + n) nc) (h.set b (.vec e (plains (xs ++ ys ++ js)) nn))) : semH P B (Builtin.append_ #[t, tx] ty #[.slice a m c, .int .i64 (n : Nat)]) h K := by
  have hn1 : n * bz ≤ 1099511627776 := Nat.le_trans (Nat.mul_le_mul_right _ (by omega)) hb
  have hn2 : n ≤ 1099511627776 := Nat.le_trans (Nat.le_mul_of_pos_right _ hbz) hn1
  have hmn : m + n ≤ 1099511627776 := Nat.le_trans (Nat.le_mul_of_pos_right _ hbz) hb
  unfold slcB at ht
  split at ht
  · rename_i e' hu
    cases hin : P.info? e' with
    | none => rw [hin] at ht; cases ht
    | some inf =>
      rw [hin] at ht
      simp only [Option.map_some, Option.some.injEq, Prod.mk.injEq] at ht
      obtain ⟨rfl, rfl, rfl⟩ := ht
      unfold Builtin.append_
      simp only [List.getElem?_toArray, List.getElem?_cons_zero, List.getElem?_cons_succ]
      rw [semH_und hu]
      dsimp only
      rw [semH_sz (n := inf.size) (by simp [szB, hin])]
      have htx : ∃ k', P.underlying tx = some (.int k') := by
        unfold intB at hix
        split at hix
        · rename_i k' hk'; exact ⟨k', hk'⟩
        · cases hix
      obtain ⟨k', hk'⟩ := htx
      rw [semH_und hk']
      have hw : IntKind.i64.wrap (n : Int) = n := IntWalk.i64_in n ⟨by omega, by omega⟩
      have hsmall : (n : Int) * (inf.bytes : Int) ≤ 1099511627776 := by
        have : ((n * inf.bytes : Nat) : Int) ≤ 1099511627776 := Int.ofNat_le.2 hn1
        rw [Int.natCast_mul] at this
        exact this
      simp only [pure_bind, if_true, asInt, asIntOf, hw]
      rw [if_neg (by omega), semH_info hin, if_neg (by show ¬ (_ > (2 : Int) ^ 48); omega)]
      simp only [Bool.not_true, Bool.false_eq_true, if_false, Int.toNat_natCast]
      rw [if_neg (by omega), semH_info hin]
      have hcap : Builtin.nextslicecap (m + n) c * inf.bytes ≤ 281474976710656 := by
        have h1 := nextcap_le (m + n) c (by omega)
        have h2 : Builtin.nextslicecap (m + n) c * inf.bytes ≤ (2 * (m + n) + 200) * inf.bytes := Nat.mul_le_mul_right _ h1
        have h3 : inf.bytes ≤ (m + n) * inf.bytes := Nat.le_mul_of_pos_left _ (by omega)
        have h4 : (2 * (m + n) + 200) * inf.bytes = 2 * ((m + n) * inf.bytes) + 200 * inf.bytes := by rw [Nat.add_mul, Nat.mul_assoc]
        omega
      have hmx : IntKind.i64.max = 9223372036854775807 := by decide
      rw [if_neg (by rw [hmx]; omega), semH_info hin, if_neg (by show ¬ (_ > 2 ^ 48); omega)]
      refine semH_choose rfl fun q => ?_
      have hcut : m + n ≤ (Question.appendCap (m + n) c e').cut q := by simp [Question.cut]
      generalize (Question.appendCap (m + n) c e').cut q = nc at hcut
      rw [semH_info hin]
      refine semH_askRoom ?_
      have hold : ∀ {α : Type} {f : Array Value → Sem α} {K : α → Heap → Prop}, semH P B (f xs.toArray) h K → semH P B (Builtin.firstCells inf.size m (.slice a m c) >>= f) h K := by
        intro α f K k
        rcases hv with ⟨h1, h2⟩ | ⟨k', m', c', nn, js, h1, h2, h3, h4, h5⟩
        · cases h1
          subst h2
          exact k
        · cases h1
          rw [semH_bind]
          show semH P B (loadCellsFrom ⟨k', 0, none⟩ 0 (m * inf.size) #[]) h _
          rw [h3]
          refine semH_loadCells xs 0 #[] (CellsAt.of_vec xs 0 h2 (fun j y hj => ?_)) ?_
          · simp only [Nat.zero_add]
            exact plains_get_some (by rw [List.getElem?_append_left (List.getElem?_eq_some_iff.1 hj).1]; exact hj)
          · simpa using k
      refine hold ?_
      have hns : ¬ (n * inf.size = 0) := by
        intro hh
        rcases Nat.mul_eq_zero.1 hh with h | h <;> omega
      rw [if_neg hns, bind_assoc]
      refine semH_zero hz fun z hzc => ?_
      have hzc' : z.cells.size = inf.size := by rw [← hzs, ← hzc]; simp
      simp only [pure_bind]
      refine semH_zero hz fun z' hzc2 => ?_
      have hzc2' : z'.cells.size = inf.size := by rw [← hzs, ← hzc2]; simp
      have hxl : xs.length = m * inf.size := by
        rcases hv with ⟨h1, h2⟩ | ⟨k', m', c', nn, js, h1, h2, h3, h4, h5⟩
        · cases h1; subst h2; simp
        · cases h1; exact h3.symm
      refine semH_newRow fun b hb1 hb2 => ?_
      have e1 : (xs.toArray ++ Builtin.zeroCells z.cells n ++ Builtin.zeroCells z'.cells (nc - (m + n))).toList = xs ++ (Builtin.zeroCells z.cells n).toList ++ (Builtin.zeroCells z'.cells (nc - (m + n))).toList := by simp
      have e2 : (xs.toArray ++ Builtin.zeroCells z.cells n ++ Builtin.zeroCells z'.cells (nc - (m + n))).size = m * inf.size + n * inf.size + (nc - (m + n)) * inf.size := by simp [zeroCells_size, hzc', hzc2', hxl, Nat.add_assoc]
      have e3 : nc * inf.size ≤ m * inf.size + n * inf.size + (nc - (m + n)) * inf.size := by
        rw [← Nat.add_mul, ← Nat.add_mul]
        exact Nat.mul_le_mul_right _ (by omega)
      have hyl : (Builtin.zeroCells z.cells n).toList.length = n * inf.size := by simp [zeroCells_size, hzc']
      rw [e1, e2]
      exact hk _ _ _ _ _ hb1 hb2 hyl hcut e3
  · cases ht
theorem semH_copySl {t tx ty : TypeId} {bz nS cS dLen cD : Nat} {A D : Addr} {ys : List Value} {K : Value → Heap → Prop} (ht : slcB P t = some (e, sz, bz)) (hc : CellsAt B h A 0 ys) (hl : ys.length = min nS dLen * sz) (st : StoresAt D h 0 ys h') (hk : K (.int .i64 ((min nS dLen : Nat) : Int)) h') :
    semH P B (Builtin.copy_ #[t, tx] ty #[.slice (some D) dLen cD, .slice (some A) nS cS]) h K := by
  unfold slcB at ht
  split at ht
  · rename_i e' hu
    cases hin : P.info? e' with
    | none => rw [hin] at ht; cases ht
    | some inf =>
      rw [hin] at ht
      simp only [Option.map_some, Option.some.injEq, Prod.mk.injEq] at ht
      obtain ⟨rfl, rfl, rfl⟩ := ht
      unfold Builtin.copy_
      simp only [List.getElem?_toArray, List.getElem?_cons_zero, List.getElem?_cons_succ]
      rw [semH_und hu]
      dsimp only
      have hlen : Builtin.lenOf (.slice (some A) nS cS) = pure nS := rfl
      rw [hlen, pure_bind, semH_sz (n := inf.size) (by simp [szB, hin])]
      rw [semH_bind]
      show semH P B (loadCellsFrom A 0 (min nS dLen * inf.size) #[]) h _
      rw [← hl]
      refine semH_loadCells ys 0 #[] hc ?_
      simp only [Array.empty_append]
      rw [semH_bind]
      exact semH_storeCells ys 0 st hk
  · cases ht
theorem semH_overlaps {t tb : TypeId} {bz la ca lb cb ka kb oa ob na nb : Nat} {fa fb : List Fld} {ea eb : TypeId} {K : Value → Heap → Prop} (ht : slcB P t = some (e, sz, bz)) (ha : h ka = some (.vec ea fa na)) (hb : h kb = some (.vec eb fb nb)) (hne : ka ≠ kb) (h5 : ea ≠ 5 ∧ eb ≠ 5) (hn : na ≠ 0 ∧ nb ≠ 0) (hk : K (.bool false) h) :
    semH P B (Extern.SlicesOverlaps.overlaps #[t, t] #[tb] #[.slice (some ⟨ka, oa, none⟩) la ca, .slice (some ⟨kb, ob, none⟩) lb cb]) h K := by
  unfold slcB at ht
  split at ht
  · rename_i e' hu
    cases hin : P.info? e' with
    | none => rw [hin] at ht; cases ht
    | some inf =>
      rw [hin] at ht
      simp only [Option.map_some, Option.some.injEq, Prod.mk.injEq] at ht
      obtain ⟨rfl, rfl, rfl⟩ := ht
      have fz : ∀ (o : Nat), frozenH B h ⟨ka, o, none⟩ = some false := fun o => by
        unfold frozenH; simp [ha, h5.1]
      have fz2 : ∀ (o : Nat), frozenH B h ⟨kb, o, none⟩ = some false := fun o => by
        unfold frozenH; simp [hb, h5.2]
      have sh : shapeH B h ka = some (some (ea, na)) := by unfold shapeH; simp [ha]
      have sh2 : shapeH B h kb = some (some (eb, nb)) := by unfold shapeH; simp [hb]
      have hbn : (ka != kb) = true := by simpa using hne
      have hbn' : (ka == kb) = false := by simpa using hne
      show semH P B (α := Value) (do
        let .slice elem ← underlying t | stuck "slices.overlaps: slice type expected"
        let size ← sizeOf elem
        if la = 0 ∨ lb = 0 ∨ size = 0 then pure (Value.bool false)
        else if ka != kb && (← frozen ⟨ka, oa, none⟩) && (← frozen ⟨kb, ob, none⟩) then unsupported .addressObserved
        else do
          if ka != kb then do
            noView ⟨ka, oa, none⟩; noView ⟨kb, ob, none⟩
            if ← mayBeOne ⟨ka, oa, none⟩ ⟨kb, ob, none⟩ then return Value.bool ((← choose (.extern "sameAddr.stringBytes" 2)) == 1)
          pure (Value.bool (ka == kb && oa < ob + lb * size && ob < oa + la * size))) h K
      rw [semH_und hu]
      dsimp only
      rw [semH_sz (n := inf.size) (by simp [szB, hin])]
      split
      · exact hk
      · have frz : ∀ {α : Type} {A : Addr} {f : Bool → Sem α} {K : α → Heap → Prop}, frozenH B h A = some false → semH P B (f false) h K → semH P B (frozen A >>= f) h K := fun {α A f K} e k => by
          rw [semH_bind]
          show semH P B (.frozen A .pure) h _
          intro b hb
          rw [hb false e]; exact k
        have shp : ∀ {α : Type} {q : Nat} {s : Option (TypeId × Nat)} {f : Option (TypeId × Nat) → Sem α} {K : α → Heap → Prop}, shapeH B h q = some s → semH P B (f s) h K → semH P B (shape q >>= f) h K := fun {α q s f K} e k => by
          rw [semH_bind]
          exact ⟨s, e, k⟩
        have nv : ∀ {α : Type} {q o : Nat} {s : TypeId × Nat} {f : Unit → Sem α} {K : α → Heap → Prop}, shapeH B h q = some (some s) → semH P B (f ()) h K → semH P B (noView ⟨q, o, none⟩ >>= f) h K := fun {α q o s f K} e k => by
          unfold noView viewAt
          simp only [bind_assoc]
          refine shp e ?_
          exact k
        have sg : ∀ {α : Type} {q o : Nat} {s : TypeId × Nat} {f : Bool → Sem α} {K : α → Heap → Prop}, shapeH B h q = some (some s) → (∀ o, frozenH B h ⟨q, o, none⟩ = some false) → semH P B (f false) h K → semH P B (stringish ⟨q, o, none⟩ >>= f) h K := fun {α q o s f K} e e2 k => by
          unfold stringish
          simp only [bind_assoc]
          refine frz (e2 _) ?_
          simp only [Bool.false_eq_true, if_false, bind_assoc]
          refine shp e ?_
          exact frz (e2 _) k
        refine frz (fz _) (frz (fz2 _) ?_)
        simp only [hbn, hbn', Bool.and_false, Bool.false_eq_true, if_false]
        refine nv sh (nv sh2 ?_)
        unfold mayBeOne
        simp only [bind_assoc]
        refine sg sh fz (sg sh2 fz2 (shp sh (shp sh2 ?_)))
        exact hk
  · cases ht
end
end Go.Proofs.Ytcncdfmnpmmikaa.H
namespace Go.Proofs.Ytcncdfmnpmmikaa.H
open Go
set_option linter.unusedVariables false
set_option maxRecDepth 100000
section
variable {P : Program} {B : RO} {h0 h h' : Heap} {L : List (Option (Nat × AObj))} {r : Option (Nat × AObj)} {e : TypeId} {sz : Nat} {xs : List Value} {a : Option Addr} {m c : Nat}
theorem optAddZ (a : Option Addr) (n k : Nat) : (if n = 0 then a else Option.map (fun x => Addr.add x (0 * k)) a) = a := by
  split
  · rfl
  · cases a
    · rfl
    · show some (Addr.add _ (0 * k)) = _
      rw [Nat.zero_mul]; rfl
theorem up_app {L : List (Option (Nat × AObj))} {j : Nat} {x : Option (Nat × AObj)} (y : List (Option (Nat × AObj))) (hj : L[j]? = some x) : (L ++ y)[j]? = some x := by
  rw [List.getElem?_append_left (List.getElem?_eq_some_iff.1 hj).1]; exact hj
theorem Keep.remap {L' : List (Option (Nat × AObj))} (E : Keep B h0 L h) (f : Nat → Nat) (hf : ∀ (i : Nat) (y : Nat × AObj), L'[i]? = some (some y) → L[f i]? = some (some y)) (hi : ∀ i j, i < L'.length → j < L'.length → f i = f j → i = j) : Keep B h0 L' h :=
  ⟨E.le, E.nw, fun i k o e => E.z _ k o (hf i _ e), fun i k o e => E.get _ k o (hf i _ e), fun i j k o o' e e' => hi i j (List.getElem?_eq_some_iff.1 e).1 (List.getElem?_eq_some_iff.1 e').1 (E.nd _ _ _ _ _ (hf i _ e) (hf j _ e'))⟩
theorem Keep.moveLast {x : Option (Nat × AObj)} (E : Keep B h0 (L ++ [x]) h) (q : Nat) : Keep B h0 (L.set q x) h := by
  let f : Nat → Nat := fun i => if i = q then L.length else i
  have key : ∀ (i : Nat) (y : Nat × AObj), (L.set q x)[i]? = some (some y) → (L ++ [x])[f i]? = some (some y) ∧ i < L.length := fun i y hi => by
    have hl := (List.getElem?_eq_some_iff.1 hi).1
    rw [List.length_set] at hl
    by_cases h : i = q
    · subst h
      rw [List.getElem?_set_self hl] at hi
      simp [f]; exact ⟨Option.some.inj hi, hl⟩
    · rw [List.getElem?_set_ne (Ne.symm h)] at hi
      simp only [f, if_neg h]
      rw [List.getElem?_append_left hl]; exact ⟨hi, hl⟩
  refine ⟨E.le, E.nw, fun i k o e => E.z _ k o (key i _ e).1, fun i k o e => E.get _ k o (key i _ e).1, fun i j k o o' e e' => ?_⟩
  obtain ⟨a1, a2⟩ := key i _ e
  obtain ⟨b1, b2⟩ := key j _ e'
  have := E.nd _ _ _ _ _ a1 b1
  simp only [f] at this
  by_cases h1 : i = q <;> by_cases h2 : j = q
  · rw [h1, h2]
  · rw [if_pos h1, if_neg h2] at this; omega
  · rw [if_neg h1, if_pos h2] at this; omega
  · rw [if_neg h1, if_neg h2] at this; exact this
theorem Keep.storesV (E : Keep B h0 L h) (i : Nat) {k nn : Nat} {t : TypeId} {fs gs : List Value} (hi : L[i]? = some (some (k, .vec t (plains (fs ++ gs)) nn))) (ys : List Value) (ho : ∀ y ∈ ys, isOne y = true) (o : Nat) (hf : fs.length = o) (hn : o + ys.length ≤ nn) :
    ∃ h', StoresAt ⟨k, o, none⟩ h 0 ys h' ∧ Keep B h0 (L.set i (some (k, .vec t (plains (fs ++ ys ++ gs.drop ys.length)) nn))) h' := by
  obtain ⟨h', s1, s2, s3⟩ := StoresAt.over ys h o 0 fs gs ho (E.at i hi) (by omega) (by omega)
  refine ⟨h', s1, ?_⟩
  by_cases hy : ys = []
  · rw [s2 hy, hy]
    have : L.set i (some (k, .vec t (plains (fs ++ [] ++ gs.drop ([] : List Value).length)) nn)) = L := by
      obtain ⟨hl, e⟩ := List.getElem?_eq_some_iff.1 hi
      rw [List.append_nil, List.length_nil, List.drop_zero, ← e]; exact List.set_getElem_self hl
    rw [this]; exact E
  · rw [s3 hy]; exact E.put i hi
theorem Keep.storesLast {k nn : Nat} {t : TypeId} {fs gs : List Value} (E : Keep B h0 (L ++ [some (k, .vec t (plains (fs ++ gs)) nn)]) h) (ys : List Value) (ho : ∀ y ∈ ys, isOne y = true) (o : Nat) (hf : fs.length = o) (hn : o + ys.length ≤ nn) :
    ∃ h', StoresAt ⟨k, o, none⟩ h 0 ys h' ∧ Keep B h0 (L ++ [some (k, .vec t (plains (fs ++ ys ++ gs.drop ys.length)) nn)]) h' := by
  obtain ⟨h', s, E'⟩ := E.storesV L.length (by rw [List.getElem?_append_right (Nat.le_refl _), Nat.sub_self]; rfl) ys ho o hf hn
  rw [List.set_append_right _ _ (Nat.le_refl _), Nat.sub_self] at E'
  exact ⟨h', s, E'⟩
theorem Keep.cellsV (E : Keep B h0 L h) (i : Nat) {k nn : Nat} {t : TypeId} {fs ys gs : List Value} (hi : L[i]? = some (some (k, .vec t (plains (fs ++ ys ++ gs)) nn))) (o : Nat) (hf : fs.length = o) : CellsAt B h ⟨k, o, none⟩ 0 ys :=
  CellsAt.of_vec ys 0 (E.at i hi) fun j y hj => by
    have hl := (List.getElem?_eq_some_iff.1 hj).1
    rw [plains_get, Nat.add_zero, List.append_assoc, List.getElem?_append_right (by omega), show o + j - fs.length = j by omega, List.getElem?_append_left hl, hj]
    rfl
def InsP (P : Program) (ts sz tb ti : Nat) (rot : RO → Option Addr → Nat → Nat → Int → Heap → (Heap → Prop) → Prop) (B : RO) (a1 : Option Addr) (n2 : Nat) (c3 : Nat) (i4 : Int) (a5 : Option Addr) (n6 : Nat) (c7 : Nat) (h : Heap) (Q : Option Addr → Nat → Nat → Heap → Prop) : Prop :=
 0 ≤ (i4 : Int) ∧ (i4 : Int) ≤ ((n2 : Nat) : Int) ∧ ((n2 : Nat) : Int) ≤ (c3 : Nat) ∧
 (((n6 : Nat) : Int) = 0 →
 Fin B h (Q a1 n2 c3)) ∧ (¬ (((n6 : Nat) : Int) = 0) →
 ((i4 : Int) = (n2 : Nat) →
 semH P B (Builtin.append_ #[ts, ts] ts #[(Value.slice a1 n2 c3), (Value.slice a5 n6 c7)]) h (fun v h13 => ∃ a14 : Option Addr, ∃ n15 : Nat, ∃ c16 : Nat, v = (Value.slice a14 n15 c16) ∧
 Fin B h13 (Q a14 n15 c16))) ∧ (¬ ((i4 : Int) = (n2 : Nat)) →
 ((IntKind.wrap .i64 (((n2 : Nat)) + ((n6 : Nat))) : Int) > ((c3 : Nat)) →
 0 ≤ (0 : Int) ∧ (0 : Int) ≤ (i4 : Int) ∧ (i4 : Int) ≤ (c3 : Nat) ∧
 semH P B (Builtin.append_ #[ts, ti] ts #[(Value.slice (if c3 = Int.toNat (0) then a1 else Option.map (·.add (Int.toNat (0) * sz)) a1) (Int.toNat (i4) - Int.toNat (0)) (c3 - Int.toNat (0))), (Value.int .i64 (IntKind.wrap .i64 ((IntKind.wrap .i64 (((n2 : Nat)) + ((n6 : Nat)))) - (i4))))]) h (fun v h18 => ∃ a19 : Option Addr, ∃ n20 : Nat, ∃ c21 : Nat, v = (Value.slice a19 n20 c21) ∧
 0 ≤ (i4 : Int) ∧ (i4 : Int) ≤ ((n20 : Nat) : Int) ∧ ((n20 : Nat) : Int) ≤ (c21 : Nat) ∧
 semH P B (Builtin.copy_ #[ts, ts] ti #[(Value.slice (if c21 = Int.toNat (i4) then a19 else Option.map (·.add (Int.toNat (i4) * sz)) a19) (Int.toNat ((n20 : Nat)) - Int.toNat (i4)) (c21 - Int.toNat (i4))), (Value.slice a5 n6 c7)]) h18 (fun v h22 => ∃ i23 : Int, v = (Value.int .i64 (i23)) ∧
 0 ≤ (IntKind.wrap .i64 ((i4) + ((n6 : Nat))) : Int) ∧ (IntKind.wrap .i64 ((i4) + ((n6 : Nat))) : Int) ≤ ((n20 : Nat) : Int) ∧ ((n20 : Nat) : Int) ≤ (c21 : Nat) ∧
 0 ≤ (i4 : Int) ∧ (i4 : Int) ≤ ((n2 : Nat) : Int) ∧ ((n2 : Nat) : Int) ≤ (c3 : Nat) ∧
 semH P B (Builtin.copy_ #[ts, ts] ti #[(Value.slice (if c21 = Int.toNat (IntKind.wrap .i64 ((i4) + ((n6 : Nat)))) then a19 else Option.map (·.add (Int.toNat (IntKind.wrap .i64 ((i4) + ((n6 : Nat)))) * sz)) a19) (Int.toNat ((n20 : Nat)) - Int.toNat (IntKind.wrap .i64 ((i4) + ((n6 : Nat))))) (c21 - Int.toNat (IntKind.wrap .i64 ((i4) + ((n6 : Nat)))))), (Value.slice (if c3 = Int.toNat (i4) then a1 else Option.map (·.add (Int.toNat (i4) * sz)) a1) (Int.toNat ((n2 : Nat)) - Int.toNat (i4)) (c3 - Int.toNat (i4)))]) h22 (fun v h24 => ∃ i25 : Int, v = (Value.int .i64 (i25)) ∧
 Fin B h24 (Q a19 n20 c21))))) ∧ (¬ ((IntKind.wrap .i64 (((n2 : Nat)) + ((n6 : Nat))) : Int) > ((c3 : Nat))) →
 0 ≤ (0 : Int) ∧ (0 : Int) ≤ (IntKind.wrap .i64 (((n2 : Nat)) + ((n6 : Nat))) : Int) ∧ (IntKind.wrap .i64 (((n2 : Nat)) + ((n6 : Nat))) : Int) ≤ (c3 : Nat) ∧
 0 ≤ (IntKind.wrap .i64 ((i4) + ((n6 : Nat))) : Int) ∧ (IntKind.wrap .i64 ((i4) + ((n6 : Nat))) : Int) ≤ (((Int.toNat (IntKind.wrap .i64 (((n2 : Nat)) + ((n6 : Nat)))) - Int.toNat (0)) : Nat) : Int) ∧ (((Int.toNat (IntKind.wrap .i64 (((n2 : Nat)) + ((n6 : Nat)))) - Int.toNat (0)) : Nat) : Int) ≤ ((c3 - Int.toNat (0)) : Nat) ∧
 semH P B (Extern.SlicesOverlaps.overlaps #[ts, ts] #[tb] #[(Value.slice a5 n6 c7), (Value.slice (if (c3 - Int.toNat (0)) = Int.toNat (IntKind.wrap .i64 ((i4) + ((n6 : Nat)))) then (if c3 = Int.toNat (0) then a1 else Option.map (·.add (Int.toNat (0) * sz)) a1) else Option.map (·.add (Int.toNat (IntKind.wrap .i64 ((i4) + ((n6 : Nat)))) * sz)) (if c3 = Int.toNat (0) then a1 else Option.map (·.add (Int.toNat (0) * sz)) a1)) (Int.toNat (((Int.toNat (IntKind.wrap .i64 (((n2 : Nat)) + ((n6 : Nat)))) - Int.toNat (0)) : Nat)) - Int.toNat (IntKind.wrap .i64 ((i4) + ((n6 : Nat))))) ((c3 - Int.toNat (0)) - Int.toNat (IntKind.wrap .i64 ((i4) + ((n6 : Nat))))))]) h (fun v h26 => ∃ b27 : Bool, v = (Value.bool b27) ∧
 (b27 = true →
 0 ≤ ((n2 : Nat) : Int) ∧ ((n2 : Nat) : Int) ≤ (((Int.toNat (IntKind.wrap .i64 (((n2 : Nat)) + ((n6 : Nat)))) - Int.toNat (0)) : Nat) : Int) ∧ (((Int.toNat (IntKind.wrap .i64 (((n2 : Nat)) + ((n6 : Nat)))) - Int.toNat (0)) : Nat) : Int) ≤ ((c3 - Int.toNat (0)) : Nat) ∧
 semH P B (Builtin.copy_ #[ts, ts] ti #[(Value.slice (if (c3 - Int.toNat (0)) = Int.toNat ((n2 : Nat)) then (if c3 = Int.toNat (0) then a1 else Option.map (·.add (Int.toNat (0) * sz)) a1) else Option.map (·.add (Int.toNat ((n2 : Nat)) * sz)) (if c3 = Int.toNat (0) then a1 else Option.map (·.add (Int.toNat (0) * sz)) a1)) (Int.toNat (((Int.toNat (IntKind.wrap .i64 (((n2 : Nat)) + ((n6 : Nat)))) - Int.toNat (0)) : Nat)) - Int.toNat ((n2 : Nat))) ((c3 - Int.toNat (0)) - Int.toNat ((n2 : Nat)))), (Value.slice a5 n6 c7)]) h26 (fun v h32 => ∃ i33 : Int, v = (Value.int .i64 (i33)) ∧
 0 ≤ (i4 : Int) ∧ (i4 : Int) ≤ (((Int.toNat (IntKind.wrap .i64 (((n2 : Nat)) + ((n6 : Nat)))) - Int.toNat (0)) : Nat) : Int) ∧ (((Int.toNat (IntKind.wrap .i64 (((n2 : Nat)) + ((n6 : Nat)))) - Int.toNat (0)) : Nat) : Int) ≤ ((c3 - Int.toNat (0)) : Nat) ∧
 rot B (if (c3 - Int.toNat (0)) = Int.toNat (i4) then (if c3 = Int.toNat (0) then a1 else Option.map (·.add (Int.toNat (0) * sz)) a1) else Option.map (·.add (Int.toNat (i4) * sz)) (if c3 = Int.toNat (0) then a1 else Option.map (·.add (Int.toNat (0) * sz)) a1)) (Int.toNat (((Int.toNat (IntKind.wrap .i64 (((n2 : Nat)) + ((n6 : Nat)))) - Int.toNat (0)) : Nat)) - Int.toNat (i4)) ((c3 - Int.toNat (0)) - Int.toNat (i4)) ((n6 : Nat)) h32 (fun h34 =>
 Fin B h34 (Q (if c3 = Int.toNat (0) then a1 else Option.map (·.add (Int.toNat (0) * sz)) a1) (Int.toNat (IntKind.wrap .i64 (((n2 : Nat)) + ((n6 : Nat)))) - Int.toNat (0)) (c3 - Int.toNat (0)))))) ∧ (b27 = false →
 0 ≤ (IntKind.wrap .i64 ((i4) + ((n6 : Nat))) : Int) ∧ (IntKind.wrap .i64 ((i4) + ((n6 : Nat))) : Int) ≤ (((Int.toNat (IntKind.wrap .i64 (((n2 : Nat)) + ((n6 : Nat)))) - Int.toNat (0)) : Nat) : Int) ∧ (((Int.toNat (IntKind.wrap .i64 (((n2 : Nat)) + ((n6 : Nat)))) - Int.toNat (0)) : Nat) : Int) ≤ ((c3 - Int.toNat (0)) : Nat) ∧
 0 ≤ (i4 : Int) ∧ (i4 : Int) ≤ (((Int.toNat (IntKind.wrap .i64 (((n2 : Nat)) + ((n6 : Nat)))) - Int.toNat (0)) : Nat) : Int) ∧ (((Int.toNat (IntKind.wrap .i64 (((n2 : Nat)) + ((n6 : Nat)))) - Int.toNat (0)) : Nat) : Int) ≤ ((c3 - Int.toNat (0)) : Nat) ∧
 semH P B (Builtin.copy_ #[ts, ts] ti #[(Value.slice (if (c3 - Int.toNat (0)) = Int.toNat (IntKind.wrap .i64 ((i4) + ((n6 : Nat)))) then (if c3 = Int.toNat (0) then a1 else Option.map (·.add (Int.toNat (0) * sz)) a1) else Option.map (·.add (Int.toNat (IntKind.wrap .i64 ((i4) + ((n6 : Nat)))) * sz)) (if c3 = Int.toNat (0) then a1 else Option.map (·.add (Int.toNat (0) * sz)) a1)) (Int.toNat (((Int.toNat (IntKind.wrap .i64 (((n2 : Nat)) + ((n6 : Nat)))) - Int.toNat (0)) : Nat)) - Int.toNat (IntKind.wrap .i64 ((i4) + ((n6 : Nat))))) ((c3 - Int.toNat (0)) - Int.toNat (IntKind.wrap .i64 ((i4) + ((n6 : Nat)))))), (Value.slice (if (c3 - Int.toNat (0)) = Int.toNat (i4) then (if c3 = Int.toNat (0) then a1 else Option.map (·.add (Int.toNat (0) * sz)) a1) else Option.map (·.add (Int.toNat (i4) * sz)) (if c3 = Int.toNat (0) then a1 else Option.map (·.add (Int.toNat (0) * sz)) a1)) (Int.toNat (((Int.toNat (IntKind.wrap .i64 (((n2 : Nat)) + ((n6 : Nat)))) - Int.toNat (0)) : Nat)) - Int.toNat (i4)) ((c3 - Int.toNat (0)) - Int.toNat (i4)))]) h26 (fun v h28 => ∃ i29 : Int, v = (Value.int .i64 (i29)) ∧
 0 ≤ (i4 : Int) ∧ (i4 : Int) ≤ (((Int.toNat (IntKind.wrap .i64 (((n2 : Nat)) + ((n6 : Nat)))) - Int.toNat (0)) : Nat) : Int) ∧ (((Int.toNat (IntKind.wrap .i64 (((n2 : Nat)) + ((n6 : Nat)))) - Int.toNat (0)) : Nat) : Int) ≤ ((c3 - Int.toNat (0)) : Nat) ∧
 semH P B (Builtin.copy_ #[ts, ts] ti #[(Value.slice (if (c3 - Int.toNat (0)) = Int.toNat (i4) then (if c3 = Int.toNat (0) then a1 else Option.map (·.add (Int.toNat (0) * sz)) a1) else Option.map (·.add (Int.toNat (i4) * sz)) (if c3 = Int.toNat (0) then a1 else Option.map (·.add (Int.toNat (0) * sz)) a1)) (Int.toNat (((Int.toNat (IntKind.wrap .i64 (((n2 : Nat)) + ((n6 : Nat)))) - Int.toNat (0)) : Nat)) - Int.toNat (i4)) ((c3 - Int.toNat (0)) - Int.toNat (i4))), (Value.slice a5 n6 c7)]) h28 (fun v h30 => ∃ i31 : Int, v = (Value.int .i64 (i31)) ∧
 Fin B h30 (Q (if c3 = Int.toNat (0) then a1 else Option.map (·.add (Int.toNat (0) * sz)) a1) (Int.toNat (IntKind.wrap .i64 (((n2 : Nat)) + ((n6 : Nat)))) - Int.toNat (0)) (c3 - Int.toNat (0))))))))))
theorem insP_wp {ts tb ti bz kx c7 : Nat} {ki : IntKind} {zs ys : List Value} {rot : RO → Option Addr → Nat → Nat → Int → Heap → (Heap → Prop) → Prop} {Q : Option Addr → Nat → Nat → Heap → Prop}
    (ht : slcB P ts = some (e, sz, bz)) (hz : zeroB P e = some zs) (hzs : zs.length = sz) (hsz : 0 < sz) (hbz : 0 < bz) (hst : slT P ts = true) (hti : intB P ti = some ki) (h5 : e ≠ 5)
    (E : Keep B h0 L h) (q : Nat) (hq : L[q]? = some r) (R : Row r (.slice a m c) e sz xs) (hxo : ∀ y ∈ xs, isOne y = true) (j : Nat) (hj : L[j]? = some (some (kx, .vec e (plains ys) sz))) (hys : ys.length = sz) (hone : ∀ y ∈ ys, isOne y = true) (hjq : j ≠ q) (i : Nat) (hi : i ≤ m) (hb : (xs.length + sz) * bz ≤ 1099511627776)
    (hQ : ∀ a' c' r' h', Row r' (.slice a' (m + 1) c') e sz (xs.take (i * sz) ++ ys ++ xs.drop (i * sz)) → Keep B h0 (L.set q r') h' → Q a' (m + 1) c' h') : InsP P ts sz tb ti rot B a m c (i : Nat) (some ⟨kx, 0, none⟩) 1 c7 h Q := by
  have hmx := Row.len R
  have hcap := Row.cap R
  have hm1 : m ≤ xs.length := by rw [← hmx]; exact Nat.le_mul_of_pos_right _ hsz
  have hlim : xs.length + sz ≤ 1099511627776 := Nat.le_trans (Nat.le_mul_of_pos_right _ hbz) hb
  have hw1 : IntKind.wrap .i64 (((m : Nat) : Int) + ((1 : Nat) : Int)) = ((m + 1 : Nat) : Int) := by rw [w64 (by omega) (by omega)]; omega
  have hw2 : IntKind.wrap .i64 (((i : Nat) : Int) + ((1 : Nat) : Int)) = ((i + 1 : Nat) : Int) := by rw [w64 (by omega) (by omega)]; omega
  have hw3 : IntKind.wrap .i64 (((m + 1 : Nat) : Int) - ((i : Nat) : Int)) = ((m + 1 - i : Nat) : Int) := by rw [w64 (by omega) (by omega)]; omega
  have him : i * sz ≤ m * sz := Nat.mul_le_mul_right _ hi
  have hsrc : ∀ {L' : List (Option (Nat × AObj))} {h1 : Heap}, Keep B h0 L' h1 → L'[j]? = some (some (kx, .vec e (plains ys) sz)) → CellsAt B h1 ⟨kx, 0, none⟩ 0 ys := fun E1 hj1 => E1.cellsV (fs := []) (gs := []) j (by rw [List.append_nil]; exact hj1) 0 rfl
  unfold InsP
  simp only [hw1, hw2, hw3, Int.toNat_natCast, Int.toNat_zero, Nat.sub_zero, optAddZ]
  refine ⟨by omega, by omega, by omega, fun e0 => absurd e0 (by decide), fun _ => ⟨fun hin => ?_, fun hin => ⟨fun hgr => ?_, fun hroom => ?_⟩⟩⟩
  · refine E.pushS q (n := 1) (ys := ys) hq R ht hz hzs hsz hbz hst ⟨by omega, hone, .inl ⟨_, _, rfl, hsrc E hj⟩⟩ (by rw [hys]; exact hb) fun a' m' c' r' h'' R' E' => ?_
    have hm' := Row.len R'
    have : m' = m + 1 := by
      have h1 : m' * sz = (m + 1) * sz := by rw [hm', List.length_append, hys, Nat.add_mul, hmx, Nat.one_mul]
      exact Nat.eq_of_mul_eq_mul_right hsz h1
    subst this
    have hie : i = m := by omega
    refine ⟨_, _, _, rfl, Fin.of (hQ _ _ _ _ ?_ E')⟩
    rw [hie, hmx, List.take_length, List.drop_length, List.append_nil]; exact R'
  · have hil : i < m := by omega
    have Rc := R.cut (n := i) hi
    refine ⟨by omega, by omega, by omega, semH_appendZ (n := m + 1 - i) (m := i) ht hz hzs hsz hbz hti (E.sl q hq Rc) (by omega) (by omega) ?_ fun b nc nn zz js hb1 hb2 hzl hnc hnn => ?_⟩
    · refine Nat.le_trans (Nat.mul_le_mul_right _ ?_) hb
      omega
    have him1 : (i + 1) * sz ≤ m * sz := Nat.mul_le_mul_right _ hil
    have e1 : (i + 1) * sz = i * sz + sz := by rw [Nat.add_mul, Nat.one_mul]
    have e2 : (m + 1 - i) * sz + i * sz = m * sz + sz := by rw [← Nat.add_mul, show m + 1 - i + i = m + 1 by omega, Nat.add_mul, Nat.one_mul]
    have hnc2 : (i + (m + 1 - i)) * sz ≤ nc * sz := Nat.mul_le_mul_right _ hnc
    rw [Nat.add_mul] at hnc2
    have htl : (xs.take (i * sz)).length = i * sz := by rw [List.length_take]; omega
    have E1 := E.new (o := .vec e (plains (xs.take (i * sz) ++ (zz ++ js))) nn) hb1 hb2
    rw [List.append_assoc]
    refine ⟨_, _, _, rfl, by omega, by omega, by omega, ?_⟩
    rw [if_neg (by omega), Option.map_some, addr_more, Nat.zero_add]
    obtain ⟨h22, st, E2⟩ := E1.storesLast ys hone (i * sz) htl (by omega)
    refine semH_copySl ht (hsrc E1 (by rw [List.getElem?_append_left (List.getElem?_eq_some_iff.1 hj).1]; exact hj)) (by rw [Nat.min_eq_left (by omega)]; omega) st ⟨_, rfl, by omega, by omega, by omega, by omega, by omega, by omega, ?_⟩
    rcases R with ⟨_, e3, e4⟩ | ⟨k, m', c', nk, jk, rfl, e3, e4, e5, e6⟩
    · cases e3; omega
    cases e3
    rw [if_neg (by omega), Option.map_some, addr_more, Nat.zero_add, if_neg (by omega), Option.map_some, addr_more, Nat.zero_add]
    have hql : q < L.length := (List.getElem?_eq_some_iff.1 hq).1
    have hdl : (xs.drop (i * sz)).length = (m - i) * sz := by rw [List.length_drop, Nat.sub_mul]; omega
    have hc2 : CellsAt B h22 ⟨k, i * sz, none⟩ 0 (xs.drop (i * sz)) := E2.cellsV (fs := xs.take (i * sz)) (gs := jk) q (by rw [List.getElem?_append_left hql, hq, List.take_append_drop]) (i * sz) htl
    obtain ⟨h24, st2, E3⟩ := E2.storesLast (xs.drop (i * sz)) (fun y hy => hxo y (List.mem_of_mem_drop hy)) ((i + 1) * sz) (by rw [List.length_append, htl, hys]; omega) (by rw [List.length_drop]; omega)
    refine semH_copySl ht hc2 (by rw [hdl, Nat.min_eq_left (by omega)]) st2 ⟨_, rfl, Fin.of ?_⟩
    have e7 : i + (m + 1 - i) = m + 1 := by omega
    rw [e7]
    refine hQ _ _ _ _ (.inr ⟨b, m + 1, nc, nn, _, rfl, rfl, ?_, by omega, hnn⟩) (E3.moveLast q)
    rw [List.length_append, List.length_append, htl, hys, List.length_drop, Nat.add_mul, Nat.one_mul]; omega
  · have hil : i < m := by omega
    have hmc : m + 1 ≤ c := by omega
    rcases R with ⟨_, e3, e4⟩ | ⟨k, m', c', nk, jk, rfl, e3, e4, e5, e6⟩
    · cases e3; omega
    cases e3
    have him1 : (i + 1) * sz ≤ m * sz := Nat.mul_le_mul_right _ hil
    have e1 : (i + 1) * sz = i * sz + sz := by rw [Nat.add_mul, Nat.one_mul]
    have hmc2 : (m + 1) * sz ≤ c * sz := Nat.mul_le_mul_right _ hmc
    rw [Nat.add_mul, Nat.one_mul] at hmc2
    have htl : (xs.take (i * sz)).length = i * sz := by rw [List.length_take]; omega
    have htl1 : (xs.take ((i + 1) * sz)).length = (i + 1) * sz := by rw [List.length_take]; omega
    have hql : q < L.length := (List.getElem?_eq_some_iff.1 hq).1
    refine ⟨by omega, by omega, by omega, by omega, by omega, by omega, ?_⟩
    have ni1 : ¬ c = i + 1 := by omega
    have ni : ¬ c = i := by omega
    simp only [if_neg ni1, if_neg ni, Option.map_some, addr_more, Nat.zero_add]
    refine semH_overlaps ht (E.at j hj) (E.at q hq) (fun e0 => hjq (E.nd j q kx _ _ hj (by rw [e0]; exact hq))) ⟨h5, h5⟩ ⟨by omega, by omega⟩ ⟨_, rfl, fun e0 => (by cases e0), fun _ => ⟨by omega, by omega, by omega, by omega, by omega, by omega, ?_⟩⟩
    have hdl : (xs.drop (i * sz)).length = (m - i) * sz := by rw [List.length_drop, Nat.sub_mul]; omega
    have hc2 : CellsAt B h ⟨k, i * sz, none⟩ 0 (xs.drop (i * sz)) := E.cellsV (fs := xs.take (i * sz)) (gs := jk) q (by rw [hq, List.take_append_drop]) (i * sz) htl
    obtain ⟨h28, st, E2⟩ := E.storesV q (fs := xs.take ((i + 1) * sz)) (gs := xs.drop ((i + 1) * sz) ++ jk) (by rw [hq, ← List.append_assoc, List.take_append_drop]) (xs.drop (i * sz)) (fun y hy => hxo y (List.mem_of_mem_drop hy)) ((i + 1) * sz) htl1 (by rw [List.length_drop]; omega)
    refine semH_copySl ht hc2 (by rw [hdl, Nat.min_eq_right (by omega)]; congr 1; omega) st ⟨_, rfl, by omega, by omega, by omega, ?_⟩
    have e8 : xs.take ((i + 1) * sz) = xs.take (i * sz) ++ (xs.drop (i * sz)).take sz := by rw [e1, List.take_add]
    generalize hrest : (xs.drop ((i + 1) * sz) ++ jk).drop (xs.drop (i * sz)).length = rest at E2
    obtain ⟨h30, st2, E3⟩ := E2.storesV q (k := k) (nn := nk) (t := e) (fs := xs.take (i * sz)) (gs := (xs.drop (i * sz)).take sz ++ (xs.drop (i * sz) ++ rest)) (by rw [List.getElem?_set_self hql, e8]; simp only [List.append_assoc]) ys hone (i * sz) htl (by omega)
    refine semH_copySl ht (hsrc E2 (by rw [List.getElem?_set_ne (Ne.symm hjq)]; exact hj)) (by rw [Nat.min_eq_left (by omega)]; omega) st2 ⟨_, rfl, Fin.of ?_⟩
    rw [List.set_set] at E3
    have e9 : ((xs.drop (i * sz)).take sz ++ (xs.drop (i * sz) ++ rest)).drop ys.length = xs.drop (i * sz) ++ rest := by
      rw [List.drop_left']
      rw [List.length_take, List.length_drop, hys]; omega
    rw [e9, ← List.append_assoc] at E3
    refine hQ _ _ _ _ (.inr ⟨k, m + 1, c, nk, rest, rfl, rfl, ?_, hmc, e6⟩) E3
    rw [List.length_append, List.length_append, htl, hys, List.length_drop, Nat.add_mul, Nat.one_mul]; omega
end
end Go.Proofs.Ytcncdfmnpmmikaa.H
namespace Go.Proofs.Ytcncdfmnpmmikaa.H
open Go
set_option linter.unusedVariables false
section
variable {V : Type} {l m : List (Int × V)} {i j : Int} {v : V} {p : Nat} {x : Int × V}
def insD : List (Int × V) → Int → V → List (Int × V)
  | [], i, v => [(i, v)]
  | y :: t, i, v => if y.1 < i then y :: insD t i v else if y.1 = i then (i, v) :: t else (i, v) :: y :: t
def SortD (l : List (Int × V)) : Prop := l.Pairwise fun x y => x.1 < y.1
def atD (l : List (Int × V)) (i : Int) : Option V := (l.find? fun x => x.1 == i).map (·.2)
structure PosD (l : List (Int × V)) (i : Int) (p : Nat) : Prop where
  le : p ≤ l.length
  lo : ∀ (q : Nat) (x : Int × V), q < p → l[q]? = some x → x.1 < i
  hi : ∀ (q : Nat) (x : Int × V), p ≤ q → l[q]? = some x → i ≤ x.1
def foundD (l : List (Int × V)) (p : Nat) (i : Int) : Bool := match l[p]? with
  | some x => x.1 == i
  | none => false
theorem PosD.tail {y : Int × V} (k : PosD (y :: l) i (p + 1)) : PosD l i p :=
  ⟨by have := k.le; simp at this; exact this, fun q x hq hx => k.lo (q + 1) x (by omega) (by simpa using hx), fun q x hq hx => k.hi (q + 1) x (by omega) (by simpa using hx)⟩
theorem insD_new : ∀ {l : List (Int × V)} {p : Nat}, PosD l i p → foundD l p i = false → insD l i v = l.take p ++ (i, v) :: l.drop p
  | [], p, k, _ => by
    have := k.le; simp at this; subst this; rfl
  | y :: t, 0, k, hf => by
    have h1 := k.hi 0 y (Nat.le_refl _) rfl
    have h2 : y.1 ≠ i := by simpa [foundD] using hf
    rw [insD, if_neg (by omega), if_neg h2]; rfl
  | y :: t, p + 1, k, hf => by
    have h1 := k.lo 0 y (by omega) rfl
    rw [insD, if_pos h1, insD_new k.tail (by simpa [foundD] using hf)]; rfl
theorem insD_old : ∀ {l : List (Int × V)} {p : Nat}, PosD l i p → foundD l p i = true → insD l i v = l.set p (i, v)
  | [], p, k, hf => by simp [foundD] at hf
  | y :: t, 0, k, hf => by
    have h2 : y.1 = i := by simpa [foundD] using hf
    rw [insD, if_neg (by omega), if_pos h2]; rfl
  | y :: t, p + 1, k, hf => by
    have h1 := k.lo 0 y (by omega) rfl
    rw [insD, if_pos h1, insD_old k.tail (by simpa [foundD] using hf)]; rfl
theorem foundD_some (hf : foundD l p i = true) : ∃ x, l[p]? = some x ∧ x.1 = i := by
  unfold foundD at hf
  split at hf
  · rename_i x hx; exact ⟨x, hx, by simpa using hf⟩
  · cases hf
theorem atD_old : ∀ {l : List (Int × V)} {p : Nat} {x : Int × V}, PosD l i p → l[p]? = some x → x.1 = i → atD l i = some x.2
  | [], p, x, _, h, _ => by simp at h
  | y :: t, 0, x, k, h, e => by
    simp at h; subst h
    simp [atD, e]
  | y :: t, p + 1, x, k, h, e => by
    have h1 := k.lo 0 y (by omega) rfl
    have := atD_old k.tail (by simpa using h) e
    have hn : (y.1 == i) = false := by simp; omega
    simp only [atD, List.find?_cons, hn]
    exact this
theorem atD_new : ∀ {l : List (Int × V)} {p : Nat}, SortD l → PosD l i p → foundD l p i = false → atD l i = none
  | [], p, _, _, _ => rfl
  | y :: t, 0, s, k, hf => by
    have h1 := k.hi 0 y (Nat.le_refl _) rfl
    have h2 : y.1 ≠ i := by simpa [foundD] using hf
    rw [SortD, List.pairwise_cons] at s
    unfold atD
    rw [Option.map_eq_none_iff, List.find?_eq_none]
    intro z hz
    rcases List.mem_cons.1 hz with rfl | hz
    · simpa using h2
    · have := s.1 z hz
      simp; omega
  | y :: t, p + 1, s, k, hf => by
    have h1 := k.lo 0 y (by omega) rfl
    rw [SortD, List.pairwise_cons] at s
    have := atD_new s.2 k.tail (by simpa [foundD] using hf)
    have hn : (y.1 == i) = false := by simp; omega
    simp only [atD, List.find?_cons, hn]
    exact this
theorem insD_mem : ∀ {l : List (Int × V)}, x ∈ insD l i v → x = (i, v) ∨ x ∈ l
  | [], h => by simp [insD] at h; exact .inl h
  | y :: t, h => by
    unfold insD at h
    split at h
    · rcases List.mem_cons.1 h with rfl | h
      · exact .inr (by simp)
      · rcases insD_mem h with h | h
        · exact .inl h
        · exact .inr (by simp [h])
    · split at h
      · rcases List.mem_cons.1 h with rfl | h
        · exact .inl rfl
        · exact .inr (by simp [h])
      · rcases List.mem_cons.1 h with rfl | h
        · exact .inl rfl
        · exact .inr h
theorem SortD.ins : ∀ {l : List (Int × V)}, SortD l → SortD (insD l i v)
  | [], _ => by simp [insD, SortD]
  | y :: t, s => by
    have s' := s
    rw [SortD, List.pairwise_cons] at s
    unfold insD
    split
    · rename_i h
      refine List.pairwise_cons.2 ⟨fun z hz => ?_, SortD.ins s.2⟩
      rcases insD_mem hz with rfl | hz
      · exact h
      · exact s.1 z hz
    · split
      · rename_i h
        refine List.pairwise_cons.2 ⟨fun z hz => ?_, s.2⟩
        have := s.1 z hz
        simp only; omega
      · rename_i h1 h2
        refine List.pairwise_cons.2 ⟨fun z hz => ?_, s'⟩
        rcases List.mem_cons.1 hz with rfl | hz
        · simp only; omega
        · have := s.1 z hz
          simp only; omega
theorem atD_ins : ∀ (l : List (Int × V)), atD (insD l i v) j = if j = i then some v else atD l j
  | [] => by
    unfold insD atD
    by_cases h : j = i
    · subst h; simp
    · simp [h, Ne.symm h]
  | y :: t => by
    have ih := atD_ins t
    unfold insD
    by_cases h : j = i
    · subst h
      rw [if_pos rfl] at ih ⊢
      split
      · rename_i h1
        have hn : (y.1 == j) = false := by simp; omega
        simp only [atD, List.find?_cons, hn]
        exact ih
      · split
        · simp [atD]
        · simp [atD]
    · rw [if_neg h] at ih ⊢
      split
      · simp only [atD, List.find?_cons]
        cases hn : (y.1 == j)
        · exact ih
        · rfl
      · split
        · rename_i h2
          have hn : (y.1 == j) = false := by simp; omega
          have hn2 : (i == j) = false := by simp; omega
          simp only [atD, List.find?_cons, hn, hn2]
        · have hn2 : (i == j) = false := by simp; omega
          simp only [atD, List.find?_cons, hn2]
theorem atD_lo (h : ∀ x ∈ l, i < x.1) : atD l i = none := by
  unfold atD
  rw [Option.map_eq_none_iff, List.find?_eq_none]
  intro z hz
  have := h z hz
  simp; omega
theorem SortD.get (s : SortD l) {p q : Nat} {x y : Int × V} (h : q < p) (hx : l[q]? = some x) (hy : l[p]? = some y) : x.1 < y.1 := by
  obtain ⟨h1, rfl⟩ := List.getElem?_eq_some_iff.1 hx
  obtain ⟨h2, rfl⟩ := List.getElem?_eq_some_iff.1 hy
  exact List.pairwise_iff_getElem.1 s q p h1 h2 h
theorem insD_len : (insD l i v).length ≤ l.length + 1 := by
  induction l with
  | nil => simp [insD]
  | cons y t ih =>
    unfold insD
    split
    · simpa using ih
    · split <;> simp
end
end Go.Proofs.Ytcncdfmnpmmikaa.H
namespace Go.Proofs.Ytcncdfmnpmmikaa.H
open Go
set_option linter.unusedVariables false
set_option maxRecDepth 100000
def entC_int (x : Int × Int) : List Value := [.int .i64 x.1, .int .i64 x.2]
theorem entC_int_len (x : Int × Int) : (entC_int x).length = 2 := rfl
def DRow_int (r : Option (Nat × AObj)) (v : Value) (l : List (Int × Int)) : Prop := Row r v TY.draft_entry_int 2 (l.flatMap entC_int)
def drO_int (v : Value) : AObj := .vec TY.draft_Draft_int (plains [v]) 1
structure DAt_int (L : List (Option (Nat × AObj))) (i k : Nat) (v : Value) (r : Option (Nat × AObj)) : Prop where
  p : L[i]? = some (some (k, drO_int v))
  q : L[i + 1]? = some r
section
variable {B : RO} {h0 h h' : Heap} {L : List (Option (Nat × AObj))} {r : Option (Nat × AObj)} {i k : Nat} {a : Option Addr} {m c : Nat} {v : Value} {l : List (Int × Int)}
theorem DRow_int.len (R : DRow_int r (.slice a m c) l) : m = l.length := (Row.rd (B := fun _ => none) R entC_int_len (by omega)).1
end
end Go.Proofs.Ytcncdfmnpmmikaa.H
namespace Go.Proofs.Ytcncdfmnpmmikaa.H
open Go
set_option linter.unusedVariables false
set_option maxRecDepth 100000
def entC_file_File (x : Int × (Bool × ByteArray)) : List Value := [.int .i64 x.1, .bool x.2.1, .string x.2.2]
theorem entC_file_File_len (x : Int × (Bool × ByteArray)) : (entC_file_File x).length = 3 := rfl
theorem entC_file_File_one (x : Int × (Bool × ByteArray)) : ∀ y ∈ entC_file_File x, isOne y = true := fun y hy => by simp [entC_file_File] at hy; rcases hy with rfl | rfl | rfl <;> rfl
theorem TK.slc_ent_file_File : slcB PG TY.s_draft_entry_file_File = some (TY.draft_entry_file_File, 3, 32) := by kernel_rfl
theorem TK.zero_ent_file_File : zeroB PG TY.draft_entry_file_File = some [.int .i64 0, .bool false, .string ByteArray.empty] := by kernel_rfl
theorem TK.sl_ent_file_File : slT PG TY.s_draft_entry_file_File = true := by kernel_rfl
theorem TK.int_ent_file_File : intB PG TY.int = some .i64 := by kernel_rfl
def DRow_file_File (r : Option (Nat × AObj)) (v : Value) (l : List (Int × (Bool × ByteArray))) : Prop := Row r v TY.draft_entry_file_File 3 (l.flatMap entC_file_File)
def drO_file_File (v : Value) : AObj := .vec TY.draft_Draft_file_File (plains [v]) 1
structure DAt_file_File (L : List (Option (Nat × AObj))) (i k : Nat) (v : Value) (r : Option (Nat × AObj)) : Prop where
  p : L[i]? = some (some (k, drO_file_File v))
  q : L[i + 1]? = some r
section
variable {B : RO} {h0 h h' : Heap} {L : List (Option (Nat × AObj))} {r : Option (Nat × AObj)} {i k : Nat} {a : Option Addr} {m c : Nat} {v : Value} {l : List (Int × (Bool × ByteArray))}
theorem by_file_File_wp {x : Int × (Bool × ByteArray)} {n : Int} {Q : Int → Heap → Prop} (hQ : Q (if x.1 < n then -1 else if n < x.1 then 1 else 0) h) : C_draft_by_file_File B x.1 x.2.1 x.2.2 n h Q := by
  refine C_draft_by_file_File.of ?_
  unfold S_draft_by_file_File
  intro k5 a5 b5 h6 e6
  have E := (Keep.nil B h).made a5 b5 e6
  refine ⟨_, E.cell 0 rfl rfl, fun h1 => Fin.ent E.back (Fin.of ?_), fun h1 => ⟨_, E.cell 0 rfl rfl, fun h2 => Fin.ent E.back (Fin.of ?_), fun h2 => Fin.ent E.back (Fin.of ?_)⟩⟩
  · rw [if_pos h1] at hQ; exact hQ
  · rw [if_neg h1, if_pos h2] at hQ; exact hQ
  · rw [if_neg h1, if_neg (fun h => h2 h)] at hQ; exact hQ
theorem bsearch_file_File_wp {n : Int} {Q : Int → Bool → Heap → Prop} (hr : Reads B h a 3 entC_file_File l) (s : SortD l) (hl : l.length ≤ 1000000) (hQ : ∀ p, PosD l n p → Q (p : Nat) (foundD l p n) h) : C_slices_BinarySearchFunc_s_draft_entry_file_File_draft_entry_file_File_int B a l.length c n (Value.func (.func FN.draft_by_file_File) #[] #[]) h Q := by
  refine C_slices_BinarySearchFunc_s_draft_entry_file_File_draft_entry_file_File_int.of ?_
  unfold S_slices_BinarySearchFunc_s_draft_entry_file_File_draft_entry_file_File_int
  refine ⟨fun i j m h' => ∃ lo hi : Nat, i = lo ∧ j = hi ∧ m = hi - lo ∧ lo ≤ hi ∧ hi ≤ l.length ∧ (∀ (q : Nat) (x : Int × (Bool × ByteArray)), q < lo → l[q]? = some x → x.1 < n) ∧ (∀ (q : Nat) (x : Int × (Bool × ByteArray)), hi ≤ q → l[q]? = some x → n ≤ x.1) ∧ h = h', l.length, Fin.of ⟨0, l.length, rfl, rfl, rfl, by omega, Nat.le_refl _, fun q x hq => by omega, fun q x hq hx => by have := (List.getElem?_eq_some_iff.1 hx).1; omega, rfl⟩, ?_⟩
  rintro _ _ _ _ ⟨lo, hi, rfl, rfl, rfl, hlh, hhl, hlo, hhi, rfl⟩
  refine ⟨fun hlt => ⟨by decide, ?_⟩, fun hge => Fin.of ?_⟩
  · have hmid : IntKind.wrap .i64 (Int.fdiv (IntKind.wrap .u64 (IntKind.wrap .i64 (((lo : Nat) : Int) + ((hi : Nat) : Int)))) (2 ^ (min (Int.toNat (1)) (IntKind.bits .u64)))) = (((lo + hi) / 2 : Nat) : Int) := by
      have e1 : IntKind.wrap .i64 (((lo : Nat) : Int) + ((hi : Nat) : Int)) = ((lo + hi : Nat) : Int) := by rw [w64 (by omega) (by omega)]; omega
      have e2 : IntKind.wrap .u64 ((lo + hi : Nat) : Int) = ((lo + hi : Nat) : Int) := by rw [wu64]; omega
      rw [e1, e2, two1, Int.fdiv_eq_ediv_of_nonneg _ (by decide), w64 (by omega) (by omega)]; omega
    rw [hmid]
    have hml : (lo + hi) / 2 < l.length := by omega
    have hx := List.getElem?_eq_getElem hml
    have hb : lo ≤ (lo + hi) / 2 ∧ (lo + hi) / 2 < hi := by omega
    generalize (lo + hi) / 2 = mid at hml hx hb
    generalize l[mid] = x at hx
    obtain ⟨A, e1, _, e4⟩ := hr mid x hx
    have hw : IntKind.wrap .i64 (((mid : Nat) : Int) + 1) = ((mid + 1 : Nat) : Int) := by rw [w64 (by omega) (by omega)]; omega
    rw [hw]
    refine ⟨A, e1, by omega, by omega, x.1, x.2.1, x.2.2, e4, ?_⟩
    refine CallV.func TG.draft_by_file_File (by_file_File_wp (x := x) ⟨fun h1 => Fin.of ⟨hi - (mid + 1), by omega, mid + 1, hi, rfl, rfl, rfl, by omega, hhl, fun q y hq hy => ?_, hhi, rfl⟩, fun h1 => Fin.of ⟨mid - lo, by omega, lo, mid, rfl, rfl, rfl, by omega, by omega, hlo, fun q y hq hy => ?_, rfl⟩⟩)
    · have hx1 : x.1 < n := by
        by_cases h2 : x.1 < n
        · exact h2
        · rw [if_neg h2] at h1; split at h1 <;> omega
      by_cases h : q = mid
      · subst h; rw [hx] at hy; cases hy; exact hx1
      · have := s.get (show q < mid by omega) hy hx; omega
    · have hx1 : n ≤ x.1 := by
        by_cases h2 : x.1 < n
        · rw [if_pos h2] at h1; omega
        · omega
      by_cases h : q = mid
      · subst h; rw [hx] at hy; cases hy; exact hx1
      · have := s.get (show mid < q by omega) hx hy; omega
  · have : lo = hi := by omega
    subst this
    have K : PosD l n lo := ⟨hhl, hlo, hhi⟩
    have hq := hQ lo K
    unfold S_slices_BinarySearchFunc_s_draft_entry_file_File_draft_entry_file_File_int_J1
    refine ⟨fun hlt2 => ?_, fun hge2 => Fin.of ?_⟩
    · have hml : lo < l.length := by omega
      have hx := List.getElem?_eq_getElem hml
      generalize l[lo] = x at hx
      obtain ⟨A, e1, _, e4⟩ := hr lo x hx
      have hf : foundD l lo n = (x.1 == n) := by rw [foundD, hx]
      rw [hf] at hq
      refine ⟨A, e1, by omega, by omega, x.1, x.2.1, x.2.2, e4, ?_⟩
      refine CallV.func TG.draft_by_file_File (by_file_File_wp (x := x) (Fin.of ?_))
      have : (((if x.1 < n then -1 else if n < x.1 then 1 else 0 : Int)) == (0 : Int)) = (x.1 == n) := by
        rw [Bool.eq_iff_iff, beq_iff_eq, beq_iff_eq]
        split
        · omega
        · split <;> omega
      rw [this]; exact hq
    · have hf : foundD l lo n = false := by rw [foundD, List.getElem?_eq_none (by omega)]
      rw [hf] at hq; exact hq
theorem DRow_file_File.len (R : DRow_file_File r (.slice a m c) l) : m = l.length := (Row.rd (B := fun _ => none) R entC_file_File_len (by omega)).1
theorem find_file_File_wp {n : Int} {Q : Int → Bool → Heap → Prop} (E : Keep B h0 L h) (A : DAt_file_File L i k v r) (R : DRow_file_File r v l) (s : SortD l) (hl : l.length ≤ 1000000) (hQ : ∀ p, PosD l n p → Q (p : Nat) (foundD l p n) h) : C_draft_Draft_file_File_find B (some ⟨k, 0, none⟩) n h Q := by
  refine C_draft_Draft_file_File_find.of ?_
  unfold S_draft_Draft_file_File_find
  obtain ⟨a, m, c, rfl⟩ := Row.slice R
  obtain ⟨rfl, hrd⟩ := Row.rd (B := B) R entC_file_File_len (by omega)
  exact ⟨_, rfl, .inl ⟨a, _, c, E.cell i A.p rfl, bsearch_file_File_wp (hrd h fun k o e => E.at (i + 1) (by rw [A.q, e])) s hl fun p K => Fin.of (hQ p K)⟩⟩
end
end Go.Proofs.Ytcncdfmnpmmikaa.H
namespace Go.Proofs.Ytcncdfmnpmmikaa.H
open Go
set_option linter.unusedVariables false
set_option maxRecDepth 100000
section
variable {P : Program} {B : RO} {h0 h h' : Heap} {L : List (Option (Nat × AObj))} {r : Option (Nat × AObj)} {e : TypeId} {sz : Nat} {xs : List Value} {a : Option Addr} {m c : Nat}
theorem Keep.picks (E : Keep B h0 L h) (is : List Nat) (hn : is.Nodup) : Keep B h0 (is.map fun i => L.getD i none) h := by
  refine E.remap (fun j => is.getD j 0) (fun j y hj => ?_) (fun i j hi hj e => ?_)
  · rw [List.getElem?_map] at hj
    obtain ⟨i, hi, e⟩ := Option.map_eq_some_iff.1 hj
    have : is.getD j 0 = i := by rw [List.getD_eq_getElem?_getD, hi]; rfl
    rw [this]
    rw [List.getD_eq_getElem?_getD] at e
    cases hL : L[i]? with
    | none => rw [hL] at e; cases e
    | some z => rw [hL] at e; exact congrArg some e
  · rw [List.length_map] at hi hj
    rw [List.getD_eq_getElem?_getD, List.getD_eq_getElem?_getD, List.getElem?_eq_getElem hi, List.getElem?_eq_getElem hj] at e
    have e : is[i] = is[j] := e
    have hp := List.pairwise_iff_getElem.1 hn
    rcases Nat.lt_trichotomy i j with h | h | h
    · exact absurd e (hp i j hi hj h)
    · exact h
    · exact absurd e.symm (hp j i hj hi h)
theorem Keep.dropMid {M N : List (Option (Nat × AObj))} (E : Keep B h0 (L ++ (M ++ N)) h) : Keep B h0 (L ++ N) h := by
  refine E.remap (fun i => if i < L.length then i else i + M.length) (fun i z hi => ?_) (fun i j hi hj e => ?_)
  · by_cases h1 : i < L.length
    · rw [List.getElem?_append_left h1] at hi
      rw [if_pos h1, List.getElem?_append_left h1]; exact hi
    · rw [List.getElem?_append_right (by omega)] at hi
      rw [if_neg h1, List.getElem?_append_right (by omega), List.getElem?_append_right (by omega)]
      rw [show i + M.length - L.length - M.length = i - L.length by omega]; exact hi
  · have e : (if i < L.length then i else i + M.length) = (if j < L.length then j else j + M.length) := e
    split at e <;> split at e <;> omega
end
end Go.Proofs.Ytcncdfmnpmmikaa.H
namespace Go.Proofs.Ytcncdfmnpmmikaa.H
open Go Go.RowKit
set_option linter.unusedVariables false
set_option maxRecDepth 100000
abbrev DFL := List (Int × (Bool × ByteArray))
section
variable {B : RO} {h0 h h' : Heap} {L : List (Option (Nat × AObj))} {r : Option (Nat × AObj)} {i k k3 : Nat} {a : Option Addr} {m c : Nat} {v : Value} {l : DFL} {n : Int}
theorem ins_file_File_eq {a5 : Option Addr} {n n6 c7 : Nat} {i : Int} {Q : Option Addr → Nat → Nat → Heap → Prop} : S_slices_Insert_s_draft_entry_file_File_draft_entry_file_File B a n c i a5 n6 c7 h Q = InsP PG TY.s_draft_entry_file_File 3 TY.bool TY.int (fun B => C_slices_rotateRight_draft_entry_file_File B) B a n c i a5 n6 c7 h Q := by
  unfold S_slices_Insert_s_draft_entry_file_File_draft_entry_file_File InsP
  congr
theorem put_file_File_wp {n : Int} {x : Bool × ByteArray} {Q : Bool → Heap → Prop} (E : Keep B h0 L h) (A : DAt_file_File L i k v r) (R : DRow_file_File r v l) (s : SortD l) (hl : l.length ≤ 100000) (hQ : ∀ v' r' h', DRow_file_File r' v' (insD l n x) → Keep B h0 ((L.set i (some (k, drO_file_File v'))).set (i + 1) r') h' → Q true h') : C_draft_Draft_file_File_Put B (some ⟨k, 0, none⟩) n x.1 x.2 h Q := by
  refine C_draft_Draft_file_File_Put.of ?_
  unfold S_draft_Draft_file_File_Put
  have hil : i < L.length := (List.getElem?_eq_some_iff.1 A.p).1
  have hil1 : i + 1 < L.length := (List.getElem?_eq_some_iff.1 A.q).1
  intro k6 a6 b6 h7 e7
  have E0 : Keep B h0 (L ++ [some (k6, .vec TY.file_File (plains [.bool x.1, .string x.2]) 2)]) h7 := E.made a6 b6 e7
  have A0 : DAt_file_File (L ++ [some (k6, .vec TY.file_File (plains [.bool x.1, .string x.2]) 2)]) i k v r := ⟨up_app _ A.p, up_app _ A.q⟩
  have c6 : ∀ {h1 : Heap}, h1 k6 = some (.vec TY.file_File (plains [.bool x.1, .string x.2]) 2) → CellsAt B h1 ⟨k6, 0, none⟩ 0 [.bool x.1, .string x.2] := fun g => ⟨cellH_vec g rfl, cellH_vec g rfl, trivial⟩
  refine ⟨fun e => (by cases e), fun _ => find_file_File_wp E0 A0 R s (by omega) fun p K => ⟨fun hf => ?_, fun hf => ?_⟩⟩
  · obtain ⟨y, hy, rfl⟩ := foundD_some hf
    have hpl := (List.getElem?_eq_some_iff.1 hy).1
    have hi := insD_old (v := x) K hf
    obtain ⟨a, m, c, rfl⟩ := Row.slice R
    have hm := DRow_file_File.len R
    subst hm
    have hfl := flatMap_length entC_file_File_len l
    rcases R with ⟨_, e1, e2⟩ | ⟨kr, m', c', nn, js, e0, e1, e3, e4, e5⟩
    · rw [e2] at hfl; simp at hfl; omega
    · cases e1
      have hq := A0.q
      rw [e0] at hq
      have hsp := flatMap_splitR (cells := entC_file_File) l p hpl
      have hly : l[p] = y := by rw [List.getElem?_eq_getElem hpl] at hy; exact Option.some.inj hy
      have htl : ((l.take p).flatMap entC_file_File).length = p * 3 := by rw [flatMap_length entC_file_File_len, List.length_take]; omega
      have hle : (l.length : Nat) * 3 ≤ nn := Nat.le_trans (Nat.mul_le_mul_right _ e4) e5
      obtain ⟨h32, st, E2⟩ := E0.storesV (i + 1) (k := kr) (nn := nn) (t := TY.draft_entry_file_File) (fs := (l.take p).flatMap entC_file_File ++ [.int .i64 y.1]) (gs := [.bool y.2.1, .string y.2.2] ++ ((l.drop (p + 1)).flatMap entC_file_File ++ js)) (by
        rw [hq, hsp, hly]; simp [entC_file_File, List.append_assoc]) [.bool x.1, .string x.2] (by simp [isOne]) (p * 3 + 1) (by rw [List.length_append, htl]; rfl) (by simp; omega)
      refine ⟨_, rfl, _, _, _, E0.cell i A0.p rfl, _, _, c6 E0.last, _, rfl, by omega, by omega, h32, ?_, ?_⟩
      · rw [addr_more, addr_more, Nat.zero_add, Int.toNat_natCast]; exact st
      · have hs : L.set i (some (k, drO_file_File (.slice (some ⟨kr, 0, none⟩) l.length c))) = L := by
          obtain ⟨hl, e⟩ := List.getElem?_eq_some_iff.1 A.p
          rw [← e]; exact List.set_getElem_self hl
        rw [List.set_append_left _ _ hil1] at E2
        refine Fin.of (hQ (.slice (some ⟨kr, 0, none⟩) l.length c) _ h32 (.inr ⟨kr, l.length, c, nn, js, rfl, rfl, ?_, e4, e5⟩) ?_)
        · rw [hi, flatMap_length entC_file_File_len, List.length_set]
        · rw [hs, hi, flatMap_setR _ _ _ hpl]
          refine cast ?_ E2.pop
          congr 6
          simp [entC_file_File, List.append_assoc]
  · have hi := insD_new (v := x) K hf
    obtain ⟨a, m, c, rfl⟩ := Row.slice R
    have hm := DRow_file_File.len R
    subst hm
    have hfl := flatMap_length entC_file_File_len l
    refine ⟨_, rfl, _, _, _, E0.cell i A0.p rfl, _, _, c6 E0.last, fun k15 a15 b15 h16 e16 => ?_⟩
    have E1 := E0.made a15 b15 e16
    have A1 : DAt_file_File (L ++ [some (k6, .vec TY.file_File (plains [.bool x.1, .string x.2]) 2)] ++ [some (k15, .vec TY.draft_entry_file_File (plains (entC_file_File (n, x))) 3)]) i k (.slice a l.length c) r := ⟨up_app _ A0.p, up_app _ A0.q⟩
    refine ⟨E1.cell i A1.p rfl, c6 (E1.at L.length (up_app _ (by rw [List.getElem?_append_right (Nat.le_refl _), Nat.sub_self]; rfl))), ?_⟩
    refine C_slices_Insert_s_draft_entry_file_File_draft_entry_file_File.of ?_
    rw [ins_file_File_eq]
    refine insP_wp TK.slc_ent_file_File TK.zero_ent_file_File rfl (by omega) (by omega) TK.sl_ent_file_File TK.int_ent_file_File (by decide) E1 (i + 1) A1.q R ?_ (L.length + 1) (kx := k15) (ys := entC_file_File (n, x)) (by rw [List.getElem?_append_right (by simp), List.length_append]; simp; rfl) rfl (entC_file_File_one _) (by omega) p K.le (by rw [hfl]; omega) ?_
    · intro y hy
      obtain ⟨z, _, hz⟩ := List.mem_flatMap.1 hy
      exact entC_file_File_one z y hz
    · intro a' c' r' h17 R' E2
      rw [List.append_assoc, List.set_append_left _ _ hil1] at E2
      have hp2 : (L.set (i + 1) r' ++ ([some (k6, .vec TY.file_File (plains [.bool x.1, .string x.2]) 2)] ++ [some (k15, .vec TY.draft_entry_file_File (plains (entC_file_File (n, x))) 3)]))[i]? = some (some (k, drO_file_File (.slice a l.length c))) := up_app _ (by rw [List.getElem?_set_ne (by omega)]; exact A.p)
      have g6 := E2.at L.length (by rw [List.getElem?_append_right (by simp), List.length_set, Nat.sub_self]; rfl)
      refine ⟨E2.cell i hp2 rfl, c6 g6, ?_⟩
      have E3 := E2.popL
      have hp3 : (L.set (i + 1) r')[i]? = some (some (k, drO_file_File (.slice a l.length c))) := by rw [List.getElem?_set_ne (by omega)]; exact A.p
      obtain ⟨es, E4⟩ := E3.store i 0 (.slice a' (l.length + 1) c') hp3 rfl
      refine ⟨_, rfl, _, es, Fin.of (hQ (.slice a' (l.length + 1) c') r' _ ?_ ?_)⟩
      · rw [hi]
        unfold DRow_file_File
        have e1 : (l.flatMap entC_file_File).take (p * 3) = (l.take p).flatMap entC_file_File := take_flatMap entC_file_File_len l p
        have e2 : (l.flatMap entC_file_File).drop (p * 3) = (l.drop p).flatMap entC_file_File := by
          have h2 : l.flatMap entC_file_File = (l.take p).flatMap entC_file_File ++ (l.drop p).flatMap entC_file_File := by rw [← List.flatMap_append, List.take_append_drop]
          rw [h2, List.drop_left']
          rw [flatMap_length entC_file_File_len, List.length_take, Nat.min_eq_left K.le]
        rw [e1, e2] at R'
        rw [List.flatMap_append, List.flatMap_cons, ← List.append_assoc]
        exact R'
      · rw [List.set_comm _ _ (by omega)] at E4
        exact E4
def fdallF (k3 : Nat) : Value := Value.func (.func FN.draft_Draft_file_File_All_1) #[] #[(Value.pointer (some ⟨k3, 0, none⟩))]
def encDF (x : Int × (Bool × ByteArray)) : List Value := [.int .i64 x.1, .agg #[.bool x.2.1, .string x.2.2]]
def fdG (k3 k : Nat) (v : Value) (r : Option (Nat × AObj)) (h : Heap) : Prop :=
  h k3 = some (.vec TY.p_draft_Draft_file_File [.plain (.pointer (some ⟨k, 0, none⟩))] 1) ∧ h k = some (drO_file_File v) ∧ ∀ k o, r = some (k, o) → h k = some o
theorem fdG_ins {k3 kk : Nat} {v : Value} {r : Option (Nat × AObj)} : Ins (fdG k3 kk v r) := by
  rintro h k o hk ⟨g1, g2, g3⟩
  exact ⟨Heap.get_new hk g1, Heap.get_new hk g2, fun k' o' e => Heap.get_new hk (g3 k' o' e)⟩
theorem fdall_wp {p : Option Addr} {Q : Value → Heap → Prop} (hQ : ∀ k, h k = none → B k = none → Q (fdallF k) (h.set k (.vec TY.p_draft_Draft_file_File [.plain (.pointer p)] 1))) : C_draft_Draft_file_File_All B p h Q := by
  refine C_draft_Draft_file_File_All.of ?_
  unfold S_draft_Draft_file_File_All
  intro k a1 b1 h4 e4
  subst e4
  exact Fin.of (hQ k a1 b1)
theorem fdall_iter (R : DRow_file_File r v l) (hlen : l.length ≤ 100000) : Iter PG B (fdallF k3) (l.map encDF) (fdG k3 k v r) := by
  refine ⟨_, _, _, rfl, TG.draft_Draft_file_File_All_1, fun y J X h hy hG h0 hcall => ?_⟩
  have main : C_draft_Draft_file_File_All_1 B y ⟨k3, 0, none⟩ h (fun h' => Fin B h' (fun h'' => J (l.map encDF).length h'' ∨ X h'')) := by
    refine C_draft_Draft_file_File_All_1.of ?_
    unfold S_draft_Draft_file_File_All_1
    obtain ⟨a, m, c, rfl⟩ := Row.slice R
    obtain ⟨rfl, hrd⟩ := Row.rd (B := B) R entC_file_File_len (by omega)
    obtain ⟨g1, g2, g3⟩ := hG 0 h h0
    refine ⟨_, cellH_vec g1 rfl, fun e => (by cases e), fun _ => ⟨_, cellH_vec g1 rfl, _, rfl, .inl ⟨a, _, c, cellH_vec g2 rfl, ?_⟩⟩⟩
    refine ⟨fun i m' h' => ∃ j : Nat, j ≤ l.length ∧ i = j ∧ m' = l.length - j ∧ J j h', l.length, Fin.of ⟨0, by omega, rfl, by omega, h0⟩, ?_⟩
    rintro _ _ h13 ⟨j, hj, rfl, rfl, hJ⟩
    obtain ⟨g1, g2, g3⟩ := hG j h13 hJ
    refine ⟨fun hlt => ?_, fun hge => Fin.of ?_⟩
    · have hj' : j < l.length := by omega
      have hx := List.getElem?_eq_getElem hj'
      generalize l[j] = x at hx
      obtain ⟨A, e, _, q⟩ := hrd h13 g3 j _ hx
      refine ⟨A, e, by omega, hlt, x.1, x.2.1, x.2.2, q, fun k24 a24 b24 h25 e25 => ?_⟩
      obtain ⟨g25, l25, -⟩ := Heap.made a24 e25
      refine ⟨_, stores_whole g25 rfl (by simp) (by simp [isOne]) (by simp), ?_⟩
      generalize e26 : h25.set k24 _ = h26
      obtain ⟨g26, -, -⟩ := Heap.put e26
      refine ⟨_, cellH_vec g26 rfl, _, _, ⟨cellH_vec g26 rfl, cellH_vec g26 rfl, trivial⟩, ?_⟩
      have w : Wk B h13 h26 := by
        rw [← e26, e25, Heap.set_set]; exact Wk.new a24 b24
      have hc := hcall j h13 (encDF x) (by rw [List.getElem?_map, hx]; rfl) hJ
      refine CallV.mono ?_ (hc.weaken w)
      rintro v h27 ⟨h28, t1, h29, t2, hor⟩
      rcases hor with ⟨rfl, hJ'⟩ | ⟨rfl, hX⟩
      · refine ⟨true, rfl, fun _ => ⟨h29, t1.trans t2, l.length - (j + 1), by omega, j + 1, by omega, ?_, rfl, hJ'⟩, fun e => by cases e⟩
        rw [w64 (by omega) (by omega)]; omega
      · exact ⟨false, rfl, fun e => (by cases e), fun _ => ⟨h29, t1.trans t2, Fin.of (.inr hX)⟩⟩
    · have : j = l.length := by omega
      subst this
      refine Fin.of (.inl ?_)
      rw [List.length_map]
      exact hJ
  exact Spec.mono main fun v h' q => q.2
end
end Go.Proofs.Ytcncdfmnpmmikaa.H
namespace Go.Proofs.Ytcncdfmnpmmikaa.H
open Go
set_option linter.unusedVariables false
set_option maxRecDepth 100000
abbrev FileS := Bool × ByteArray
def slotF (x : FileS × Int) : List Value := [.bool x.1.1, .string x.1.2, .int .i64 x.2]
theorem slotF_len (x : FileS × Int) : (slotF x).length = 3 := rfl
theorem slotF_one (x : FileS × Int) : ∀ y ∈ slotF x, isOne y = true := fun y hy => by simp [slotF] at hy; rcases hy with rfl | rfl | rfl <;> rfl
theorem TK.slc_fslot : slcB PG TY.s_cell_slot_file_File = some (TY.cell_slot_file_File, 3, 32) := by kernel_rfl
theorem TK.zero_fslot : zeroB PG TY.cell_slot_file_File = some [.bool false, .string ByteArray.empty, .int .i64 0] := by kernel_rfl
theorem TK.sl_fslot : slT PG TY.s_cell_slot_file_File = true := by kernel_rfl
def FRow (r : Option (Nat × AObj)) (v : Value) (l : List (FileS × Int)) : Prop := Row r v TY.cell_slot_file_File 3 (l.flatMap slotF)
def frO (v : Value) : AObj := .vec TY.cell_Row_file_File (plains [v]) 1
def tomO (kR : Nat) : AObj := .vec TY.tome_Tome (plains [.pointer (some ⟨kR, 0, none⟩)]) 1
def fileAt (l : List (FileS × Int)) (i : Int) : FileS × Int := if 0 ≤ i then (l[i.toNat]?).getD ((false, ByteArray.empty), 0) else ((false, ByteArray.empty), 0)
theorem fileAt_in {l : List (FileS × Int)} {i : Int} (h0 : 0 ≤ i) (h1 : i.toNat < l.length) : fileAt l i = l[i.toNat] := by
  rw [fileAt, if_pos h0, List.getElem?_eq_getElem h1]; rfl
theorem fileAt_out {l : List (FileS × Int)} {i : Int} (hn : ¬ (0 ≤ i ∧ i < (l.length : Int))) : fileAt l i = ((false, ByteArray.empty), 0) := by
  unfold fileAt
  split
  · rw [List.getElem?_eq_none (by omega)]; rfl
  · rfl
section
variable {B : RO} {h0 h h' : Heap} {L : List (Option (Nat × AObj))} {r : Option (Nat × AObj)} {i kT kR : Nat} {v : Value} {l : List (FileS × Int)}
theorem fnew_wp {n : Int} {b : Bool} {s : ByteArray} {Q : Option Addr → Heap → Prop} (hn : n ≤ 1000)
    (hQ : ∀ k v r h', FRow r v (List.replicate n.toNat ((b, s), 0)) → Keep B h [some (k, frO v), r] h' → Q (some ⟨k, 0, none⟩) h') : C_cell_New_file_File B n b s h Q := by
  refine C_cell_New_file_File.of ?_
  unfold S_cell_New_file_File
  intro k5 a5 b5 h6 e6 k7 a7 b7 h8 e8
  have E := ((Keep.nil B h).made a5 b5 e6).made a7 b7 e8
  refine ⟨fun i m h' => ∃ (j : Nat) (v : Value) (r : Option (Nat × AObj)), (j : Int) ≤ max n 0 ∧ i = j ∧ m = n.toNat - j ∧ FRow r v (List.replicate j ((b, s), 0)) ∧ Keep B h [some (k5, .vec TY.file_File (plains [.bool b, .string s]) 2), some (k7, frO v), r] h', n.toNat, Fin.of ⟨0, _, none, by omega, rfl, by omega, Row.nil _ _, E.gap⟩, ?_⟩
  clear E e8 e6
  rintro _ _ h10 ⟨j, v, r, hj, rfl, rfl, R, E⟩
  refine ⟨fun hlt => ?_, fun hge => Fin.of ?_⟩
  · obtain ⟨a20, n21, c22, rfl⟩ := Row.slice R
    have hfl := flatMap_length slotF_len (List.replicate j ((b, s), (0 : Int)))
    rw [List.length_replicate] at hfl
    refine ⟨a20, n21, c22, E.cell 1 rfl rfl, _, _, ⟨E.cell 0 rfl rfl, E.cell 0 rfl rfl, trivial⟩, fun k28 a28 b28 h29 e29 => ?_⟩
    have E1 := E.made a28 b28 e29
    refine ⟨E1.cell 1 rfl rfl, ⟨E1.cell 0 rfl rfl, E1.cell 0 rfl rfl, trivial⟩, ?_⟩
    refine E.push1 2 rfl R TK.slc_fslot TK.zero_fslot rfl (by omega) (by omega) TK.sl_fslot rfl (by simp [isOne]) (by rw [hfl]; simp; omega) a28 b28 e29 fun a' m' c' r' h' R' E' => ?_
    obtain ⟨es, E2⟩ := E'.store 1 0 (.slice a' m' c') rfl rfl
    refine ⟨a', m', c', rfl, E'.cell 1 rfl rfl, ⟨E'.cell 0 rfl rfl, E'.cell 0 rfl rfl, trivial⟩, _, es, Fin.of ⟨n.toNat - (j + 1), by omega, j + 1, _, r', by omega, ?_, rfl, ?_, E2⟩⟩
    · rw [w64 (by omega) (by omega)]; omega
    · unfold FRow
      rw [List.replicate_succ', List.flatMap_append]
      exact R'
  · have : j = n.toNat := by omega
    subst this
    exact hQ _ _ _ _ R (E.sub2 1 2 rfl rfl)
structure FAt (L : List (Option (Nat × AObj))) (i : Nat) (kR : Nat) (v : Value) (r : Option (Nat × AObj)) : Prop where
  p : L[i]? = some (some (kR, frO v))
  q : L[i + 1]? = some r
theorem fis_wp {n : Int} {Q : Bool → Heap → Prop} (E : Keep B h0 L h) (A : FAt L i kR v r) (R : FRow r v l) (hQ : Q (decide (0 ≤ n ∧ n < (l.length : Int))) h) : C_cell_Row_file_File_is B (some ⟨kR, 0, none⟩) n h Q := by
  refine C_cell_Row_file_File_is.of ?_
  unfold S_cell_Row_file_File_is
  obtain ⟨a, m, c, rfl⟩ := Row.slice R
  obtain ⟨rfl, -⟩ := Row.rd (B := B) R slotF_len (by omega)
  refine ⟨fun e => (by cases e), fun _ => ⟨fun h1 => ⟨_, rfl, .inl ⟨a, _, c, E.cell i A.p rfl, Fin.of ?_⟩⟩, fun h1 => Fin.of ?_⟩⟩
  · have : decide (n < (l.length : Int)) = decide (0 ≤ n ∧ n < (l.length : Int)) := by rw [decide_eq_decide]; exact ⟨fun x => ⟨by omega, x⟩, fun x => x.2⟩
    rw [this]; exact hQ
  · rw [decide_eq_false (by omega)] at hQ; exact hQ
theorem fset_wp {n ver : Int} {b : Bool} {s : ByteArray} {Q : Bool → Heap → Prop} (E : Keep B h0 L h) (A : FAt L i kR v r) (R : FRow r v l)
    (hF : ¬ (0 ≤ n ∧ n < (l.length : Int)) → ∀ h', Keep B h0 L h' → Q false h') (hT : 0 ≤ n → n.toNat < l.length → ∀ r' h', FRow r' v (l.set n.toNat ((b, s), ver)) → Keep B h0 (L.set (i + 1) r') h' → Q true h') : C_cell_Row_file_File_Set B (some ⟨kR, 0, none⟩) n b s ver h Q := by
  refine C_cell_Row_file_File_Set.of ?_
  unfold S_cell_Row_file_File_Set
  intro k7 a7 b7 h8 e8
  have E1 := E.made a7 b7 e8
  let o7 : AObj := .vec TY.file_File (plains [.bool b, .string s]) 2
  have A1 : FAt (L ++ [some (k7, o7)]) i kR v r := ⟨up_app _ A.p, up_app _ A.q⟩
  have E1 : Keep B h0 (L ++ [some (k7, o7)]) h8 := E1
  refine fis_wp E1 A1 R ⟨fun hD => ?_, fun hD => Fin.of (hF (by simpa using hD) _ E1.pop)⟩
  rw [decide_eq_true_eq] at hD
  obtain ⟨a, m, c, rfl⟩ := Row.slice R
  obtain ⟨rfl, -⟩ := Row.rd (B := B) R slotF_len (by omega)
  obtain ⟨A18, h20, r', e1, st, R', E2⟩ := E1.rowSet (i + 1) A1.q R slotF_len (by omega) n.toNat (by omega) ((b, s), ver) (slotF_one _)
  have g := E1.last
  refine ⟨_, rfl, a, _, c, E1.cell i A1.p rfl, _, _, ⟨cellH_vec g rfl, cellH_vec g rfl, trivial⟩, A18, e1, hD.1, hD.2, h20, st, Fin.of (hT hD.1 (by omega) r' h20 R' ?_)⟩
  rw [List.set_append_left _ _ (List.getElem?_eq_some_iff.1 A.q).1] at E2
  exact E2.pop
theorem fget_wp {n : Int} {Q : Bool → ByteArray → Int → Heap → Prop} (E : Keep B h0 L h) (A : FAt L i kR v r) (R : FRow r v l)
    (hQ : ∀ h', Keep B h0 L h' → Q (fileAt l n).1.1 (fileAt l n).1.2 (fileAt l n).2 h') : C_cell_Row_file_File_Get B (some ⟨kR, 0, none⟩) n h Q := by
  refine C_cell_Row_file_File_Get.of ?_
  unfold S_cell_Row_file_File_Get
  intro k6 a6 b6 h7 e7
  have E1 := E.made a6 b6 e7
  have g := E1.last
  have A1 : FAt (L ++ [some (k6, AObj.vec TY.file_File (plains [.bool false, .string ByteArray.empty]) 2)]) i kR v r := ⟨up_app _ A.p, up_app _ A.q⟩
  refine fis_wp E1 A1 R ⟨fun hD => ?_, fun hD => ?_⟩
  · rw [decide_eq_true_eq] at hD
    obtain ⟨a, m, c, rfl⟩ := Row.slice R
    obtain ⟨rfl, hrd⟩ := Row.rd (B := B) R slotF_len (by omega)
    have hi : n.toNat < l.length := by omega
    obtain ⟨A27, e1, _, q1, q2, q3, _⟩ := hrd h7 (fun k o e => E1.at (i + 1) (by rw [A1.q, e])) n.toNat _ (List.getElem?_eq_getElem hi)
    have hf := hQ
    rw [fileAt_in hD.1 hi] at hf
    have q3' : cellH B h7 (Addr.add (Addr.add A27 (n.toNat * 3)) 2) = some (.int .i64 l[n.toNat].2) := q3
    refine ⟨_, rfl, a, _, c, E1.cell i A1.p rfl, A27, e1, hD.1, hD.2, _, _, ⟨q1, q2, trivial⟩, _, rfl, a, _, c, E1.cell i A1.p rfl, A27, e1, hD.1, hD.2, _, q3', ?_⟩
    refine ⟨_, stores_whole g rfl (by simp) (by simp [isOne]) (by simp), ?_⟩
    have E2 := E1.putLast (.vec TY.file_File (plains [.bool l[n.toNat].1.1, .string l[n.toNat].1.2]) 2)
    have A2 : FAt (L ++ [some (k6, AObj.vec TY.file_File (plains [.bool l[n.toNat].1.1, .string l[n.toNat].1.2]) 2)]) i kR (.slice a l.length c) r := ⟨up_app _ A.p, up_app _ A.q⟩
    obtain ⟨A', e1', _, t1, t2, t3, _⟩ := hrd _ (fun k o e => E2.at (i + 1) (by rw [A2.q, e])) n.toNat _ (List.getElem?_eq_getElem hi)
    rw [e1] at e1'
    cases e1'
    refine ⟨E2.cell i A2.p rfl, ⟨t1, t2, trivial⟩, E2.cell i A2.p rfl, t3, _, _, ⟨cellH_vec E2.last rfl, cellH_vec E2.last rfl, trivial⟩, Fin.of (hf _ E2.pop)⟩
  · rw [decide_eq_false_iff_not] at hD
    rw [fileAt_out hD] at hQ
    intro k10 a10 b10 h11 e11
    have E2 := E1.made a10 b10 e11
    have g2 := E2.last
    refine ⟨_, _, ⟨cellH_vec g2 rfl, cellH_vec g2 rfl, trivial⟩, ?_⟩
    have g6 : h11 k6 = some (.vec TY.file_File (plains [.bool false, .string ByteArray.empty]) 2) := E2.at L.length (by rw [List.append_assoc, List.getElem?_append_right (Nat.le_refl _), Nat.sub_self]; rfl)
    refine ⟨_, stores_whole g6 rfl (by simp) (by simp [isOne]) (by simp), ?_⟩
    have E3 : Keep B h0 L (h11.set k6 (.vec TY.file_File (plains [.bool false, .string ByteArray.empty]) 2)) := by
      rw [Heap.set_self _ _ _ g6]
      exact E2.pop.pop
    exact ⟨_, _, ⟨cellH_vec (Heap.set_same _ _ _) rfl, cellH_vec (Heap.set_same _ _ _) rfl, trivial⟩, Fin.of (hQ _ E3)⟩
structure TomeAt (L : List (Option (Nat × AObj))) (i kT kR : Nat) (v : Value) (r : Option (Nat × AObj)) : Prop where
  p : L[i]? = some (some (kT, tomO kR))
  f : FAt L (i + 1) kR v r
def tomE (kT kR : Nat) (v : Value) (r : Option (Nat × AObj)) : List (Option (Nat × AObj)) := [some (kT, tomO kR), some (kR, frO v), r]
def goodF (b : Bool) (s : ByteArray) : Bool := decide (s.size ≤ 32) && (b || decide (s = ByteArray.mk #[]))
theorem goodF_wp {b : Bool} {s : ByteArray} {Q : Bool → Heap → Prop} (hQ : ∀ h', Wk B h h' → Q (goodF b s) h') : C_file_Good B b s h Q := by
  refine C_file_Good.of ?_
  unfold S_file_Good
  intro k4 a4 b4 h5 e5
  have w : Wk B h h5 := by rw [e5]; exact Wk.new a4 b4
  have g : h5 k4 = some (.vec TY.file_File (plains [.bool b, .string s]) 2) := by rw [e5]; exact Heap.set_same _ _ _
  have hq := hQ h5 w
  unfold goodF at hq
  refine ⟨_, cellH_vec g rfl, fun h1 => ⟨_, cellH_vec g rfl, fun hb => Fin.of ?_, fun hb => ⟨_, cellH_vec g rfl, Fin.of ?_⟩⟩, fun h1 => Fin.of ?_⟩
  · subst hb
    rw [decide_eq_true (by omega)] at hq; exact hq
  · subst hb
    rw [decide_eq_true (by omega)] at hq; exact hq
  · rw [decide_eq_false (by omega)] at hq; exact hq
def setB (l : List (FileS × Int)) (n : Int) (b : Bool) (s : ByteArray) : Bool := goodF b s && decide (0 ≤ n ∧ n < (l.length : Int))
def setF (l : List (FileS × Int)) (n : Int) (b : Bool) (s : ByteArray) (ver : Int) : List (FileS × Int) := if setB l n b s = true then l.set n.toNat ((b, s), ver) else l
theorem setF_len (l : List (FileS × Int)) (n : Int) (b : Bool) (s : ByteArray) (ver : Int) : (setF l n b s ver).length = l.length := by unfold setF; split <;> simp
theorem tset_wp {n ver : Int} {b : Bool} {s : ByteArray} {Q : Bool → Heap → Prop} (E : Keep B h0 L h) (A : TomeAt L i kT kR v r) (R : FRow r v l)
    (hQ : ∀ r' h', FRow r' v (setF l n b s ver) → Keep B h0 (L.set (i + 2) r') h' → Q (setB l n b s) h') : C_tome_Tome_Set B (some ⟨kT, 0, none⟩) n b s ver h Q := by
  refine C_tome_Tome_Set.of ?_
  unfold S_tome_Tome_Set
  intro k7 a7 b7 h8 e8
  have E1 := E.made a7 b7 e8
  have g7 := E1.last
  have no : setB l n b s = false → ∀ h', Keep B h0 L h' → Q false h' := fun hn h' E' => by
    have h1 : setF l n b s ver = l := by rw [setF, hn]; rfl
    have h2 : L.set (i + 2) r = L := by
      obtain ⟨hl, rfl⟩ := List.getElem?_eq_some_iff.1 A.f.q
      exact List.set_getElem_self hl
    have := hQ r h' (by rw [h1]; exact R) (by rw [h2]; exact E')
    rw [hn] at this; exact this
  refine ⟨fun e => (by cases e), fun _ => ⟨_, _, ⟨cellH_vec g7 rfl, cellH_vec g7 rfl, trivial⟩, goodF_wp fun h18 w => ?_⟩⟩
  have E2 := E1.wk w
  have g := E2.last
  refine ⟨fun hg => ?_, fun hg => ?_⟩
  · have A2 : FAt (L ++ [some (k7, AObj.vec TY.file_File (plains [.bool b, .string s]) 2)]) (i + 1) kR v r := ⟨up_app _ A.f.p, up_app _ A.f.q⟩
    have hset : C_cell_Row_file_File_Set B (some ⟨kR, 0, none⟩) n b s ver h18 (fun b28 h27 => CellsAt B h27 ⟨k7, 0, none⟩ 0 [.bool b, .string s] ∧ Fin B h27 (Q b28)) := by
      refine fset_wp E2 A2 R (fun hn h' E' => ⟨⟨cellH_vec E'.last rfl, cellH_vec E'.last rfl, trivial⟩, Fin.of (no ?_ h' E'.pop)⟩) fun h1 h2 r' h' R' E' => ?_
      · rw [setB, decide_eq_false hn, Bool.and_false]
      · rw [List.set_append_left _ _ (List.getElem?_eq_some_iff.1 A.f.q).1] at E'
        have hb : setB l n b s = true := by rw [setB, hg, decide_eq_true ⟨h1, by omega⟩]; rfl
        have := hQ r' h' (by rw [setF, if_pos hb]; exact R') E'.pop
        rw [hb] at this
        exact ⟨⟨cellH_vec E'.last rfl, cellH_vec E'.last rfl, trivial⟩, Fin.of this⟩
    refine ⟨⟨cellH_vec g rfl, cellH_vec g rfl, trivial⟩, _, rfl, ⟨_, E2.cell i (up_app _ A.p) rfl, _, _, ⟨cellH_vec g rfl, cellH_vec g rfl, trivial⟩, hset⟩, ⟨_, _, ⟨cellH_vec g rfl, cellH_vec g rfl, trivial⟩, _, E2.cell i (up_app _ A.p) rfl, hset⟩⟩
  · have hn : setB l n b s = false := by rw [setB, hg]; rfl
    exact ⟨⟨cellH_vec g rfl, cellH_vec g rfl, trivial⟩, Fin.of (no hn _ E2.pop), Fin.of (no hn _ E2.pop)⟩
theorem tget_wp {n : Int} {Q : Bool → ByteArray → Int → Heap → Prop} (E : Keep B h0 L h) (A : TomeAt L i kT kR v r) (R : FRow r v l)
    (hQ : ∀ h', Keep B h0 L h' → Q (fileAt l n).1.1 (fileAt l n).1.2 (fileAt l n).2 h') : C_tome_Tome_Get B (some ⟨kT, 0, none⟩) n h Q := by
  refine C_tome_Tome_Get.of ?_
  unfold S_tome_Tome_Get
  intro k6 a6 b6 h7 e7
  have E1 := E.made a6 b6 e7
  refine ⟨fun e => (by cases e), fun _ => ⟨_, rfl, _, E1.cell i (up_app _ A.p) rfl, ?_⟩⟩
  refine fget_wp E1 ⟨up_app _ A.f.p, up_app _ A.f.q⟩ R fun h15 E2 => ?_
  refine ⟨_, stores_whole E2.last rfl (by simp) (by simp [isOne]) (by simp), ?_⟩
  have E3 := E2.putLast (.vec TY.file_File (plains [.bool (fileAt l n).1.1, .string (fileAt l n).1.2]) 2)
  exact ⟨_, _, ⟨cellH_vec E3.last rfl, cellH_vec E3.last rfl, trivial⟩, Fin.of (hQ _ E3.pop)⟩
theorem tnew_wp {Q : Option Addr → Heap → Prop} (hQ : ∀ kT kR v r h', FRow r v (List.replicate 6 ((false, ByteArray.empty), 0)) → Keep B h (tomE kT kR v r) h' → Q (some ⟨kT, 0, none⟩) h') : C_tome_New B h Q := by
  refine C_tome_New.of ?_
  unfold S_tome_New
  refine fnew_wp (by decide) fun kR v r h2 R E => ?_
  intro k4 a4 b4 h5 e5
  have E1 := E.made a4 b4 e5
  exact Fin.of (hQ k4 kR v r h5 R (E1.sub3 2 0 1 rfl rfl rfl))
end
end Go.Proofs.Ytcncdfmnpmmikaa.H
namespace Go.Proofs.Ytcncdfmnpmmikaa.H
open Go
set_option linter.unusedVariables false
set_option maxRecDepth 100000
theorem TK.slc_bytes : slcB PG TY.s_uint8 = some (TY.uint8, 1, 1) := by kernel_rfl
theorem TK.zero_byte : zeroB PG TY.uint8 = some [.int .u8 0] := by kernel_rfl
theorem TK.sl_bytes : slT PG TY.s_uint8 = true := by kernel_rfl
theorem TK.str : isStr PG TY.string = true := by kernel_rfl
section
variable {B : RO} {h : Heap}
end
end Go.Proofs.Ytcncdfmnpmmikaa.H
namespace Go.Proofs.Ytcncdfmnpmmikaa.H
open Go
set_option linter.unusedVariables false
set_option maxRecDepth 100000
theorem NilOK.one {y : Value} (h : NilOK y) : isOne y = true := by
  rcases h with ⟨g, a, b, rfl⟩ | ⟨l, a, b, rfl⟩ <;> rfl
section
variable {B : RO} {h0 h h' : Heap} {L : List (Option (Nat × AObj))} {r : Option (Nat × AObj)} {i kT kR k3 m c : Nat} {a : Option Addr} {v : Value} {l : List (FileS × Int)}
end
end Go.Proofs.Ytcncdfmnpmmikaa.H
namespace Go.Proofs.Ytcncdfmnpmmikaa.H
open Go
set_option linter.unusedVariables false
set_option maxRecDepth 100000
structure TomeOk (l : List (FileS × Int)) : Prop where
  n6 : l.length = 6
  good : ∀ x ∈ l, goodF x.1.1 x.1.2 = true
theorem TomeOk.size {l : List (FileS × Int)} (k : TomeOk l) : ∀ x ∈ l, x.1.2.size ≤ 32 := fun x hx => by
  have := k.good x hx
  unfold goodF at this
  simp only [Bool.and_eq_true, decide_eq_true_eq] at this
  exact this.1
theorem TomeOk.zero : TomeOk (List.replicate 6 ((false, ByteArray.empty), 0)) := ⟨rfl, fun x hx => by
  rw [List.mem_replicate] at hx
  rw [hx.2]; decide⟩
theorem TomeOk.set {l : List (FileS × Int)} (k : TomeOk l) (n : Int) (b : Bool) (s : ByteArray) (ver : Int) : TomeOk (setF l n b s ver) := by
  refine ⟨by rw [setF_len]; exact k.n6, fun x hx => ?_⟩
  unfold setF at hx
  split at hx
  · rename_i h
    unfold setB at h
    rw [Bool.and_eq_true] at h
    rcases List.mem_or_eq_of_mem_set hx with h1 | h1
    · exact k.good x h1
    · rw [h1]; exact h.1
  · exact k.good x hx
section
variable {B : RO} {h0 h h' : Heap} {L : List (Option (Nat × AObj))} {r : Option (Nat × AObj)} {i kT kR : Nat} {v : Value} {l : List (FileS × Int)}
end
end Go.Proofs.Ytcncdfmnpmmikaa.H
namespace Go.Proofs.Ytcncdfmnpmmikaa.H
open Go Go.RowKit
set_option linter.unusedVariables false
set_option maxRecDepth 100000
structure FSetR where
  i : Int
  b : Bool
  s : ByteArray
  v : Int
def FSetR.cells (x : FSetR) : List Value := [.int .i64 x.i, .bool x.b, .string x.s, .int .i64 x.v]
abbrev FL := List (FileS × Int)
def zF : FL := List.replicate 6 ((false, ByteArray.empty), 0)
def apF (l : FL) (x : FSetR) : FL := setF l x.i x.b x.s x.v
theorem TomeOk.foldl {l : FL} (k : TomeOk l) (sets : List FSetR) : TomeOk (sets.foldl apF l) := by
  induction sets generalizing l with
  | nil => exact k
  | cons x t ih => exact ih (k.set x.i x.b x.s x.v)
section
variable {B : RO} {h0 h h' : Heap} {a : Option Addr} {c : Nat} {list : List FSetR} {Q : Bool → Heap → Prop} {kA kA' kB kB' : Nat} {va vb : Value} {ra rb : Option (Nat × AObj)}
end
end Go.Proofs.Ytcncdfmnpmmikaa.H
namespace Go.Proofs.Ytcncdfmnpmmikaa.H
open Go
set_option linter.unusedVariables false
set_option maxRecDepth 100000
theorem TK.byteStr : byteStr PG TY.s_uint8 TY.string = true := by kernel_rfl
section
variable {B : RO} {h : Heap}
theorem one_string {k : Nat} {x : Int} {u : UInt8} {K : Value → Heap → Prop} (hk : h k = some (.vec TY.uint8 (plains [.int .u8 x]) 1)) (hx : x = ((u.toNat : Nat) : Int)) (hK : K (.string (ba [u])) h) :
    semH PG B (convert TY.s_uint8 TY.string (.slice (some ⟨k, 0, none⟩) 1 1)) h K := by
  subst hx
  refine semH_convB TK.byteStr (semH_bytesToString (e := TY.uint8) (bs := [u]) (.inr ⟨k, 1, 1, 1, [], rfl, hk, rfl, by omega, by omega⟩) hK)
structure Item where
  kind : Int
  n : Int
  s : ByteArray
def Item.cells (x : Item) : List Value := [.int .i64 x.kind, .int .i64 x.n, .string x.s]
def Item.ok (x : Item) : Prop := -9223372036854775808 ≤ x.n ∧ x.n ≤ 9223372036854775807
def Item.bytes (x : Item) : List UInt8 :=
  if x.kind = 0 then natI x.n else if x.kind = 1 then natB (zig x.n) else if x.kind = 2 then bl x.s else if x.kind = 3 then natB x.s.size ++ bl x.s else []
end
end Go.Proofs.Ytcncdfmnpmmikaa.H
namespace Go.Proofs.Ytcncdfmnpmmikaa.H
open Go Go.RowKit
set_option linter.unusedVariables false
set_option maxRecDepth 100000
def fileC (x : FileS × Int) : List Value := [.bool x.1.1, .string x.1.2]
theorem fileC_len (x : FileS × Int) : (fileC x).length = 2 := rfl
def filesC (l : FL) : List Value := l.flatMap fileC
theorem filesC_len (l : FL) : (filesC l).length = l.length * 2 := flatMap_length fileC_len l
theorem extract_files (l : FL) (q : Nat) (x : FileS × Int) (h : l[q]? = some x) : Array.extract (filesC l).toArray (q * 2) (q * 2 + 2) = #[.bool x.1.1, .string x.1.2] := by
  obtain ⟨hq, rfl⟩ := List.getElem?_eq_some_iff.1 h
  apply Array.toList_inj.1
  rw [Array.toList_extract]
  simp only [List.extract_eq_take_drop, filesC]
  rw [flatMap_splitR l q hq, List.drop_left' (by rw [flatMap_length fileC_len, List.length_take]; omega)]
  rw [show q * 2 + 2 - q * 2 = 2 by omega]
  rfl
section
variable {B : RO} {h0 h h' : Heap} {L : List (Option (Nat × AObj))} {r : Option (Nat × AObj)} {i kT kR k3 : Nat} {a : Option Addr} {v : Value} {l : FL}
theorem Keep.cellsP (E : Keep B h0 L h) (i : Nat) {k n : Nat} {t : TypeId} {ys zs : List Value} (hi : L[i]? = some (some (k, .vec t (plains (ys ++ zs)) n))) : CellsAt B h ⟨k, 0, none⟩ 0 ys :=
  CellsAt.of_vec ys 0 (E.at i hi) fun j y hj => by
    rw [plains_get, Nat.zero_add, List.getElem?_append_left (List.getElem?_eq_some_iff.1 hj).1, hj]; rfl
end
end Go.Proofs.Ytcncdfmnpmmikaa.H
namespace Go.Proofs.Ytcncdfmnpmmikaa.H
open Go Go.RowKit
set_option linter.unusedVariables false
set_option maxRecDepth 100000
section
variable {B : RO} {h0 h h' : Heap} {L M : List (Option (Nat × AObj))} {j k n : Nat} {o o' : AObj}
theorem upM (j : Nat) {x : Option (Nat × AObj)} (hj : M[j]? = some x) : (L ++ M)[L.length + j]? = some x := by
  rw [List.getElem?_append_right (by omega), show L.length + j - L.length = j by omega]; exact hj
theorem Keep.gM (E : Keep B h0 (L ++ M) h) (j : Nat) (hj : M[j]? = some (some (k, o))) : h k = some o := E.at (L.length + j) (upM j hj)
theorem Keep.cM (E : Keep B h0 (L ++ M) h) (j : Nat) {i n : Nat} {t : TypeId} {fs : List Fld} {v : Value} (hj : M[j]? = some (some (k, .vec t fs n))) (hi : fs[i]? = some (.plain v)) : cellH B h ⟨k, i, none⟩ = some v := cellH_vec (E.gM j hj) hi
theorem Keep.start (E : Keep B h0 L h) : Keep B h0 (L ++ []) h := by rw [List.append_nil]; exact E
theorem Keep.nM (E : Keep B h0 (L ++ M) h) (hk : h k = none) (hb : B k = none) (e : h' = h.set k o) : Keep B h0 (L ++ (M ++ [some (k, o)])) h' := by
  rw [← List.append_assoc]; exact E.made hk hb e
theorem Keep.pM (E : Keep B h0 (L ++ M) h) (j : Nat) (hj : M[j]? = some (some (k, o))) : Keep B h0 (L ++ M.set j (some (k, o'))) (h.set k o') := by
  have := E.put (o' := o') (L.length + j) (upM j hj)
  rwa [List.set_append_right _ _ (by omega), show L.length + j - L.length = j by omega] at this
theorem setM (j : Nat) (x : Option (Nat × AObj)) : (L ++ M).set (L.length + j) x = L ++ M.set j x := by
  rw [List.set_append_right _ _ (by omega), show L.length + j - L.length = j by omega]
theorem Keep.tM (E : Keep B h0 (L ++ M) h) (n : Nat) : Keep B h0 (L ++ M.take n) h := by
  have := E.take (L.length + n)
  rwa [List.take_length_add_append] at this
theorem Keep.zM (E : Keep B h0 (L ++ M) h) : Keep B h0 L h := E.popL
theorem Keep.sM (E : Keep B h0 (L ++ M) h) (is : List Nat) (hn : is.Nodup) : Keep B h0 (L ++ is.map fun i => M.getD i none) h := by
  refine E.remap (fun i => if i < L.length then i else L.length + is.getD (i - L.length) 0) (fun i y hy => ?_) (fun i j hi hj e => ?_)
  · by_cases h1 : i < L.length
    · simp only [if_pos h1]
      rw [List.getElem?_append_left h1] at hy
      rw [List.getElem?_append_left h1]; exact hy
    · simp only [if_neg h1]
      rw [List.getElem?_append_right (by omega), List.getElem?_map] at hy
      cases hq : is[i - L.length]? with
      | none => rw [hq] at hy; cases hy
      | some q =>
        rw [hq] at hy
        simp only [Option.map_some, Option.some.injEq] at hy
        rw [List.getD_eq_getElem?_getD] at hy ⊢
        rw [hq]
        simp only [Option.getD_some]
        cases hm : M[q]? with
        | none => rw [hm] at hy; cases hy
        | some z => rw [hm] at hy; simp only [Option.getD_some] at hy; subst hy; exact upM q hm
  · rw [List.length_append, List.length_map] at hi hj
    have e : (if i < L.length then i else L.length + is.getD (i - L.length) 0) = (if j < L.length then j else L.length + is.getD (j - L.length) 0) := e
    split at e <;> split at e
    · exact e
    · omega
    · omega
    · rename_i h1 h2
      rw [List.getD_eq_getElem?_getD, List.getD_eq_getElem?_getD, List.getElem?_eq_getElem (by omega), List.getElem?_eq_getElem (by omega)] at e
      simp only [Option.getD_some] at e
      have e2 : is[i - L.length]'(by omega) = is[j - L.length]'(by omega) := by omega
      have hp := List.pairwise_iff_getElem.1 hn
      rcases Nat.lt_trichotomy (i - L.length) (j - L.length) with h | h | h
      · exact absurd e2 (hp _ _ (by omega) (by omega) h)
      · omega
      · exact absurd e2.symm (hp _ _ (by omega) (by omega) h)
end
end Go.Proofs.Ytcncdfmnpmmikaa.H
namespace Go.Proofs.Ytcncdfmnpmmikaa.H
open Go Go.RowKit
set_option linter.unusedVariables false
set_option maxRecDepth 100000
theorem Addr.add2 (A : Addr) (m n : Nat) : (A.add m).add n = A.add (m + n) := by
  unfold Addr.add
  by_cases hm : m = 0
  · subst hm; simp
  · by_cases hn : n = 0
    · subst hn; simp
    · simp [hm, hn, Nat.add_assoc]
theorem eqL_refl (b : Bool) (s : ByteArray) : eqL [Value.bool b, Value.string s] [Value.bool b, Value.string s] = true := by
  have e : (s == s) = true := by cases s with | mk d => exact beq_self_eq_true d
  simp [eqL, leafEq, e]
theorem eqL_file_eq {b b' : Bool} {s s' : ByteArray} (h : eqL [Value.bool b, Value.string s] [Value.bool b', Value.string s'] = true) : (b, s) = (b', s') := by
  simp only [eqL, leafEq, Bool.and_eq_true, Bool.and_true] at h
  obtain ⟨h1, h2⟩ := h
  have e1 : b = b' := by simpa using h1
  have e2 : s = s' := by
    cases s with
    | mk d => cases s' with
      | mk d' =>
        have h3 : (d == d') = true := h2
        rw [eq_of_beq h3]
  rw [e1, e2]
def shtO (kf : Nat) : AObj := .vec TY.sheet_Sheet (plains [.pointer (some ⟨kf, 0, none⟩)]) 1
def fO (f : FileS) : AObj := .vec TY.file_File (plains [.bool f.1, .string f.2]) 2
structure ShI where
  kT : Nat
  kR : Nat
  vt : Value
  rt : Option (Nat × AObj)
  ks : Nat
  kf : Nat
def ShI.m (x : ShI) (vd : Value) (rd : Option (Nat × AObj)) : List (Option (Nat × AObj)) := [some (x.kT, tomO x.kR), some (x.kR, frO x.vt), x.rt, some (x.ks, shtO x.kf), some (x.kf, drO_file_File vd), rd]
def getS (l : FL) (d : DFL) (n : Int) : FileS × Bool := match atD d n with
  | some f => (f, true)
  | none => ((fileAt l n).1, false)
theorem getS_some {l : FL} {d : DFL} {n : Int} {f : FileS} (h : atD d n = some f) : getS l d n = (f, true) := by rw [getS, h]
theorem getS_none {l : FL} {d : DFL} {n : Int} (h : atD d n = none) : getS l d n = ((fileAt l n).1, false) := by rw [getS, h]
def putS (l : FL) (d : DFL) (n : Int) (f : FileS) : DFL := if (getS l d n).1 = f then d else insD d n f
theorem getS_ins (l : FL) (d : DFL) (n m : Int) (f : FileS) : getS l (insD d n f) m = if m = n then (f, true) else getS l d m := by
  by_cases h : m = n
  · rw [if_pos h]
    exact getS_some (by rw [atD_ins, if_pos h])
  · rw [if_neg h]
    unfold getS
    rw [atD_ins, if_neg h]
theorem putS_sort {l : FL} {d : DFL} (s : SortD d) (n : Int) (f : FileS) : SortD (putS l d n f) := by
  unfold putS; split
  · exact s
  · exact s.ins
theorem putS_len (l : FL) (d : DFL) (n : Int) (f : FileS) : (putS l d n f).length ≤ d.length + 1 := by
  unfold putS; split
  · omega
  · exact insD_len
section
variable {B : RO} {h0 h h' : Heap} {L : List (Option (Nat × AObj))} {r rd : Option (Nat × AObj)} {i k : Nat} {a : Option Addr} {m c : Nat} {v vd : Value} {l : FL} {d : DFL} {n : Int} {x : ShI} {f : FileS}
theorem get_file_File_wp {Q : Bool → ByteArray → Bool → Heap → Prop} (E : Keep B h0 L h) (A : DAt_file_File L i k v r) (R : DRow_file_File r v d) (s : SortD d) (hl : d.length ≤ 1000000)
    (hQ : ∀ h', Keep B h0 L h' → Q ((atD d n).getD (false, ByteArray.empty)).1 ((atD d n).getD (false, ByteArray.empty)).2 (atD d n).isSome h') : C_draft_Draft_file_File_Get B (some ⟨k, 0, none⟩) n h Q := by
  refine C_draft_Draft_file_File_Get.of ?_
  unfold S_draft_Draft_file_File_Get
  intro k6 a6 b6 h7 e7 k8 a8 b8 h9 e9
  have E1 := (E.start.nM a6 b6 e7).nM a8 b8 e9
  refine ⟨fun e => (by cases e), fun _ => find_file_File_wp (i := i) E1 ⟨up_app _ A.p, up_app _ A.q⟩ R s hl fun p K => ⟨fun hf => ?_, fun hf => ?_⟩⟩
  · obtain ⟨y, hy, rfl⟩ := foundD_some hf
    have hpl := (List.getElem?_eq_some_iff.1 hy).1
    rw [atD_old K hy rfl] at hQ
    obtain ⟨a, m, c, rfl⟩ := Row.slice R
    obtain ⟨rfl, hrd⟩ := Row.rd (B := B) R entC_file_File_len (by omega)
    obtain ⟨A', e1, _, e4⟩ := hrd h9 (fun k o e => E1.at (i + 1) (by rw [up_app _ A.q, e])) p y hy
    obtain ⟨f1, f2, f3, _⟩ := e4
    refine ⟨_, rfl, .inl ⟨a, _, c, E1.cell i (up_app _ A.p) rfl, A', e1, by omega, by omega, y.2.1, y.2.2, ⟨?_, ?_, trivial⟩, ?_⟩⟩
    · rw [Int.toNat_natCast]; exact f2
    · rw [Int.toNat_natCast, Addr.add2]; exact f3
    · refine ⟨_, stores_whole (E1.gM 0 rfl) rfl (by simp) (by simp [isOne]) (by simp), ?_⟩
      have E2 := E1.pM (o' := fO y.2) 0 rfl
      exact ⟨_, _, ⟨E2.cM 0 rfl (i := 0) rfl, E2.cM 0 rfl (i := 1) rfl, trivial⟩, Fin.of (hQ _ E2.zM)⟩
  · rw [atD_new s K hf] at hQ
    refine ⟨_, _, ⟨E1.cM 1 rfl (i := 0) rfl, E1.cM 1 rfl (i := 1) rfl, trivial⟩, _, stores_whole (E1.gM 0 rfl) rfl (by simp) (by simp [isOne]) (by simp), ?_⟩
    have E2 := E1.pM (o' := fO (false, ByteArray.empty)) 0 rfl
    exact ⟨_, _, ⟨E2.cM 0 rfl (i := 0) rfl, E2.cM 0 rfl (i := 1) rfl, trivial⟩, Fin.of (hQ _ E2.zM)⟩
theorem sget_wp {Q : Bool → ByteArray → Bool → Heap → Prop} (E : Keep B h0 (L ++ x.m vd rd) h) (R : FRow x.rt x.vt l) (Rd : DRow_file_File rd vd d) (s : SortD d) (hd : d.length ≤ 1000)
    (hQ : ∀ h', Keep B h0 (L ++ x.m vd rd) h' → Q (getS l d n).1.1 (getS l d n).1.2 (getS l d n).2 h') : C_sheet_Sheet_Get B (some ⟨x.ks, 0, none⟩) (some ⟨x.kT, 0, none⟩) n h Q := by
  refine C_sheet_Sheet_Get.of ?_
  unfold S_sheet_Sheet_Get
  intro k7 a7 b7 h8 e8
  have E1 := E.nM a7 b7 e8
  refine ⟨fun e => (by cases e), fun _ => ⟨_, rfl, _, E1.cM 3 rfl (i := 0) rfl, ?_⟩⟩
  refine get_file_File_wp (i := L.length + 4) E1 ⟨upM 4 rfl, upM 5 rfl⟩ Rd s (by omega) fun h27 E2 => ?_
  cases hat : atD d n with
  | some f =>
    rw [getS_some hat] at hQ
    refine ⟨fun _ k34 a34 b34 h35 e35 => ?_, fun e => by cases e⟩
    have E3 := E2.nM a34 b34 e35
    refine ⟨_, stores_whole (E3.gM 7 rfl) rfl (by simp) (by simp [isOne]) (by simp), ?_⟩
    have E4 := E3.pM (o' := fO f) 7 rfl
    refine ⟨_, _, ⟨E4.cM 7 rfl (i := 0) rfl, E4.cM 7 rfl (i := 1) rfl, trivial⟩, _, stores_whole (E4.gM 6 rfl) rfl (by simp) (by simp [isOne]) (by simp), ?_⟩
    have E5 := E4.pM (o' := fO f) 6 rfl
    exact ⟨_, _, ⟨E5.cM 6 rfl (i := 0) rfl, E5.cM 6 rfl (i := 1) rfl, trivial⟩, Fin.of (hQ _ (E5.tM 6))⟩
  | none =>
    rw [getS_none hat] at hQ
    refine ⟨fun e => (by cases e), fun _ k31 a31 b31 h32 e32 => ?_⟩
    have E3 := E2.nM a31 b31 e32
    refine ⟨_, stores_whole (E3.gM 7 rfl) rfl (by simp) (by simp [isOne]) (by simp), Fin.of ?_⟩
    have E4 := (E3.pM (o' := fO (false, ByteArray.empty)) 7 rfl).tM 7
    unfold S_sheet_Sheet_Get_J1
    refine tget_wp (i := L.length) E4 ⟨upM 0 rfl, ⟨upM 1 rfl, upM 2 rfl⟩⟩ R fun h11 E5 => ?_
    intro k15 a15 b15 h16 e16
    have E6 := E5.nM a15 b15 e16
    refine ⟨_, stores_whole (E6.gM 7 rfl) rfl (by simp) (by simp [isOne]) (by simp), ?_⟩
    have E7 := E6.pM (o' := fO (fileAt l n).1) 7 rfl
    refine ⟨_, _, ⟨E7.cM 7 rfl (i := 0) rfl, E7.cM 7 rfl (i := 1) rfl, trivial⟩, _, stores_whole (E7.gM 6 rfl) rfl (by simp) (by simp [isOne]) (by simp), ?_⟩
    have E8 := E7.pM (o' := fO (fileAt l n).1) 6 rfl
    exact ⟨_, _, ⟨E8.cM 6 rfl (i := 0) rfl, E8.cM 6 rfl (i := 1) rfl, trivial⟩, Fin.of (hQ _ (E8.tM 6))⟩
theorem sput_wp {Q : Bool → Heap → Prop} (E : Keep B h0 (L ++ x.m vd rd) h) (R : FRow x.rt x.vt l) (Rd : DRow_file_File rd vd d) (s : SortD d) (hd : d.length ≤ 1000) (hn : 0 ≤ n ∧ n < 6)
    (hQ : ∀ vd' rd' h', DRow_file_File rd' vd' (putS l d n f) → Keep B h0 (L ++ x.m vd' rd') h' → Q true h') : C_sheet_Sheet_put B (some ⟨x.ks, 0, none⟩) (some ⟨x.kT, 0, none⟩) n f.1 f.2 h Q := by
  refine C_sheet_Sheet_put.of ?_
  unfold S_sheet_Sheet_put
  intro k7 a7 b7 h8 e8
  have E1 : Keep B h0 ((some (k7, fO f) :: L) ++ x.m vd rd) h8 := by
    have := E.made a7 b7 e8
    refine this.remap (fun j => if j = 0 then (L ++ x.m vd rd).length else j - 1) (fun j y hy => ?_) (fun i j hi hj e => ?_)
    · cases j with
      | zero =>
        simp only [List.cons_append, List.getElem?_cons_zero] at hy
        simp only [if_true]
        rw [List.getElem?_append_right (Nat.le_refl _), Nat.sub_self]; exact hy
      | succ j =>
        simp only [List.cons_append, List.getElem?_cons_succ] at hy
        simp only [Nat.add_one_ne_zero, if_false, Nat.add_sub_cancel]
        exact up_app _ hy
    · simp only [List.length_append, List.length_cons] at hi hj
      have e : (if i = 0 then (L ++ x.m vd rd).length else i - 1) = (if j = 0 then (L ++ x.m vd rd).length else j - 1) := e
      rw [List.length_append] at e
      split at e <;> split at e <;> omega
  refine ⟨fun e => (by cases e), fun _ => ⟨fun hlt => by omega, fun _ => ⟨fun hge => by omega, fun _ => Fin.of ?_⟩⟩⟩
  unfold S_sheet_Sheet_put_J1
  refine sget_wp E1 R Rd s hd fun h11 E2 => ?_
  intro k15 a15 b15 h16 e16
  have E3 := E2.nM a15 b15 e16
  refine ⟨_, stores_whole (E3.gM 6 rfl) rfl (by simp) (by simp [isOne]) (by simp), ?_⟩
  have E4 := E3.pM (o' := fO (getS l d n).1) 6 rfl
  refine ⟨_, _, ⟨E4.cM 6 rfl (i := 0) rfl, E4.cM 6 rfl (i := 1) rfl, trivial⟩, _, _, ⟨E4.cell 0 rfl (j := 0) rfl, E4.cell 0 rfl (j := 1) rfl, trivial⟩, fun he => ?_, fun hne => ?_⟩
  · have hf : (getS l d n).1 = f := eqL_file_eq he
    unfold putS at hQ
    rw [if_pos hf] at hQ
    refine Fin.of (hQ vd rd _ Rd ?_)
    have E5 : Keep B h0 (some (k7, fO f) :: (L ++ x.m vd rd)) _ := E4.tM 6
    exact E5.remap (fun j => j + 1) (fun j y hy => by simpa using hy) (fun i j _ _ e => by simpa using e)
  · have hf : ¬ (getS l d n).1 = f := fun e => hne (by rw [← e]; exact eqL_refl _ _)
    unfold putS at hQ
    rw [if_neg hf] at hQ
    refine ⟨_, rfl, _, E4.cM 3 rfl (i := 0) rfl, _, _, ⟨E4.cell 0 rfl (j := 0) rfl, E4.cell 0 rfl (j := 1) rfl, trivial⟩, ?_⟩
    refine put_file_File_wp (i := (some (k7, fO f) :: L).length + 4) E4 ⟨upM 4 rfl, upM 5 rfl⟩ Rd s (by omega) fun v' r' h65 R' E5 => ?_
    rw [setM, show (some (k7, fO f) :: L).length + 4 + 1 = (some (k7, fO f) :: L).length + 5 from rfl, setM] at E5
    refine ⟨E5.cM 3 rfl (i := 0) rfl, ⟨E5.cell 0 rfl (j := 0) rfl, E5.cell 0 rfl (j := 1) rfl, trivial⟩, Fin.of (hQ v' r' _ R' ?_)⟩
    have E6 : Keep B h0 (some (k7, fO f) :: (L ++ x.m v' r')) _ := E5.tM 6
    exact E6.remap (fun j => j + 1) (fun j y hy => by simpa using hy) (fun i j _ _ e => by simpa using e)
end
end Go.Proofs.Ytcncdfmnpmmikaa.H
namespace Go.Proofs.Ytcncdfmnpmmikaa.H
open Go Go.RowKit
set_option linter.unusedVariables false
set_option maxRecDepth 100000
theorem TK.files_kd : leafB PG 6 TY.a_6_file_File = some [.bool, .str, .bool, .str, .bool, .str, .bool, .str, .bool, .str, .bool, .str] := by kernel_rfl
theorem Files_arg {H : Type} {enc : TypeId × Value → H} {w : World} {base : Nat} {spare : Nat → Bool} {held : Bool} {cs : Array Value} {d : DataW H} {p : List MemPlace} (h : DataW.Trod enc PG w base spare held TY.a_6_file_File (.agg cs) d p) :
    ∃ z : FL, z.length = 6 ∧ (∀ q x, z[q]? = some x → x.2 = ((q : Nat) : Int)) ∧ cs = (filesC z).toArray := by
  have hk := arg_agg TK.files_kd h
  obtain ⟨b1, v1, e1, g1⟩ := hk.bool
  obtain ⟨s1, w1, rfl, _, k1⟩ := g1.str
  obtain ⟨b2, v2, rfl, g2⟩ := k1.bool
  obtain ⟨s2, w2, rfl, _, k2⟩ := g2.str
  obtain ⟨b3, v3, rfl, g3⟩ := k2.bool
  obtain ⟨s3, w3, rfl, _, k3⟩ := g3.str
  obtain ⟨b4, v4, rfl, g4⟩ := k3.bool
  obtain ⟨s4, w4, rfl, _, k4⟩ := g4.str
  obtain ⟨b5, v5, rfl, g5⟩ := k4.bool
  obtain ⟨s5, w5, rfl, _, k5⟩ := g5.str
  obtain ⟨b6, v6, rfl, g6⟩ := k5.bool
  obtain ⟨s6, w6, rfl, _, k6⟩ := g6.str
  obtain rfl := k6.nil
  refine ⟨[((b1, s1), 0), ((b2, s2), 1), ((b3, s3), 2), ((b4, s4), 3), ((b5, s5), 4), ((b6, s6), 5)], rfl, fun q x hx => ?_, ?_⟩
  · match q, hx with
    | 0, hx => cases hx; rfl
    | 1, hx => cases hx; rfl
    | 2, hx => cases hx; rfl
    | 3, hx => cases hx; rfl
    | 4, hx => cases hx; rfl
    | 5, hx => cases hx; rfl
    | q + 6, hx => simp at hx
  · rw [← Array.toList_inj, e1]; rfl
theorem cur_set {α : Type} (z w : List α) (hl : z.length = w.length) {j : Nat} {x : α} (h : z[j]? = some x) : (z.take j ++ w.drop j).set j x = z.take (j + 1) ++ w.drop (j + 1) := by
  obtain ⟨hj, rfl⟩ := List.getElem?_eq_some_iff.1 h
  have h1 : (z.take j).length = j := by rw [List.length_take]; omega
  rw [List.set_append_right _ _ (by omega), h1, Nat.sub_self, List.drop_eq_getElem_cons (by omega : j < w.length), List.set_cons_zero, List.take_succ_eq_append_getElem hj, List.append_assoc]; rfl
section
variable {B : RO} {h0 h h' : Heap} {L : List (Option (Nat × AObj))} {r rd : Option (Nat × AObj)} {v vd : Value} {l z : FL} {d : DFL} {n : Int} {x : ShI} {f : FileS} {from' tj : Int}
theorem blk_cells {k n : Nat} {t : TypeId} {cs : List Value} (g : h k = some (.vec t (plains cs) n)) : CellsAt B h ⟨k, 0, none⟩ 0 cs :=
  CellsAt.of_vec _ 0 g fun j y hj => by rw [plains_get, Nat.zero_add, hj]; rfl
theorem srename_wp {Q : Bool → Heap → Prop} (E : Keep B h0 (L ++ x.m vd rd) h) (R : FRow x.rt x.vt l) (Rd : DRow_file_File rd vd d) (s : SortD d) (hd : d.length ≤ 900) (h1 : 0 ≤ from' ∧ from' < 6) (h2 : 0 ≤ tj ∧ tj < 6) (hne : from' ≠ tj) (his : (getS l d from').1.1 = true)
    (hQ : ∀ vd' rd' h', DRow_file_File rd' vd' (putS l (putS l d tj (getS l d from').1) from' (false, ByteArray.empty)) → Keep B h0 (L ++ x.m vd' rd') h' → Q true h') : C_sheet_Sheet_Rename B (some ⟨x.ks, 0, none⟩) (some ⟨x.kT, 0, none⟩) from' tj h Q := by
  refine C_sheet_Sheet_Rename.of ?_
  unfold S_sheet_Sheet_Rename
  refine sget_wp E R Rd s (by omega) fun h6 E1 => ?_
  intro k10 a10 b10 h11 e11
  have E2 := E1.nM a10 b10 e11
  refine ⟨_, stores_whole (E2.gM 6 rfl) rfl (by simp) (by simp [isOne]) (by simp), fun e => (by cases e), fun _ => ⟨fun hn => by omega, fun _ => ⟨fun hn => by omega, fun _ => ⟨fun hn => by omega, fun _ => ⟨fun hn => by omega, fun _ => Fin.of ?_⟩⟩⟩⟩⟩
  have E3 := E2.pM (o' := fO (getS l d from').1) 6 rfl
  unfold S_sheet_Sheet_Rename_J2
  refine ⟨fun e => (by cases e), fun _ => ⟨_, E3.cM 6 rfl (i := 0) rfl, fun _ => ⟨fun e => absurd e hne, fun _ => Fin.of ?_⟩, fun hb => by rw [his] at hb; cases hb⟩⟩
  unfold S_sheet_Sheet_Rename_J1
  refine ⟨_, _, ⟨E3.cM 6 rfl (i := 0) rfl, E3.cM 6 rfl (i := 1) rfl, trivial⟩, ?_⟩
  have E4 := E3.tM 6
  refine sput_wp (f := (getS l d from').1) E4 R Rd s (by omega) h2 fun v1 r1 h17 R1 E5 => ?_
  have hl1 := putS_len l d tj (getS l d from').1
  exact sput_wp (f := (false, ByteArray.empty)) E5 R R1 (putS_sort s _ _) (by omega) h1 fun v2 r2 h19 R2 E6 => Fin.of (hQ v2 r2 _ R2 E6)
theorem make_wp {b : Bool} {s : ByteArray} {Q : Bool → ByteArray → Heap → Prop} (hQ : ∀ h', Wk B h h' → Q true s h') : C_file_Make B b s h Q := by
  refine C_file_Make.of ?_
  unfold S_file_Make
  intro k5 a5 b5 h6 e6 k7 a7 b7 h8 e8
  have E := ((Keep.nil B h).made a5 b5 e6).made a7 b7 e8
  refine ⟨_, E.cell 0 rfl rfl, _, stores_whole E.last rfl (by simp) (by simp [isOne]) (by simp), ?_⟩
  have E1 := E.putLast (fO (true, s))
  exact ⟨_, _, ⟨cellH_vec E1.last rfl, cellH_vec E1.last rfl, trivial⟩, Fin.of (hQ _ E1.w)⟩
theorem screate_wp {Q : Bool → Heap → Prop} (E : Keep B h0 (L ++ x.m vd rd) h) (R : FRow x.rt x.vt l) (Rd : DRow_file_File rd vd d) (s : SortD d) (hd : d.length ≤ 900) (h1 : 0 ≤ n ∧ n < 6)
    (hQ : ∀ vd' rd' h', DRow_file_File rd' vd' (putS l d n (true, (getS l d n).1.2)) → Keep B h0 (L ++ x.m vd' rd') h' → Q true h') : C_sheet_Sheet_Create B (some ⟨x.ks, 0, none⟩) (some ⟨x.kT, 0, none⟩) n h Q := by
  refine C_sheet_Sheet_Create.of ?_
  unfold S_sheet_Sheet_Create
  refine sget_wp E R Rd s (by omega) fun h5 E1 => ?_
  intro k9 a9 b9 h10 e10
  have E2 := E1.nM a9 b9 e10
  refine ⟨_, stores_whole (E2.gM 6 rfl) rfl (by simp) (by simp [isOne]) (by simp), ?_⟩
  have E3 := E2.pM (o' := fO (getS l d n).1) 6 rfl
  refine ⟨_, _, ⟨E3.cM 6 rfl (i := 0) rfl, E3.cM 6 rfl (i := 1) rfl, trivial⟩, make_wp fun h14 w => ?_⟩
  have E4 := (E3.wk w).tM 6
  exact sput_wp (f := (true, (getS l d n).1.2)) E4 R Rd s (by omega) h1 fun v1 r1 h17 R1 E5 => Fin.of (hQ v1 r1 _ R1 E5)
theorem snew_wp {Q : Option Addr → Heap → Prop} (hQ : ∀ ks kf h', Keep B h [some (ks, shtO kf), some (kf, drO_file_File (.slice none 0 0)), none] h' → Q (some ⟨ks, 0, none⟩) h') : C_sheet_New B h Q := by
  refine C_sheet_New.of ?_
  unfold S_sheet_New
  intro k2 a2 b2 h3 e3 k4 a4 b4 h5 e5
  have E := ((Keep.nil B h).made a2 b2 e3).made a4 b4 e5
  exact Fin.of (hQ k4 k2 h5 (E.gap.picks [1, 0, 2] (by decide)))
theorem is14_wp {Q : Bool → Heap → Prop} (hQ : Q (decide (0 ≤ n ∧ n ≤ 5)) h) : C_countermandref14_Is B n h Q := by
  refine C_countermandref14_Is.of ?_
  unfold S_countermandref14_Is
  refine ⟨fun h1 => Fin.of ?_, fun h1 => Fin.of ?_⟩
  · have : decide (0 ≤ n ∧ n ≤ 5) = decide (n ≤ 5) := by simp; omega
    rw [this] at hQ; exact hQ
  · rw [decide_eq_false (by omega)] at hQ; exact hQ
theorem alive14_wp {Q : Bool → Heap → Prop} (hQ : ∀ h', Keep B h [] h' → Q true h') : C_countermandlaw14_alive B h Q := by
  refine C_countermandlaw14_alive.of ?_
  unfold S_countermandlaw14_alive
  refine snew_wp fun ks kf h2 E1 => tnew_wp fun kT kR v r h4 R E2 => ?_
  let x : ShI := ⟨kT, kR, v, r, ks, kf⟩
  have E3 : Keep B h ([] ++ x.m (.slice none 0 0) none) h4 := (E1.append E2).picks [3, 4, 5, 0, 1, 2] (by decide)
  have hR : FRow x.rt x.vt zF := R
  have hz : ∀ m : Int, getS zF [] m = ((fileAt zF m).1, false) := fun m => getS_none rfl
  have hz0 : ∀ m : Int, (fileAt zF m).1 = (false, ByteArray.empty) := fun m => by
    unfold fileAt
    split
    · cases hq : zF[m.toNat]? with
      | none => rfl
      | some y =>
        have := List.mem_of_getElem? hq
        rw [zF, List.mem_replicate] at this
        rw [this.2]; rfl
    · rfl
  refine screate_wp (x := x) (d := ([] : DFL)) E3 hR (Row.nil _ _) List.Pairwise.nil (by simp) (by omega) fun v1 r1 h35 R1 E4 => ⟨fun _ => ?_, fun e => by cases e⟩
  have d1 : putS zF [] 1 (true, (getS zF [] 1).1.2) = insD [] 1 (true, ByteArray.empty) := by
    rw [hz, hz0]; unfold putS; rw [if_neg (by rw [hz, hz0]; simp)]
  rw [d1] at R1
  have g1 : ∀ m, getS zF (insD [] 1 (true, ByteArray.empty)) m = if m = 1 then ((true, ByteArray.empty), true) else ((false, ByteArray.empty), false) := fun m => by
    rw [getS_ins, hz, hz0]
  refine srename_wp (x := x) E4 hR R1 (SortD.ins List.Pairwise.nil) (by have := insD_len (l := ([] : DFL)) (i := 1) (v := (true, ByteArray.empty)); simp at this ⊢; omega) (by omega) (by omega) (by omega) (by rw [g1]; rfl) fun v2 r2 h37 R2 E5 => ⟨fun _ => Fin.of ?_, fun e => by cases e⟩
  rw [g1, if_pos rfl] at R2
  have d2 : putS zF (insD [] 1 (true, ByteArray.empty)) 2 (true, ByteArray.empty) = insD (insD [] 1 (true, ByteArray.empty)) 2 (true, ByteArray.empty) := by
    unfold putS; rw [if_neg (by rw [g1, if_neg (by omega)]; simp)]
  rw [d2] at R2
  have d3 : putS zF (insD (insD [] 1 (true, ByteArray.empty)) 2 (true, ByteArray.empty)) 1 (false, ByteArray.empty) = insD (insD (insD [] 1 (true, ByteArray.empty)) 2 (true, ByteArray.empty)) 1 (false, ByteArray.empty) := by
    unfold putS; rw [if_neg (by rw [getS_ins, if_neg (by omega), g1, if_pos rfl]; simp)]
  rw [d3] at R2
  have s2 : SortD (insD (insD (insD ([] : DFL) 1 (true, ByteArray.empty)) 2 (true, ByteArray.empty)) 1 (false, ByteArray.empty)) := SortD.ins (SortD.ins (SortD.ins List.Pairwise.nil))
  have l2 : (insD (insD (insD ([] : DFL) 1 (true, ByteArray.empty)) 2 (true, ByteArray.empty)) 1 (false, ByteArray.empty)).length ≤ 1000 := by
    have a1 := insD_len (l := ([] : DFL)) (i := 1) (v := (true, ByteArray.empty))
    have a2 := insD_len (l := insD ([] : DFL) 1 (true, ByteArray.empty)) (i := 2) (v := (true, ByteArray.empty))
    have a3 := insD_len (l := insD (insD ([] : DFL) 1 (true, ByteArray.empty)) 2 (true, ByteArray.empty)) (i := 1) (v := (false, ByteArray.empty))
    simp only [List.length_nil] at a1
    omega
  have g2 : getS zF (insD (insD (insD [] 1 (true, ByteArray.empty)) 2 (true, ByteArray.empty)) 1 (false, ByteArray.empty)) 2 = ((true, ByteArray.empty), true) := by
    rw [getS_ins, if_neg (by omega), getS_ins, if_pos rfl]
  have g3 : getS zF (insD (insD (insD [] 1 (true, ByteArray.empty)) 2 (true, ByteArray.empty)) 1 (false, ByteArray.empty)) 1 = ((false, ByteArray.empty), true) := by
    rw [getS_ins, if_pos rfl]
  unfold S_countermandlaw14_alive_J1
  refine sget_wp (x := x) E5 hR R2 s2 l2 fun h8 E6 => ?_
  rw [g2]
  refine ⟨fun _ k23 a23 b23 h24 e24 => ?_, fun e => by cases e⟩
  have E7 := E6.made a23 b23 e24
  refine ⟨_, stores_whole E7.last rfl (by simp) (by simp [isOne]) (by simp), ?_⟩
  have E8 := E7.putLast (fO (true, ByteArray.empty))
  have E9 : Keep B h ([some (k23, fO (true, ByteArray.empty))] ++ x.m v2 r2) _ := E8.picks [6, 0, 1, 2, 3, 4, 5] (by decide)
  refine sget_wp (x := x) E9 hR R2 s2 l2 fun h26 E10 => ?_
  rw [g3]
  intro k30 a30 b30 h31 e31
  have E11 := E10.made a30 b30 e31
  refine ⟨_, stores_whole E11.last rfl (by simp) (by simp [isOne]) (by simp), ?_⟩
  have E12 := E11.putLast (fO (false, ByteArray.empty))
  exact ⟨_, E12.cell 0 rfl rfl, fun _ => ⟨_, cellH_vec E12.last rfl, Fin.of (hQ _ (E12.take 0))⟩, fun e => by cases e⟩
def afB (z : FL) : AObj := .vec TY.a_6_file_File (plains (filesC z ++ [])) 12
end
end Go.Proofs.Ytcncdfmnpmmikaa.H
namespace Go.Proofs.Ytcncdfmnpmmikaa.H
open Go Go.RowKit
set_option linter.unusedVariables false
set_option maxRecDepth 100000
theorem semH_convStr {P : Program} {B : RO} {h : Heap} {src dst e : TypeId} {s : ByteArray} {K : Value → Heap → Prop} (h1 : P.underlying src = some .string) (h2 : P.underlying dst = some (.slice e)) (h3 : P.underlying e = some (.int .u8)) (he : e = 5)
    (hk : ∀ k c nn js, h k = none → B k = none → s.size ≤ c → c ≤ nn → K (.slice (some ⟨k, 0, none⟩) s.size c) (h.set k (.vec e (plains ((bl s).map byteV ++ js)) nn))) : semH P B (convert src dst (.string s)) h K := by
  unfold convert
  rw [semH_und h1, semH_und h2]
  simp only
  rw [semH_und h3]
  show semH P B (Conv.stringToBytes e s) h K
  unfold Conv.stringToBytes
  refine semH_choose rfl fun q => ?_
  have hcut : s.size ≤ (Question.appendCap s.size 0 e).cut q := by simp [Question.cut]
  generalize (Question.appendCap s.size 0 e).cut q = c at hcut
  refine semH_newRow fun b hb1 hb2 => ?_
  have e1 : ((s.data.map fun b => (Value.int .u8 b.toNat)) ++ Array.replicate (c - s.size) (Value.int .u8 0)).toList = (bl s).map byteV ++ List.replicate (c - s.size) (.int .u8 0) := by
    simp [bl, byteV]
  have e2 : ((s.data.map fun b => (Value.int .u8 b.toNat)) ++ Array.replicate (c - s.size) (Value.int .u8 0)).size = c := by
    simp only [Array.size_append, Array.size_map, Array.size_replicate]
    have : s.data.size = s.size := rfl
    omega
  rw [e1, e2, semH_bind]
  unfold markStringish
  rw [semH_bind]
  refine ⟨some (e, c), by simp [shapeH, Heap.set_same], ?_⟩
  refine ⟨⟨e, _, c, Heap.set_same _ _ _, Nat.le_refl _, he⟩, by omega, ?_⟩
  exact hk b c c _ hb1 hb2 hcut (Nat.le_refl _)
theorem TK.und_str : PG.underlying TY.string = some .string := by kernel_rfl
theorem TK.und_bytes : PG.underlying TY.s_uint8 = some (.slice TY.uint8) := by kernel_rfl
theorem TK.und_u8 : PG.underlying TY.uint8 = some (.int .u8) := by kernel_rfl
def padT (n : Nat) (l : List UInt8) : List UInt8 := l ++ List.replicate (n - l.length) 0
theorem padT_len (n : Nat) (l : List UInt8) : (padT n l).length = max l.length n := by simp [padT]; omega
theorem padT_self {n : Nat} {l : List UInt8} (h : n ≤ l.length) : padT n l = l := by
  unfold padT; rw [show n - l.length = 0 by omega]; simp
theorem padT_succ {n : Nat} {l : List UInt8} (h : l.length ≤ n) : padT n l ++ [0] = padT (n + 1) l := by
  unfold padT; rw [show n + 1 - l.length = n - l.length + 1 by omega, List.replicate_succ', List.append_assoc]
theorem padT_get {n i : Nat} {l : List UInt8} (h : i < max l.length n) : (padT n l)[i]? = some ((l[i]?).getD 0) := by
  unfold padT
  by_cases hi : i < l.length
  · rw [List.getElem?_append_left hi, List.getElem?_eq_getElem hi]; rfl
  · rw [List.getElem?_append_right (by omega), List.getElem?_replicate, if_pos (by omega), List.getElem?_eq_none (by omega)]; rfl
def putT (l : List UInt8) (k : Nat) (c : UInt8) : List UInt8 := (padT (k + 1) l).set k c
def putF (f : FileS) (at' : Int) (c : UInt8) : FileS := if 0 ≤ at' ∧ at' < 32 then (true, ba (putT (bl f.2) at'.toNat c)) else f
def cutT (l : List UInt8) (n : Nat) : List UInt8 := (padT n l).take n
def cutF (f : FileS) (n : Int) : FileS := if f.1 = true ∧ 0 ≤ n ∧ n ≤ 32 then (true, ba (cutT (bl f.2) n.toNat)) else f
theorem cutT_len (l : List UInt8) (n : Nat) : (cutT l n).length = n := by unfold cutT; rw [List.length_take, padT_len]; omega
theorem putT_len (l : List UInt8) (k : Nat) (c : UInt8) : (putT l k c).length = max l.length (k + 1) := by unfold putT; rw [List.length_set, padT_len]
def byteOf (l : List UInt8) (i : Nat) : UInt8 := (l[i]?).getD 0
theorem putT_get {l : List UInt8} {k i : Nat} {c : UInt8} (h : i < max l.length (k + 1)) : (putT l k c)[i]? = some (if i = k then c else byteOf l i) := by
  unfold putT
  by_cases e : i = k
  · subst e
    rw [if_pos rfl, List.getElem?_set_self (by rw [padT_len]; exact h)]
  · rw [if_neg e, List.getElem?_set_ne (fun x => e x.symm), padT_get h]; rfl
theorem cutT_get {l : List UInt8} {n i : Nat} (h : i < n) : (cutT l n)[i]? = some (byteOf l i) := by
  unfold cutT
  rw [List.getElem?_take, if_pos h, padT_get (by omega)]; rfl
theorem map_flat (l : List UInt8) : l.map byteV = l.flatMap fun c => [byteV c] := by induction l with | nil => rfl | cons c l ih => simp [ih]
section
variable {B : RO} {h h0 : Heap} {L : List (Option (Nat × AObj))} {b : Bool} {s : ByteArray}
def fiO (f : FileS) : AObj := .vec TY.file_File (plains [.bool f.1, .string f.2]) 2
def frfO (f : FileS) : AObj := .vec TY.countermandref09_File (plains [.bool f.1, .string f.2]) 2
theorem fput_wp {at' v : Int} {c : UInt8} (hv : v = ((c.toNat : Nat) : Int)) (hs : s.size ≤ 1000000) {Q : Bool → ByteArray → Heap → Prop} (hQ : ∀ h', Wk B h h' → Q (putF (b, s) at' c).1 (putF (b, s) at' c).2 h') : C_file_Put B b s at' v h Q := by
  refine C_file_Put.of ?_
  unfold S_file_Put
  intro k7 a7 b7 h8 e8 k9 a9 b9 h10 e10
  have E := ((Keep.nil B h).made a7 b7 e8).made a9 b9 e10
  have E : Keep B h [some (k7, fiO (b, s)), some (k9, fiO (false, ByteArray.empty))] h10 := E
  have done : ¬ (0 ≤ at' ∧ at' < 32) → ∃ b45 : Bool, ∃ s46 : ByteArray, CellsAt B h10 ⟨k7, 0, none⟩ 0 [(.bool b45), (.string s46)] ∧ ∃ h47 : Heap, StoresAt ⟨k9, 0, none⟩ h10 0 [(.bool b45), (.string s46)] h47 ∧
      ∃ b48 : Bool, ∃ s49 : ByteArray, CellsAt B h47 ⟨k9, 0, none⟩ 0 [(.bool b48), (.string s49)] ∧ Fin B h47 (Q (b48) s49) := fun hn => by
    unfold putF at hQ
    rw [if_neg hn] at hQ
    refine ⟨b, s, ⟨E.cell 0 rfl (j := 0) rfl, E.cell 0 rfl (j := 1) rfl, trivial⟩, _, stores_whole (E.at 1 rfl) rfl (by simp) (by simp [isOne]) (by simp), ?_⟩
    have E1 := E.put (o' := fiO (b, s)) 1 rfl
    exact ⟨_, _, ⟨E1.cell 1 rfl (j := 0) rfl, E1.cell 1 rfl (j := 1) rfl, trivial⟩, Fin.of (hQ _ E1.w)⟩
  refine ⟨fun hlt => done (by omega), fun hge => ⟨fun h32 => done (by omega), fun hlt => Fin.of ?_⟩⟩
  clear done
  have hin : 0 ≤ at' ∧ at' < 32 := by omega
  obtain ⟨k, rfl⟩ := Int.eq_ofNat_of_zero_le hin.1
  unfold putF at hQ
  rw [if_pos hin, Int.toNat_natCast] at hQ
  unfold S_file_Put_J1
  refine ⟨s, E.cell 0 rfl (j := 1) rfl, semH_convStr TK.und_str TK.und_bytes TK.und_u8 rfl fun kr c0 nn js hk1 hk2 hc1 hc2 => ⟨_, _, _, rfl, ?_⟩⟩
  have E1 := E.new (o := .vec TY.uint8 (plains ((bl s).map byteV ++ js)) nn) hk1 hk2
  have R1 : Row (some (kr, .vec TY.uint8 (plains ((bl s).map byteV ++ js)) nn)) (.slice (some ⟨kr, 0, none⟩) s.size c0) TY.uint8 1 ((bl s).map byteV) := .inr ⟨kr, s.size, c0, nn, js, rfl, rfl, by simp [bl_length], hc1, by omega⟩
  refine ⟨fun a n c m h' => ∃ r l, Row r (.slice a n c) TY.uint8 1 (l.map byteV) ∧ l.length = n ∧ l = padT n (bl s) ∧ s.size ≤ n ∧ n ≤ max s.size (k + 1) ∧ m = k + 1 - n ∧ Keep B h [some (k7, fiO (b, s)), some (k9, fiO (false, ByteArray.empty)), r] h', k + 1 - s.size, Fin.of ⟨_, bl s, R1, bl_length s, (padT_self (by rw [bl_length]; omega)).symm, by omega, by omega, rfl, E1⟩, ?_⟩
  clear E1 R1 E
  rintro a n c1 _ h34 ⟨r, l, R, hl, hp, hn1, hn2, rfl, E⟩
  refine ⟨fun hle k39 hk1 hk2 h40 e40 => ?_, fun hgt => Fin.of ?_⟩
  · refine E.push1 2 rfl R TK.slc_bytes TK.zero_byte rfl (by omega) (by omega) TK.sl_bytes (ys := [.int .u8 0]) rfl (by simp [isOne]) (by simp; omega) hk1 hk2 e40 fun a' m' c' r' h'' R' E' => ⟨_, _, _, rfl, Fin.of ?_⟩
    have e1 : m' = n + 1 := by
      have := R'.len
      simp only [List.length_append, List.length_map, List.length_cons, List.length_nil] at this
      omega
    subst e1
    refine ⟨k + 1 - (n + 1), by omega, r', l ++ [0], ?_, by simp [hl], by rw [← padT_succ (by rw [bl_length]; omega), ← hp], by omega, by omega, rfl, E'⟩
    rw [List.map_append]; exact R'
  · have hkn : k < n := by omega
    have hn3 : n = max s.size (k + 1) := by omega
    unfold S_file_Put_J2
    rw [map_flat] at R
    obtain ⟨A, h25, r', ea, st, R', E2⟩ := E.rowSet 2 rfl R (fun _ => rfl) (by omega) k (by omega) c (by simp [byteV, isOne])
    refine ⟨A, ea, by omega, by omega, h25, ?_, ?_⟩
    · obtain ⟨_, w, e1, e2⟩ := st
      obtain rfl : h25 = w := e2
      rw [Int.toNat_natCast, hv]; exact e1
    · rw [← map_flat] at R'
      have e3 : l.set k c = putT (bl s) k c := by
        unfold putT
        rw [hp, hn3]
        by_cases e4 : s.size ≤ k + 1
        · rw [Nat.max_eq_right e4]
        · rw [Nat.max_eq_left (by omega), padT_self (by rw [bl_length]; omega), padT_self (by rw [bl_length]; omega)]
      rw [e3] at R'
      refine semH_convB TK.byteStr (semH_bytesToString (E2.sl 2 rfl R') ⟨_, rfl, _, stores_whole (E2.at 1 rfl) rfl (by simp) (by simp [isOne]) (by simp), ?_⟩)
      have E3 := E2.put (o' := fiO (true, ba (putT (bl s) k c))) 1 rfl
      exact ⟨_, _, ⟨E3.cell 1 rfl (j := 0) rfl, E3.cell 1 rfl (j := 1) rfl, trivial⟩, Fin.of (hQ _ E3.w)⟩
end
end Go.Proofs.Ytcncdfmnpmmikaa.H
namespace Go.Proofs.Ytcncdfmnpmmikaa.H
open Go
set_option linter.unusedVariables false
noncomputable def wordOf (l : List UInt8) : Option (Nat × List UInt8) :=
  open Classical in if h : ∃ p : Nat × List UInt8, l = natB p.1 ++ p.2 ∧ p.1 < 18446744073709551616 then some (Classical.choose h) else none
theorem wordOf_none {l : List UInt8} (h : ∀ n r, l = natB n ++ r → ¬ n < 18446744073709551616) : wordOf l = none := by
  unfold wordOf
  rw [dif_neg]
  rintro ⟨p, h1, h2⟩
  exact h _ _ h1 h2
theorem natB_cons_lo {m : Nat} {b : UInt8} {r t : List UInt8} (hb : b.toNat < 128) : b :: t = natB m ++ r ↔ m = b.toNat ∧ t = r := by
  by_cases hm : m < 128
  · rw [natB_lo hm]
    simp only [List.cons_append, List.nil_append, List.cons.injEq]
    constructor
    · rintro ⟨h1, h2⟩
      refine ⟨?_, h2⟩
      rw [h1, UInt8.toNat_ofNat']; omega
    · rintro ⟨h1, h2⟩
      refine ⟨?_, h2⟩
      rw [h1]; simp
  · rw [natB_hi hm]
    constructor
    · intro h
      simp only [List.cons_append, List.cons.injEq] at h
      rw [h.1, UInt8.toNat_ofNat'] at hb
      omega
    · intro h; omega
def Half (l : List UInt8) (k acc : Nat) (rest : List UInt8) : Prop :=
  acc < 2 ^ (7 * k) ∧ rest.length + k = l.length ∧ ∀ n r, l = natB n ++ r ↔ rest = natB (n / 2 ^ (7 * k)) ++ r ∧ n % 2 ^ (7 * k) = acc ∧ (0 < k → 2 ^ (7 * k) ≤ n)
theorem Half.zero (l : List UInt8) : Half l 0 0 l := ⟨by simp, rfl, fun n r => by simp [Nat.mod_one]⟩
theorem Half.done {l t : List UInt8} {k acc : Nat} {b : UInt8} (h : Half l k acc (b :: t)) (hb : b.toNat < 128) (h0 : 0 < k → b.toNat ≠ 0) : l = natB (acc + b.toNat * 2 ^ (7 * k)) ++ t := by
  obtain ⟨h1, h2, h3⟩ := h
  have hpos : 0 < 2 ^ (7 * k) := Nat.two_pow_pos _
  refine (h3 _ _).2 ⟨(natB_cons_lo hb).2 ⟨?_, rfl⟩, ?_, fun hk => ?_⟩
  · rw [Nat.add_mul_div_right _ _ hpos, Nat.div_eq_of_lt h1, Nat.zero_add]
  · rw [Nat.add_mul_mod_self_right, Nat.mod_eq_of_lt h1]
  · have := h0 hk
    have : 1 * 2 ^ (7 * k) ≤ b.toNat * 2 ^ (7 * k) := Nat.mul_le_mul_right _ (by omega)
    omega
theorem Half.empty {l : List UInt8} {k acc : Nat} (h : Half l k acc []) : wordOf l = none := by
  refine wordOf_none fun n r e => ?_
  have := ((h.2.2 n r).1 e).1
  have h2 := natB_pos (n / 2 ^ (7 * k))
  have h3 := congrArg List.length this
  simp only [List.length_nil, List.length_append] at h3
  omega
theorem bl_extract (s : ByteArray) (i j : Nat) : bl (s.extract i j) = ((bl s).drop i).take (j - i) := by
  unfold bl
  rw [ByteArray.data_extract, Array.toList_extract, List.extract_eq_take_drop]
end Go.Proofs.Ytcncdfmnpmmikaa.H
namespace Go.Proofs.Ytcncdfmnpmmikaa.H
open Go
set_option linter.unusedVariables false
set_option maxRecDepth 100000
def repRen : Go.Shelf.Ren := ⟨fun x => match x with | 99 => 141 | 105 => 123 | 165 => 142 | 166 => 143 | 169 => 145 | 170 => 144 | 206 => 155 | 212 => 140 | 240 => 156 | 241 => 157 | 263 => 153 | 264 => 154 | 276 => 159 | 277 => 160 | _ => 0, fun x => match x with | 0 => 0 | 3 => 3 | 4 => 4 | 5 => 5 | 9 => 9 | 20 => 20 | 37 => 144 | 46 => 57 | 51 => 185 | 53 => 188 | 70 => 210 | 72 => 212 | 75 => 215 | 76 => 216 | 80 => 92 | 109 => 208 | 127 => 228 | 146 => 224 | 148 => 226 | 164 => 229 | _ => 0, fun x => x⟩
theorem repLays : Lays.n105 PG repRen := ⟨by kernel_rfl, by kernel_rfl, by kernel_rfl, by kernel_rfl, by kernel_rfl, by kernel_rfl, by kernel_rfl, by kernel_rfl, by kernel_rfl, by kernel_rfl, by kernel_rfl, by kernel_rfl, by kernel_rfl, by kernel_rfl, by kernel_rfl, by kernel_rfl, fun w => by kernel_rfl, fun w => by kernel_rfl, fun w => by kernel_rfl, by kernel_rfl, fun w => by kernel_rfl, fun w => by kernel_rfl, fun w => by kernel_rfl, by kernel_rfl, fun w => by kernel_rfl, fun w => by kernel_rfl, fun w => by kernel_rfl, by kernel_rfl, fun w => by kernel_rfl, fun w => by kernel_rfl, fun w => by kernel_rfl, by kernel_rfl, fun w => by kernel_rfl, fun w => by kernel_rfl, fun w => by kernel_rfl, by kernel_rfl, fun w => by kernel_rfl, fun w => by kernel_rfl, fun w => by kernel_rfl, by kernel_rfl, fun w => by kernel_rfl, fun w => by kernel_rfl, fun w => by kernel_rfl, by kernel_rfl, fun w => by kernel_rfl, fun w => by kernel_rfl, fun w => by kernel_rfl, by kernel_rfl, fun w => by kernel_rfl, fun w => by kernel_rfl, fun w => by kernel_rfl, by kernel_rfl, fun w => by kernel_rfl, fun w => by kernel_rfl, fun w => by kernel_rfl, by kernel_rfl, fun w => by kernel_rfl, fun w => by kernel_rfl, fun w => by kernel_rfl, by kernel_rfl, fun w => by kernel_rfl, fun w => by kernel_rfl, fun w => by kernel_rfl, by kernel_rfl, fun w => by kernel_rfl, fun w => by kernel_rfl, fun w => by kernel_rfl, by kernel_rfl, fun w => by kernel_rfl, fun w => by kernel_rfl, fun w => by kernel_rfl, by kernel_rfl, fun w => by kernel_rfl, fun w => by kernel_rfl, fun w => by kernel_rfl, by kernel_rfl, fun w => by kernel_rfl, fun w => by kernel_rfl, fun w => by kernel_rfl, by kernel_rfl, fun w => by kernel_rfl, fun w => by kernel_rfl, fun w => by kernel_rfl, by kernel_rfl, fun w => by kernel_rfl, fun w => by kernel_rfl, fun w => by kernel_rfl, by kernel_rfl, fun w => by kernel_rfl, fun w => by kernel_rfl, fun w => by kernel_rfl⟩
theorem repExtra : Builder.Extra PG repRen := { sizeBuilder := by kernel_rfl, liesBuilder := by kernel_rfl, t5 := repLays.t5, a5 := repLays.a5, z5 := repLays.z5, v5 := repLays.v5, infoByte := by kernel_rfl, cellsByte := by kernel_rfl, sizeByte := by kernel_rfl, neB5 := by decide }
theorem repF : repRen.f 105 = FN.strings_Repeat := by kernel_rfl
end Go.Proofs.Ytcncdfmnpmmikaa.H
namespace Go.Proofs.Ytcncdfmnpmmikaa.H
open Go Go.RowKit
set_option linter.unusedVariables false
set_option maxRecDepth 100000
theorem Rel.below {B : RO} {F : Fr} {h : Heap} {w w' : World} (R : Rel B F h w) (b : Below w.heap.size w w') : Rel B F h w' := by
  obtain ⟨own, R⟩ := R
  obtain ⟨b1, b2, b3, b4, hk⟩ := b
  exact ⟨own, b1.trans R.os, b2.trans R.tape, b3.trans R.output, Nat.le_trans R.low b4, fun c o hc => ⟨(hk c (lt_of_get (R.fr c o hc).1)).trans (R.fr c o hc).1, (R.fr c o hc).2⟩,
    fun c o hc => ⟨(hk c (lt_of_get (R.ro c o hc).1)).trans (R.ro c o hc).1, (R.ro c o hc).2⟩, fun c o hc => ⟨(R.obj c o hc).1, (R.obj c o hc).2.keep (hk c (R.obj c o hc).2.lt) (fun k i h' => ⟨h', hk k (R.owned k _ h')⟩)⟩,
    fun k p hk' => Nat.lt_of_lt_of_le (R.owned k p hk') b4⟩
theorem Spec.below {P : Program} {B : RO} {f : FuncId} {args : Array Value} {h : Heap} {v0 : Value} {Q : Value → Heap → Prop} (hc : ∀ w, Calls P f args w fun e w' => e = .returned v0 ∧ Below w.heap.size w w') (hQ : Q v0 h) : Spec P B f args h Q := by
  intro F w R
  refine (hc w).mono ?_
  rintro e w' ⟨rfl, bel⟩
  exact ⟨v0, h, rfl, R.below bel, hQ⟩
section
variable {B : RO} {h h0 : Heap} {L : List (Option (Nat × AObj))} {b : Bool} {s : ByteArray}
theorem repeat_wp {n : Nat} (hn : n ≤ 100000) {Q : ByteArray → Heap → Prop} (hQ : Q (ba (List.replicate n 0)) h) : C_strings_Repeat B (ByteArray.mk #[0]) (n : Int) h Q := by
  unfold C_strings_Repeat
  refine Spec.below (v0 := .string (ba (List.replicate n 0))) (fun w => ?_) ⟨_, rfl, hQ⟩
  have hc := Any.strings_Repeat repLays repExtra (ByteArray.mk #[0]) n w (by omega) (by show 1 * n ≤ _; omega)
  rw [repF] at hc
  refine hc.mono fun e w' ⟨he, hb⟩ => ⟨?_, hb⟩
  rw [he]
  have := Lib.repeatL_replicate 0 1 n
  rw [Nat.mul_one] at this
  have e1 : (ByteArray.mk #[0]).data.toList = List.replicate 1 0 := rfl
  rw [e1, this]; rfl
theorem cut_in {s : ByteArray} {n : Nat} (h : n ≤ s.size) : s.extract 0 n = ba (cutT (bl s) n) := by
  refine bl_inj ?_
  rw [bl_extract, bl_ba, cutT, padT_self (by rw [bl_length]; exact h)]; simp
theorem cut_out {s : ByteArray} {n : Nat} (h : s.size ≤ n) : s ++ ba (List.replicate (n - s.size) 0) = ba (cutT (bl s) n) := by
  refine bl_inj ?_
  rw [bl_append, bl_ba, bl_ba, cutT, List.take_of_length_le (by rw [padT_len, bl_length]; omega), padT, bl_length]
theorem fcut_wp {n : Int} (hs : s.size ≤ 1000000) {Q : Bool → ByteArray → Heap → Prop} (hQ : ∀ h', Wk B h h' → Q (cutF (b, s) n).1 (cutF (b, s) n).2 h') : C_file_Cut B b s n h Q := by
  refine C_file_Cut.of ?_
  unfold S_file_Cut
  intro k7 a7 b7 h8 e8 k9 a9 b9 h10 e10
  have E := ((Keep.nil B h).made a7 b7 e8).made a9 b9 e10
  have E : Keep B h [some (k7, fiO (b, s)), some (k9, fiO (false, ByteArray.empty))] h10 := E
  have done : ¬ (b = true ∧ 0 ≤ n ∧ n ≤ 32) → ∃ b45 : Bool, ∃ s46 : ByteArray, CellsAt B h10 ⟨k7, 0, none⟩ 0 [(.bool b45), (.string s46)] ∧ ∃ h47 : Heap, StoresAt ⟨k9, 0, none⟩ h10 0 [(.bool b45), (.string s46)] h47 ∧
      ∃ b48 : Bool, ∃ s49 : ByteArray, CellsAt B h47 ⟨k9, 0, none⟩ 0 [(.bool b48), (.string s49)] ∧ Fin B h47 (Q (b48) s49) := fun hn => by
    unfold cutF at hQ
    rw [if_neg hn] at hQ
    refine ⟨b, s, ⟨E.cell 0 rfl (j := 0) rfl, E.cell 0 rfl (j := 1) rfl, trivial⟩, _, stores_whole (E.at 1 rfl) rfl (by simp) (by simp [isOne]) (by simp), ?_⟩
    have E1 := E.put (o' := fiO (b, s)) 1 rfl
    exact ⟨_, _, ⟨E1.cell 1 rfl (j := 0) rfl, E1.cell 1 rfl (j := 1) rfl, trivial⟩, Fin.of (hQ _ E1.w)⟩
  refine ⟨b, E.cell 0 rfl (j := 0) rfl, fun hb => ⟨fun hlt => done (by omega), fun hge => ⟨fun h32 => done (by omega), fun hlt => Fin.of ?_⟩⟩, fun hb => done (by simp [hb])⟩
  clear done
  have hin : b = true ∧ 0 ≤ n ∧ n ≤ 32 := ⟨hb, by omega, by omega⟩
  unfold cutF at hQ
  rw [if_pos hin] at hQ
  obtain ⟨k, rfl⟩ := Int.eq_ofNat_of_zero_le hin.2.1
  rw [Int.toNat_natCast] at hQ
  unfold S_file_Cut_J1
  refine ⟨s, E.cell 0 rfl (j := 1) rfl, fun hle => ⟨s, E.cell 0 rfl (j := 1) rfl, by omega, by omega, hle, ?_⟩, fun hgt => ⟨s, E.cell 0 rfl (j := 1) rfl, s, E.cell 0 rfl (j := 1) rfl, ?_⟩⟩
  · rw [show Int.toNat 0 = 0 from rfl, Int.toNat_natCast, cut_in (by omega)]
    refine ⟨_, stores_whole (E.at 1 rfl) rfl (by simp) (by simp [isOne]) (by simp), ?_⟩
    have E1 := E.put (o' := fiO (true, ba (cutT (bl s) k))) 1 rfl
    exact ⟨_, _, ⟨E1.cell 1 rfl (j := 0) rfl, E1.cell 1 rfl (j := 1) rfl, trivial⟩, Fin.of (hQ _ E1.w)⟩
  · have e1 : IntKind.wrap .i64 ((k : Int) - (s.size : Nat)) = ((k - s.size : Nat) : Int) := by rw [w64 (by omega) (by omega)]; omega
    rw [e1]
    refine repeat_wp (by omega) ⟨E.cell 0 rfl (j := 1) rfl, E.cell 0 rfl (j := 1) rfl, by rw [ba_size, List.length_replicate]; omega, ?_⟩
    rw [cut_out (by omega)]
    refine ⟨_, stores_whole (E.at 1 rfl) rfl (by simp) (by simp [isOne]) (by simp), ?_⟩
    have E1 := E.put (o' := fiO (true, ba (cutT (bl s) k))) 1 rfl
    exact ⟨_, _, ⟨E1.cell 1 rfl (j := 0) rfl, E1.cell 1 rfl (j := 1) rfl, trivial⟩, Fin.of (hQ _ E1.w)⟩
theorem byteAt_f {s : ByteArray} {i : Nat} (h : i < s.size) : ∃ b, (bl s)[i]? = some b ∧ byteAt s i = ((b.toNat : Nat) : Int) := by
  refine ⟨s[i], ?_, by unfold byteAt; rw [dif_pos h]⟩
  unfold bl
  have : i < s.data.toList.length := by simpa using h
  rw [List.getElem?_eq_getElem this]
  simp [ByteArray.getElem_eq_getElem_data]
def atR (l : List UInt8) (i : Nat) : Int := match l[i]? with
  | some c => ((c.toNat : Nat) : Int)
  | none => -1
theorem atR_max (l : List UInt8) (i : Nat) : (if (0 : Int) > atR l i then (0 : Int) else atR l i) = (((byteOf l i).toNat : Nat) : Int) := by
  unfold atR byteOf
  cases l[i]? with
  | none => rfl
  | some c => simp only [Option.getD_some]; rw [if_neg (by omega)]
theorem refAt_wp {i : Nat} (hi : i ≤ 1000000) (hs : s.size ≤ 1000000) {Q : Int → Heap → Prop} (hQ : ∀ h', Wk B h h' → Q (atR (bl s) i) h') : C_countermandref09_At B b s i h Q := by
  refine C_countermandref09_At.of ?_
  unfold S_countermandref09_At
  intro k5 a5 b5 h6 e6
  have E : Keep B h [some (k5, frfO (b, s))] h6 := (Keep.nil B h).made a5 b5 e6
  refine ⟨fun ix m h' => ∃ j : Nat, ix = j ∧ m = s.size - j ∧ (j ≤ i ∨ s.size ≤ i) ∧ j ≤ s.size ∧ Keep B h [some (k5, frfO (b, s))] h', s.size, Fin.of ⟨0, rfl, rfl, by omega, by omega, E⟩, ?_⟩
  clear E
  rintro _ _ h8 ⟨j, rfl, rfl, hj, hjs, E⟩
  refine ⟨s, E.cell 0 rfl (j := 1) rfl, fun hlt => ⟨fun he => ⟨s, E.cell 0 rfl (j := 1) rfl, by omega, hlt, Fin.of ?_⟩, fun hne => Fin.of ⟨s.size - (j + 1), by omega, j + 1, by rw [w64 (by omega) (by omega)]; omega, rfl, by omega, by omega, E⟩⟩, fun hge => Fin.of ?_⟩
  · obtain ⟨c, h1, h2⟩ := byteAt_f (s := s) (i := j) (by omega)
    have hji : j = i := by omega
    subst hji
    rw [Int.toNat_natCast, h2, w64 (by omega) (by have := c.toNat_lt; omega)]
    have e3 : atR (bl s) j = ((c.toNat : Nat) : Int) := by rw [atR, h1]
    rw [← e3]
    exact hQ _ E.w
  · have e3 : atR (bl s) i = -1 := by rw [atR, List.getElem?_eq_none (by rw [bl_length]; omega)]
    rw [← e3]
    exact hQ _ E.w
theorem refPut_wp {at' v : Int} {c : UInt8} (hv : v = ((c.toNat : Nat) : Int)) (hs : s.size ≤ 100000) {Q : Bool → ByteArray → Heap → Prop} (hQ : ∀ h', Wk B h h' → Q (putF (b, s) at' c).1 (putF (b, s) at' c).2 h') : C_countermandref09_Put B b s at' v h Q := by
  refine C_countermandref09_Put.of ?_
  unfold S_countermandref09_Put
  intro k7 a7 b7 h8 e8 k9 a9 b9 h10 e10
  have E := ((Keep.nil B h).made a7 b7 e8).made a9 b9 e10
  have E : Keep B h [some (k7, frfO (b, s)), some (k9, frfO (false, ByteArray.empty))] h10 := E
  have done : ¬ (0 ≤ at' ∧ at' < 32) → ∃ b45 : Bool, ∃ s46 : ByteArray, CellsAt B h10 ⟨k7, 0, none⟩ 0 [(.bool b45), (.string s46)] ∧ ∃ h47 : Heap, StoresAt ⟨k9, 0, none⟩ h10 0 [(.bool b45), (.string s46)] h47 ∧
      ∃ b48 : Bool, ∃ s49 : ByteArray, CellsAt B h47 ⟨k9, 0, none⟩ 0 [(.bool b48), (.string s49)] ∧ Fin B h47 (Q (b48) s49) := fun hn => by
    unfold putF at hQ
    rw [if_neg hn] at hQ
    refine ⟨b, s, ⟨E.cell 0 rfl (j := 0) rfl, E.cell 0 rfl (j := 1) rfl, trivial⟩, _, stores_whole (E.at 1 rfl) rfl (by simp) (by simp [isOne]) (by simp), ?_⟩
    have E1 := E.put (o' := frfO (b, s)) 1 rfl
    exact ⟨_, _, ⟨E1.cell 1 rfl (j := 0) rfl, E1.cell 1 rfl (j := 1) rfl, trivial⟩, Fin.of (hQ _ E1.w)⟩
  refine ⟨fun hlt => done (by omega), fun hge => ⟨fun h32 => done (by omega), fun hlt => Fin.of ?_⟩⟩
  clear done
  have hin : 0 ≤ at' ∧ at' < 32 := by omega
  obtain ⟨k, rfl⟩ := Int.eq_ofNat_of_zero_le hin.1
  unfold putF at hQ
  rw [if_pos hin, Int.toNat_natCast] at hQ
  unfold S_countermandref09_Put_J1
  have hpl : (putT (bl s) k c).length = max s.size (k + 1) := by rw [putT_len, bl_length]
  refine ⟨fun t ix m h' => ∃ j : Nat, ix = j ∧ m = max s.size (k + 1) - j ∧ j ≤ max s.size (k + 1) ∧ t = ba ((putT (bl s) k c).take j) ∧ Keep B h [some (k7, frfO (b, s)), some (k9, frfO (false, ByteArray.empty))] h', _, Fin.of ⟨0, rfl, rfl, by omega, rfl, E⟩, ?_⟩
  clear E
  rintro _ _ _ h15 ⟨j, rfl, rfl, hj, rfl, E⟩
  have step : j < max s.size (k + 1) → S_countermandref09_Put_J2 B (k : Int) v k7 k9 (ba ((putT (bl s) k c).take j)) (j : Int) (max s.size (k + 1) - j) (fun t ix m h' => ∃ j : Nat, ix = j ∧ m = max s.size (k + 1) - j ∧ j ≤ max s.size (k + 1) ∧ t = ba ((putT (bl s) k c).take j) ∧ Keep B h [some (k7, frfO (b, s)), some (k9, frfO (false, ByteArray.empty))] h') h15 Q := fun hlt => by
    unfold S_countermandref09_Put_J2
    refine ⟨b, s, ⟨E.cell 0 rfl (j := 0) rfl, E.cell 0 rfl (j := 1) rfl, trivial⟩, refAt_wp (by omega) (by omega) fun h24 w => ?_⟩
    have E1 := E.wk w
    have last : ∀ (x : Int) (u : UInt8), x = ((u.toNat : Nat) : Int) → (putT (bl s) k c)[j]? = some u → S_countermandref09_Put_J3 B (k : Int) v k7 k9 (ba ((putT (bl s) k c).take j)) (j : Int) (max s.size (k + 1) - j) (fun t ix m h' => ∃ j : Nat, ix = j ∧ m = max s.size (k + 1) - j ∧ j ≤ max s.size (k + 1) ∧ t = ba ((putT (bl s) k c).take j) ∧ Keep B h [some (k7, frfO (b, s)), some (k9, frfO (false, ByteArray.empty))] h') x h24 Q := fun x u hx hu => by
      unfold S_countermandref09_Put_J3
      intro k29 a29 b29 h30 e30
      have E2 := E1.made a29 b29 e30
      refine one_string (u := u) E2.last ?_ ⟨_, rfl, ?_, Fin.of ⟨max s.size (k + 1) - (j + 1), by omega, j + 1, by rw [w64 (by omega) (by omega)]; omega, rfl, by omega, ?_, E2.take 2⟩⟩
      · rw [wu8, hx]; have := u.toNat_lt; omega
      · rw [ba_size, ba_size, List.length_take]; simp only [List.length_cons, List.length_nil]; omega
      · have e3 : (putT (bl s) k c).take (j + 1) = (putT (bl s) k c).take j ++ [u] := by
          obtain ⟨h5, h6⟩ := List.getElem?_eq_some_iff.1 hu
          rw [List.take_succ_eq_append_getElem h5, h6]
        rw [e3, ba_append]
    have hg := putT_get (l := bl s) (k := k) (i := j) (c := c) (by rw [bl_length]; exact hlt)
    refine ⟨fun he => Fin.of (last _ c (by rw [hv, w64 (by omega) (by have := c.toNat_lt; omega)]) ?_), fun hne => Fin.of (last _ (byteOf (bl s) j) (atR_max _ _) ?_)⟩
    · rw [if_pos (by omega)] at hg; exact hg
    · rw [if_neg (by omega)] at hg; exact hg
  refine ⟨s, E.cell 0 rfl (j := 1) rfl, fun hlt => Fin.of (step (by omega)), fun hge => ⟨fun hle => Fin.of (step (by omega)), fun hgt => ?_⟩⟩
  have : j = max s.size (k + 1) := by omega
  rw [List.take_of_length_le (by rw [hpl]; omega)]
  refine ⟨_, stores_whole (E.at 1 rfl) rfl (by simp) (by simp [isOne]) (by simp), ?_⟩
  have E1 := E.put (o' := frfO (true, ba (putT (bl s) k c))) 1 rfl
  exact ⟨_, _, ⟨E1.cell 1 rfl (j := 0) rfl, E1.cell 1 rfl (j := 1) rfl, trivial⟩, Fin.of (hQ _ E1.w)⟩
theorem refCut_wp {n : Int} (hs : s.size ≤ 100000) {Q : Bool → ByteArray → Heap → Prop} (hQ : ∀ h', Wk B h h' → Q (cutF (b, s) n).1 (cutF (b, s) n).2 h') : C_countermandref09_Cut B b s n h Q := by
  refine C_countermandref09_Cut.of ?_
  unfold S_countermandref09_Cut
  intro k7 a7 b7 h8 e8 k9 a9 b9 h10 e10
  have E := ((Keep.nil B h).made a7 b7 e8).made a9 b9 e10
  have E : Keep B h [some (k7, frfO (b, s)), some (k9, frfO (false, ByteArray.empty))] h10 := E
  have done : ¬ (b = true ∧ 0 ≤ n ∧ n ≤ 32) → ∃ b45 : Bool, ∃ s46 : ByteArray, CellsAt B h10 ⟨k7, 0, none⟩ 0 [(.bool b45), (.string s46)] ∧ ∃ h47 : Heap, StoresAt ⟨k9, 0, none⟩ h10 0 [(.bool b45), (.string s46)] h47 ∧
      ∃ b48 : Bool, ∃ s49 : ByteArray, CellsAt B h47 ⟨k9, 0, none⟩ 0 [(.bool b48), (.string s49)] ∧ Fin B h47 (Q (b48) s49) := fun hn => by
    unfold cutF at hQ
    rw [if_neg hn] at hQ
    refine ⟨b, s, ⟨E.cell 0 rfl (j := 0) rfl, E.cell 0 rfl (j := 1) rfl, trivial⟩, _, stores_whole (E.at 1 rfl) rfl (by simp) (by simp [isOne]) (by simp), ?_⟩
    have E1 := E.put (o' := frfO (b, s)) 1 rfl
    exact ⟨_, _, ⟨E1.cell 1 rfl (j := 0) rfl, E1.cell 1 rfl (j := 1) rfl, trivial⟩, Fin.of (hQ _ E1.w)⟩
  refine ⟨b, E.cell 0 rfl (j := 0) rfl, fun hb => ⟨fun hlt => done (by omega), fun hge => ⟨fun h32 => done (by omega), fun hlt => Fin.of ?_⟩⟩, fun hb => done (by simp [hb])⟩
  clear done
  have hin : b = true ∧ 0 ≤ n ∧ n ≤ 32 := ⟨hb, by omega, by omega⟩
  unfold cutF at hQ
  rw [if_pos hin] at hQ
  obtain ⟨k, rfl⟩ := Int.eq_ofNat_of_zero_le hin.2.1
  rw [Int.toNat_natCast] at hQ
  unfold S_countermandref09_Cut_J1
  refine ⟨fun t ix m h' => ∃ j : Nat, ix = j ∧ m = k - j ∧ j ≤ k ∧ t = ba ((cutT (bl s) k).take j) ∧ Keep B h [some (k7, frfO (b, s)), some (k9, frfO (false, ByteArray.empty))] h', _, Fin.of ⟨0, rfl, rfl, by omega, rfl, E⟩, ?_⟩
  clear E
  rintro _ _ _ h14 ⟨j, rfl, rfl, hj, rfl, E⟩
  refine ⟨fun hlt => ?_, fun hge => ?_⟩
  · refine ⟨b, s, ⟨E.cell 0 rfl (j := 0) rfl, E.cell 0 rfl (j := 1) rfl, trivial⟩, refAt_wp (by omega) (by omega) fun h24 w => ?_⟩
    have E1 := E.wk w
    intro k29 a29 b29 h30 e30
    have E2 := E1.made a29 b29 e30
    have hg := cutT_get (l := bl s) (n := k) (i := j) (by omega)
    rw [atR_max] at E2
    refine one_string (u := byteOf (bl s) j) E2.last ?_ ⟨_, rfl, ?_, Fin.of ⟨k - (j + 1), by omega, j + 1, by rw [w64 (by omega) (by omega)]; omega, rfl, by omega, ?_, E2.take 2⟩⟩
    · rw [wu8]; have := (byteOf (bl s) j).toNat_lt; omega
    · rw [ba_size, ba_size, List.length_take]; simp only [List.length_cons, List.length_nil]; omega
    · have e3 : (cutT (bl s) k).take (j + 1) = (cutT (bl s) k).take j ++ [byteOf (bl s) j] := by
        obtain ⟨h5, h6⟩ := List.getElem?_eq_some_iff.1 hg
        rw [List.take_succ_eq_append_getElem h5, h6]
      rw [e3, ba_append]
  · have : j = k := by omega
    rw [List.take_of_length_le (by rw [cutT_len]; omega)]
    refine ⟨_, stores_whole (E.at 1 rfl) rfl (by simp) (by simp [isOne]) (by simp), ?_⟩
    have E1 := E.put (o' := frfO (true, ba (cutT (bl s) k))) 1 rfl
    exact ⟨_, _, ⟨E1.cell 1 rfl (j := 0) rfl, E1.cell 1 rfl (j := 1) rfl, trivial⟩, Fin.of (hQ _ E1.w)⟩
end
end Go.Proofs.Ytcncdfmnpmmikaa.H
namespace Go.Proofs.Ytcncdfmnpmmikaa.H
open Go Go.RowKit
set_option linter.unusedVariables false
set_option maxRecDepth 100000
def inR (n : Int) : Bool := decide (0 ≤ n ∧ n < 6)
theorem inR_t {n : Int} (h : inR n = true) : 0 ≤ n ∧ n < 6 := of_decide_eq_true h
theorem inR_f {n : Int} (h : inR n = false) : ¬ (0 ≤ n ∧ n < 6) := of_decide_eq_false h
def upS (l : FL) (d : DFL) (n : Int) (f : FileS) : DFL := if inR n = true then putS l d n f else d
def f0 : FileS := (false, ByteArray.empty)
structure SOk (l : FL) (d : DFL) : Prop where
  s : SortD d
  k : ∀ x ∈ d, (0 ≤ x.1 ∧ x.1 < 6) ∧ goodF x.2.1 x.2.2 = true
  l6 : l.length = 6
  g : ∀ y ∈ l, goodF y.1.1 y.1.2 = true
theorem sort_len6 : ∀ (d : DFL) (a : Nat), SortD d → (∀ x ∈ d, (a : Int) ≤ x.1 ∧ x.1 < 6) → d.length ≤ 6 - a := by
  intro d
  induction d with
  | nil => intro a _ _; simp
  | cons x d ih =>
    intro a s h
    obtain ⟨h1, h2⟩ := h x (by simp)
    obtain ⟨s1, s2⟩ := List.pairwise_cons.1 s
    have := ih (a + 1) s2 (fun y hy => ⟨by have := s1 y hy; omega, (h y (by simp [hy])).2⟩)
    simp only [List.length_cons]; omega
theorem SOk.len {l : FL} {d : DFL} (o : SOk l d) : d.length ≤ 6 := sort_len6 d 0 o.s fun x hx => (o.k x hx).1
theorem atD_mem {d : DFL} {n : Int} {f : FileS} (h : atD d n = some f) : ∃ x ∈ d, x.1 = n ∧ x.2 = f := by
  unfold atD at h
  cases hf : d.find? (fun x => x.1 == n) with
  | none => rw [hf] at h; cases h
  | some x =>
    rw [hf] at h
    have h1 := List.find?_some hf
    exact ⟨x, List.mem_of_find?_eq_some hf, by simpa using h1, by simpa using h⟩
theorem SOk.fat {l : FL} {d : DFL} (o : SOk l d) (n : Int) : goodF (fileAt l n).1.1 (fileAt l n).1.2 = true := by
  by_cases h : 0 ≤ n ∧ n < (l.length : Int)
  · rw [fileAt_in h.1 (by omega)]; exact o.g _ (List.getElem_mem _)
  · rw [fileAt_out h]; rfl
theorem SOk.good {l : FL} {d : DFL} (o : SOk l d) (n : Int) : goodF (getS l d n).1.1 (getS l d n).1.2 = true := by
  cases h : atD d n with
  | none => rw [getS_none h]; exact o.fat n
  | some f =>
    rw [getS_some h]
    obtain ⟨x, hx, _, rfl⟩ := atD_mem h
    exact (o.k x hx).2
theorem goodF_size {b : Bool} {s : ByteArray} (h : goodF b s = true) : s.size ≤ 32 := by unfold goodF at h; simp at h; exact h.1
theorem goodF_put {f : FileS} (h : goodF f.1 f.2 = true) (n : Int) (c : UInt8) : goodF (putF f n c).1 (putF f n c).2 = true := by
  unfold putF
  split
  · rename_i hn
    have := goodF_size h
    unfold goodF
    rw [ba_size, putT_len, bl_length, decide_eq_true (by omega)]; rfl
  · exact h
theorem goodF_cut {f : FileS} (h : goodF f.1 f.2 = true) (n : Int) : goodF (cutF f n).1 (cutF f n).2 = true := by
  unfold cutF
  split
  · rename_i hn
    unfold goodF
    rw [ba_size, cutT_len, decide_eq_true (by omega)]; rfl
  · exact h
theorem goodF_make {f : FileS} (h : goodF f.1 f.2 = true) : goodF true f.2 = true := by
  have := goodF_size h
  unfold goodF; rw [decide_eq_true this]; rfl
theorem SOk.up {l : FL} {d : DFL} (o : SOk l d) {n : Int} {f : FileS} (g : goodF f.1 f.2 = true) : SOk l (upS l d n f) := by
  unfold upS putS
  split
  · rename_i hn
    have hn := inR_t hn
    split
    · exact o
    · refine ⟨o.s.ins, fun x hx => ?_, o.l6, o.g⟩
      rcases insD_mem hx with rfl | hx
      · exact ⟨hn, g⟩
      · exact o.k x hx
  · exact o
def renS (l : FL) (d : DFL) (a b : Int) : DFL := if (inR a && inR b && (getS l d a).1.1 && decide (a ≠ b)) = true then putS l (putS l d b (getS l d a).1) a f0 else d
theorem SOk.ren {l : FL} {d : DFL} (o : SOk l d) (a b : Int) : SOk l (renS l d a b) := by
  unfold renS
  split
  · rename_i h
    simp only [Bool.and_eq_true] at h
    have h1 := o.up (n := b) (o.good a)
    have h2 := h1.up (n := a) (f := f0) rfl
    unfold upS at h1 h2
    rw [if_pos h.1.1.2] at h1 h2
    rw [if_pos h.1.1.1] at h2
    exact h2
  · exact o
section
variable {B : RO} {h0 h h' : Heap} {L : List (Option (Nat × AObj))} {r rd : Option (Nat × AObj)} {v vd : Value} {l z : FL} {d : DFL} {n : Int} {x : ShI} {f : FileS}
theorem Keep.nP {M : List (Option (Nat × AObj))} {k : Nat} {o : AObj} (E : Keep B h0 (L ++ M) h) (hk : h k = none) (hb : B k = none) (e : h' = h.set k o) : Keep B h0 ((L ++ [some (k, o)]) ++ M) h' := by
  refine (E.made hk hb e).remap (fun j => if j < L.length then j else if j = L.length then L.length + M.length else j - 1) (fun j y hy => ?_) (fun i j hi hj e => ?_)
  · by_cases h1 : j < L.length
    · simp only [if_pos h1]
      rw [List.append_assoc, List.getElem?_append_left h1] at hy
      rw [List.append_assoc, List.getElem?_append_left h1]; exact hy
    · simp only [if_neg h1]
      by_cases h2 : j = L.length
      · simp only [if_pos h2]
        subst h2
        rw [List.append_assoc, List.getElem?_append_right (Nat.le_refl _), Nat.sub_self] at hy
        rw [List.getElem?_append_right (by rw [List.length_append]; omega), List.length_append, Nat.sub_self]; exact hy
      · simp only [if_neg h2]
        rw [List.append_assoc, List.getElem?_append_right (by omega), List.getElem?_append_right (by simp only [List.length_cons, List.length_nil]; omega)] at hy
        refine up_app _ ?_
        rw [List.getElem?_append_right (by omega), show j - 1 - L.length = j - L.length - [some (k, o)].length by simp only [List.length_cons, List.length_nil]; omega]; exact hy
  · simp only [List.length_append, List.length_cons, List.length_nil] at hi hj
    split at e <;> split at e <;> (try split at e) <;> (try split at e) <;> omega
theorem Keep.dP {M : List (Option (Nat × AObj))} {y : Option (Nat × AObj)} (E : Keep B h0 ((L ++ [y]) ++ M) h) : Keep B h0 (L ++ M) h := by
  rw [List.append_assoc] at E; exact E.dropMid
theorem sputG_wp {Q : Bool → Heap → Prop} (E : Keep B h0 (L ++ x.m vd rd) h) (R : FRow x.rt x.vt l) (Rd : DRow_file_File rd vd d) (o : SOk l d)
    (hQ : ∀ vd' rd' h', DRow_file_File rd' vd' (upS l d n f) → Keep B h0 (L ++ x.m vd' rd') h' → Q (inR n) h') : C_sheet_Sheet_put B (some ⟨x.ks, 0, none⟩) (some ⟨x.kT, 0, none⟩) n f.1 f.2 h Q := by
  have hl := o.len
  by_cases hn : inR n = true
  · unfold upS at hQ
    rw [hn, if_pos rfl] at hQ
    exact sput_wp (f := f) E R Rd o.s (by omega) (inR_t hn) hQ
  · have hn : inR n = false := by simpa using hn
    have hn' := inR_f hn
    unfold upS at hQ
    rw [hn, if_neg (by decide)] at hQ
    refine C_sheet_Sheet_put.of ?_
    unfold S_sheet_Sheet_put
    intro k7 a7 b7 h8 e8
    have E1 := (E.made a7 b7 e8).pop
    exact ⟨fun e => (by cases e), fun _ => ⟨fun hlt => Fin.of (hQ _ _ _ Rd E1), fun hge => ⟨fun h6 => Fin.of (hQ _ _ _ Rd E1), fun hlt => by omega⟩⟩⟩
theorem swrite_wp {a : Int} {w : Int} {c : UInt8} (hw : w = ((c.toNat : Nat) : Int)) {Q : Bool → Heap → Prop} (E : Keep B h0 (L ++ x.m vd rd) h) (R : FRow x.rt x.vt l) (Rd : DRow_file_File rd vd d) (o : SOk l d)
    (hQ : ∀ vd' rd' h', DRow_file_File rd' vd' (upS l d n (putF (getS l d n).1 a c)) → Keep B h0 (L ++ x.m vd' rd') h' → Q (inR n) h') : C_sheet_Sheet_Write B (some ⟨x.ks, 0, none⟩) (some ⟨x.kT, 0, none⟩) n a w h Q := by
  have hl := o.len
  refine C_sheet_Sheet_Write.of ?_
  unfold S_sheet_Sheet_Write
  refine sget_wp E R Rd o.s (by omega) fun h6 E1 => ?_
  intro k10 a10 b10 h11 e11
  have E2 := E1.nM a10 b10 e11
  refine ⟨_, stores_whole (E2.gM 6 rfl) rfl (by simp) (by simp [isOne]) (by simp), ?_⟩
  have E3 := E2.pM (o' := fO (getS l d n).1) 6 rfl
  refine ⟨_, _, ⟨E3.cM 6 rfl (i := 0) rfl, E3.cM 6 rfl (i := 1) rfl, trivial⟩, fput_wp hw (by have := goodF_size (o.good n); omega) fun h14 wk => ?_⟩
  have E4 := (E3.wk wk).tM 6
  exact sputG_wp (f := putF (getS l d n).1 a c) E4 R Rd o fun v1 r1 h17 R1 E5 => Fin.of (hQ v1 r1 _ R1 E5)
theorem scut_wp {a : Int} {Q : Bool → Heap → Prop} (E : Keep B h0 (L ++ x.m vd rd) h) (R : FRow x.rt x.vt l) (Rd : DRow_file_File rd vd d) (o : SOk l d)
    (hQ : ∀ vd' rd' h', DRow_file_File rd' vd' (upS l d n (cutF (getS l d n).1 a)) → Keep B h0 (L ++ x.m vd' rd') h' → Q (inR n) h') : C_sheet_Sheet_Cut B (some ⟨x.ks, 0, none⟩) (some ⟨x.kT, 0, none⟩) n a h Q := by
  have hl := o.len
  refine C_sheet_Sheet_Cut.of ?_
  unfold S_sheet_Sheet_Cut
  refine sget_wp E R Rd o.s (by omega) fun h6 E1 => ?_
  intro k10 a10 b10 h11 e11
  have E2 := E1.nM a10 b10 e11
  refine ⟨_, stores_whole (E2.gM 6 rfl) rfl (by simp) (by simp [isOne]) (by simp), ?_⟩
  have E3 := E2.pM (o' := fO (getS l d n).1) 6 rfl
  refine ⟨_, _, ⟨E3.cM 6 rfl (i := 0) rfl, E3.cM 6 rfl (i := 1) rfl, trivial⟩, fcut_wp (by have := goodF_size (o.good n); omega) fun h14 wk => ?_⟩
  have E4 := (E3.wk wk).tM 6
  exact sputG_wp (f := cutF (getS l d n).1 a) E4 R Rd o fun v1 r1 h17 R1 E5 => Fin.of (hQ v1 r1 _ R1 E5)
theorem screateG_wp {Q : Bool → Heap → Prop} (E : Keep B h0 (L ++ x.m vd rd) h) (R : FRow x.rt x.vt l) (Rd : DRow_file_File rd vd d) (o : SOk l d)
    (hQ : ∀ vd' rd' h', DRow_file_File rd' vd' (upS l d n (true, (getS l d n).1.2)) → Keep B h0 (L ++ x.m vd' rd') h' → Q (inR n) h') : C_sheet_Sheet_Create B (some ⟨x.ks, 0, none⟩) (some ⟨x.kT, 0, none⟩) n h Q := by
  have hl := o.len
  refine C_sheet_Sheet_Create.of ?_
  unfold S_sheet_Sheet_Create
  refine sget_wp E R Rd o.s (by omega) fun h5 E1 => ?_
  intro k9 a9 b9 h10 e10
  have E2 := E1.nM a9 b9 e10
  refine ⟨_, stores_whole (E2.gM 6 rfl) rfl (by simp) (by simp [isOne]) (by simp), ?_⟩
  have E3 := E2.pM (o' := fO (getS l d n).1) 6 rfl
  refine ⟨_, _, ⟨E3.cM 6 rfl (i := 0) rfl, E3.cM 6 rfl (i := 1) rfl, trivial⟩, make_wp fun h14 w => ?_⟩
  have E4 := (E3.wk w).tM 6
  exact sputG_wp (f := (true, (getS l d n).1.2)) E4 R Rd o fun v1 r1 h17 R1 E5 => Fin.of (hQ v1 r1 _ R1 E5)
theorem sremove_wp {Q : Bool → Heap → Prop} (E : Keep B h0 (L ++ x.m vd rd) h) (R : FRow x.rt x.vt l) (Rd : DRow_file_File rd vd d) (o : SOk l d)
    (hQ : ∀ vd' rd' h', DRow_file_File rd' vd' (upS l d n f0) → Keep B h0 (L ++ x.m vd' rd') h' → Q (inR n) h') : C_sheet_Sheet_Remove B (some ⟨x.ks, 0, none⟩) (some ⟨x.kT, 0, none⟩) n h Q := by
  refine C_sheet_Sheet_Remove.of ?_
  unfold S_sheet_Sheet_Remove
  exact sputG_wp (f := f0) E R Rd o fun v1 r1 h17 R1 E5 => Fin.of (hQ v1 r1 _ R1 E5)
theorem srenameG_wp {a b : Int} {Q : Bool → Heap → Prop} (E : Keep B h0 (L ++ x.m vd rd) h) (R : FRow x.rt x.vt l) (Rd : DRow_file_File rd vd d) (o : SOk l d)
    (hQ : ∀ vd' rd' h', DRow_file_File rd' vd' (renS l d a b) → Keep B h0 (L ++ x.m vd' rd') h' → Q (inR a && inR b) h') : C_sheet_Sheet_Rename B (some ⟨x.ks, 0, none⟩) (some ⟨x.kT, 0, none⟩) a b h Q := by
  have hl := o.len
  refine C_sheet_Sheet_Rename.of ?_
  unfold S_sheet_Sheet_Rename
  refine sget_wp E R Rd o.s (by omega) fun h6 E1 => ?_
  intro k10 a10 b10 h11 e11
  have E2 := E1.nM a10 b10 e11
  refine ⟨_, stores_whole (E2.gM 6 rfl) rfl (by simp) (by simp [isOne]) (by simp), fun e => (by cases e), fun _ => ?_⟩
  have E3 := E2.pM (o' := fO (getS l d a).1) 6 rfl
  have out : (inR a && inR b) = false → S_sheet_Sheet_Rename_J2 B (some ⟨x.ks, 0, none⟩) (some ⟨x.kT, 0, none⟩) a b k10 true (h11.set k10 (fO (getS l d a).1)) Q := fun hn => by
    unfold S_sheet_Sheet_Rename_J2
    have hd : renS l d a b = d := by unfold renS; rw [if_neg (by rw [hn]; simp)]
    rw [hd, hn] at hQ
    exact ⟨fun _ => Fin.of (hQ _ _ _ Rd (E3.tM 6)), fun e => by cases e⟩
  have nota : ¬ (0 ≤ a ∧ a < 6) → (inR a && inR b) = false := fun hn => by unfold inR; rw [decide_eq_false hn]; rfl
  have notb : ¬ (0 ≤ b ∧ b < 6) → (inR a && inR b) = false := fun hn => by unfold inR; rw [decide_eq_false hn (p := 0 ≤ b ∧ b < 6), Bool.and_false]
  refine ⟨fun hn => Fin.of (out (nota (by omega))), fun h1 => ⟨fun hn => Fin.of (out (nota (by omega))), fun h2 => ⟨fun hn => Fin.of (out (notb (by omega))), fun h3 => ⟨fun hn => Fin.of (out (notb (by omega))), fun h4 => Fin.of ?_⟩⟩⟩⟩
  have ha : inR a = true := decide_eq_true (by omega)
  have hb : inR b = true := decide_eq_true (by omega)
  rw [ha, hb] at hQ
  clear out nota notb
  unfold S_sheet_Sheet_Rename_J2
  refine ⟨fun e => (by cases e), fun _ => ⟨_, E3.cM 6 rfl (i := 0) rfl, fun hi => ⟨fun e => Fin.of ?_, fun hne => Fin.of ?_⟩, fun hi => Fin.of ?_⟩⟩
  · have hd : renS l d a b = d := by unfold renS; rw [if_neg (by simp [e])]
    rw [hd] at hQ
    exact hQ _ _ _ Rd (E3.tM 6)
  · have hd : renS l d a b = upS l (upS l d b (getS l d a).1) a f0 := by unfold renS upS; rw [ha, hb, hi]; simp [hne]
    rw [hd] at hQ
    unfold S_sheet_Sheet_Rename_J1
    refine ⟨_, _, ⟨E3.cM 6 rfl (i := 0) rfl, E3.cM 6 rfl (i := 1) rfl, trivial⟩, ?_⟩
    refine sputG_wp (f := (getS l d a).1) (E3.tM 6) R Rd o fun v1 r1 h17 R1 E5 => ?_
    exact sputG_wp (f := f0) E5 R R1 (o.up (o.good a)) fun v2 r2 h19 R2 E6 => Fin.of (by rw [ha] at *; exact hQ v2 r2 _ R2 E6)
  · have hd : renS l d a b = d := by unfold renS; rw [if_neg (by rw [hi]; simp)]
    rw [hd] at hQ
    exact hQ _ _ _ Rd (E3.tM 6)
end
end Go.Proofs.Ytcncdfmnpmmikaa.H
namespace Go.Proofs.Ytcncdfmnpmmikaa.H
open Go Go.RowKit
set_option linter.unusedVariables false
set_option maxRecDepth 100000
def fcl (f : FileS) : List Value := [.bool f.1, .string f.2]
theorem fcl_len (f : FileS) : (fcl f).length = 2 := rfl
def wcl (b : Bool) : List Value := [.bool b]
theorem wcl_len (b : Bool) : (wcl b).length = 1 := rfl
def fsOf (l : FL) (d : DFL) : List FileS := (List.range 6).map fun i => (getS l d (i : Nat)).1
def wsOf (l : FL) (d : DFL) : List Bool := (List.range 6).map fun i => (getS l d (i : Nat)).2
theorem fsOf_len (l : FL) (d : DFL) : (fsOf l d).length = 6 := by simp [fsOf]
theorem wsOf_len (l : FL) (d : DFL) : (wsOf l d).length = 6 := by simp [wsOf]
theorem fsOf_get {l : FL} {d : DFL} {n : Nat} (h : n < 6) : (fsOf l d)[n]? = some (getS l d n).1 := by
  unfold fsOf; rw [List.getElem?_map, List.getElem?_range h]; rfl
theorem wsOf_get {l : FL} {d : DFL} {n : Nat} (h : n < 6) : (wsOf l d)[n]? = some (getS l d n).2 := by
  unfold wsOf; rw [List.getElem?_map, List.getElem?_range h]; rfl
theorem fsOf_ins {l : FL} {d : DFL} {n : Nat} {f : FileS} (h : n < 6) : fsOf l (insD d n f) = (fsOf l d).set n f := by
  apply List.ext_getElem?
  intro i
  by_cases hi : i < 6
  · rw [fsOf_get hi, getS_ins]
    by_cases e : i = n
    · subst e; rw [if_pos rfl, List.getElem?_set_self (by rw [fsOf_len]; exact h)]
    · rw [if_neg (by omega), List.getElem?_set_ne (fun x => e x.symm), fsOf_get hi]
  · rw [List.getElem?_eq_none (by rw [fsOf_len]; omega), List.getElem?_eq_none (by rw [List.length_set, fsOf_len]; omega)]
theorem wsOf_ins {l : FL} {d : DFL} {n : Nat} {f : FileS} (h : n < 6) : wsOf l (insD d n f) = (wsOf l d).set n true := by
  apply List.ext_getElem?
  intro i
  by_cases hi : i < 6
  · rw [wsOf_get hi, getS_ins]
    by_cases e : i = n
    · subst e; rw [if_pos rfl, List.getElem?_set_self (by rw [wsOf_len]; exact h)]
    · rw [if_neg (by omega), List.getElem?_set_ne (fun x => e x.symm), wsOf_get hi]
  · rw [List.getElem?_eq_none (by rw [wsOf_len]; omega), List.getElem?_eq_none (by rw [List.length_set, wsOf_len]; omega)]
def docC (l : FL) (fs : List FileS) (ws : List Bool) : List Value := filesC l ++ fs.flatMap fcl ++ ws.flatMap wcl
def docO (l : FL) (d : DFL) : AObj := .vec TY.countermandref14_Sheet (plains (docC l (fsOf l d) (wsOf l d))) 30
section
variable {B : RO} {h0 h h' : Heap} {L : List (Option (Nat × AObj))} {l : FL} {d : DFL} {q kd : Nat} {n : Nat} {f : FileS}
theorem Keep.mid {α : Type} {cells : α → List Value} {c k nn i o : Nat} {t : TypeId} {pre post : List Value} {xs : List α} {x : α} (E : Keep B h0 L h) (hc : ∀ x, (cells x).length = c) (hq : L[q]? = some (some (k, .vec t (plains (pre ++ xs.flatMap cells ++ post)) nn))) (hx : xs[i]? = some x) (ho : o = pre.length + i * c) :
    CellsAt B h ⟨k, o, none⟩ 0 (cells x) := by
  subst ho
  refine CellsAt.of_vec _ 0 (E.at q hq) fun j y hy => ?_
  have hj := (List.getElem?_eq_some_iff.1 hy).1
  have hi := (List.getElem?_eq_some_iff.1 hx).1
  rw [hc] at hj
  have h1 := flatMap_at hc xs i x j y hx hy
  have h2 := (List.getElem?_eq_some_iff.1 h1).1
  rw [Nat.add_zero]
  refine plains_get_some ?_
  rw [List.getElem?_append_left (by rw [List.length_append]; omega), List.getElem?_append_right (by omega), show pre.length + i * c + j - pre.length = i * c + j by omega]; exact h1
theorem Keep.midSet {α : Type} {cells : α → List Value} {c k nn i o : Nat} {t : TypeId} {pre post : List Value} {xs : List α} (x : α) (E : Keep B h0 L h) (hc : ∀ x, (cells x).length = c) (hone : ∀ y ∈ cells x, isOne y = true) (hq : L[q]? = some (some (k, .vec t (plains (pre ++ xs.flatMap cells ++ post)) nn))) (hi : i < xs.length) (ho : o = pre.length + i * c) (hn : pre.length + xs.length * c ≤ nn) :
    ∃ h', StoresAt ⟨k, o, none⟩ h 0 (cells x) h' ∧ Keep B h0 (L.set q (some (k, .vec t (plains (pre ++ (xs.set i x).flatMap cells ++ post)) nn))) h' := by
  subst ho
  have h1 : i * c + c ≤ xs.length * c := by
    have : (i + 1) * c ≤ xs.length * c := Nat.mul_le_mul_right _ hi
    rw [Nat.add_mul, Nat.one_mul] at this; exact this
  have e1 : pre ++ xs.flatMap cells ++ post = (pre ++ (xs.take i).flatMap cells) ++ (cells xs[i] ++ ((xs.drop (i + 1)).flatMap cells ++ post)) := by
    rw [flatMap_splitR xs i hi]; simp only [List.append_assoc]
  have l1 : (pre ++ (xs.take i).flatMap cells).length = pre.length + i * c := by
    rw [List.length_append, flatMap_length hc, List.length_take, Nat.min_eq_left (by omega)]
  rw [e1] at hq
  obtain ⟨h', s1, E1⟩ := E.storesV q hq (cells x) hone _ l1 (by rw [hc]; omega)
  refine ⟨h', s1, ?_⟩
  have e2 : (cells xs[i] ++ ((xs.drop (i + 1)).flatMap cells ++ post)).drop (cells x).length = (xs.drop (i + 1)).flatMap cells ++ post := by
    rw [hc, ← hc xs[i], List.drop_left]
  rw [e2] at E1
  rw [flatMap_setR x xs i hi]
  simp only [List.append_assoc] at E1 ⊢
  exact E1
theorem doc_file (E : Keep B h0 L h) (h6 : l.length = 6) (hq : L[q]? = some (some (kd, docO l d))) (hn : n < 6) : CellsAt B h (Addr.add (Addr.add ⟨kd, 0, none⟩ 12) (n * 2)) 0 [.bool (getS l d n).1.1, .string (getS l d n).1.2] := by
  rw [addr_more, addr_more, Nat.zero_add]
  exact E.mid (cells := fcl) fcl_len hq (fsOf_get hn) (by rw [filesC_len]; omega)
theorem doc_wr (E : Keep B h0 L h) (h6 : l.length = 6) (hq : L[q]? = some (some (kd, docO l d))) (hn : n < 6) : cellH B h (Addr.add (Addr.add ⟨kd, 0, none⟩ 24) (n * 1)) = some (.bool (getS l d n).2) := by
  rw [addr_more, addr_more, Nat.zero_add]
  have hq' : L[q]? = some (some (kd, .vec TY.countermandref14_Sheet (plains ((filesC l ++ (fsOf l d).flatMap fcl) ++ (wsOf l d).flatMap wcl ++ [])) 30)) := by
    rw [List.append_nil]; exact hq
  have := E.mid (cells := wcl) wcl_len hq' (wsOf_get hn) (o := 24 + n * 1) (by rw [List.length_append, filesC_len, flatMap_length fcl_len, fsOf_len]; omega)
  exact this.1
theorem refput_wp {Q : Heap → Prop} (E : Keep B h0 L h) (h6 : l.length = 6) (hq : L[q]? = some (some (kd, docO l d))) (hn : n < 6)
    (hQ : ∀ h', Keep B h0 (L.set q (some (kd, docO l (putS l d n f)))) h' → Q h') : C_countermandref14_Sheet_put B (some ⟨kd, 0, none⟩) (n : Int) f.1 f.2 h Q := by
  refine C_countermandref14_Sheet_put.of ?_
  unfold S_countermandref14_Sheet_put
  intro k5 a5 b5 h6' e6
  have E1 := E.made (o := frfO f) a5 b5 e6
  have hl := (List.getElem?_eq_some_iff.1 hq).1
  rw [Int.toNat_natCast]
  refine ⟨_, rfl, by omega, by omega, _, _, doc_file E1 h6 (up_app _ hq) hn, _, _, ⟨cellH_vec E1.last rfl, cellH_vec E1.last rfl, trivial⟩, fun he => ?_, fun hne => ?_⟩
  · have hf : (getS l d n).1 = f := eqL_file_eq he
    unfold putS at hQ
    rw [if_pos hf] at hQ
    refine Fin.of (hQ _ ?_)
    obtain ⟨_, hq2⟩ := List.getElem?_eq_some_iff.1 hq
    rw [← hq2, List.set_getElem_self]; exact E1.pop
  · have hf : ¬ (getS l d n).1 = f := fun e => hne (by rw [← e]; exact eqL_refl _ _)
    unfold putS at hQ
    rw [if_neg hf] at hQ
    refine ⟨_, _, ⟨cellH_vec E1.last rfl, cellH_vec E1.last rfl, trivial⟩, _, rfl, by omega, by omega, ?_⟩
    rw [addr_more, addr_more, Nat.zero_add]
    obtain ⟨h18, st, E2⟩ := E1.midSet (cells := fcl) f fcl_len (by simp [fcl, isOne]) (up_app _ hq) (i := n) (o := 12 + n * 2) (by rw [fsOf_len]; exact hn) (by rw [filesC_len]; omega) (by rw [filesC_len, fsOf_len]; omega)
    rw [List.set_append_left _ _ hl] at E2
    refine ⟨h18, st, _, rfl, by omega, by omega, ?_⟩
    rw [addr_more, addr_more, Nat.zero_add]
    have hq2 : (L.set q (some (kd, .vec TY.countermandref14_Sheet (plains (filesC l ++ ((fsOf l d).set n f).flatMap fcl ++ (wsOf l d).flatMap wcl)) 30)) ++ [some (k5, frfO f)])[q]? = some (some (kd, .vec TY.countermandref14_Sheet (plains ((filesC l ++ ((fsOf l d).set n f).flatMap fcl) ++ (wsOf l d).flatMap wcl ++ [])) 30)) := by
      rw [List.append_nil]; exact up_app _ (List.getElem?_set_self hl)
    obtain ⟨h21, st2, E3⟩ := E2.midSet (cells := wcl) true wcl_len (by simp [wcl, isOne]) hq2 (i := n) (o := 24 + n * 1) (by rw [wsOf_len]; exact hn) (by rw [List.length_append, filesC_len, flatMap_length fcl_len, List.length_set, fsOf_len]; omega) (by rw [List.length_append, filesC_len, flatMap_length fcl_len, List.length_set, fsOf_len, wsOf_len]; omega)
    rw [List.set_append_left _ _ (by rw [List.length_set]; exact hl), List.set_set, List.append_nil, ← fsOf_ins hn, ← wsOf_ins hn] at E3
    obtain ⟨_, w, e1, e2⟩ := st2
    obtain rfl : h21 = w := e2
    exact ⟨h21, e1, Fin.of (hQ _ E3.pop)⟩
theorem is14' {n : Int} {Q : Bool → Heap → Prop} (hQ : Q (inR n) h) : C_countermandref14_Is B n h Q := is14_wp (by
  have : decide (0 ≤ n ∧ n ≤ 5) = inR n := by unfold inR; simp only [decide_eq_decide]; omega
  rw [this]; exact hQ)
theorem set_same {q : Nat} (hq : L[q]? = some (some (kd, docO l d))) : L.set q (some (kd, docO l d)) = L := by
  obtain ⟨_, h2⟩ := List.getElem?_eq_some_iff.1 hq
  rw [← h2, List.set_getElem_self]
theorem refG {n : Int} {f : FileS} {Q : Bool → Heap → Prop} (E : Keep B h0 L h) (h6 : l.length = 6) (hq : L[q]? = some (some (kd, docO l d))) (hn : inR n = true)
    (hQ : ∀ h', Keep B h0 (L.set q (some (kd, docO l (upS l d n f)))) h' → Q (inR n) h') : C_countermandref14_Sheet_put B (some ⟨kd, 0, none⟩) n f.1 f.2 h (fun h17 => C_countermandref14_Is B n h17 (fun b19 h18 => Fin B h18 (Q b19))) := by
  have hn' := inR_t hn
  obtain ⟨k, rfl⟩ := Int.eq_ofNat_of_zero_le hn'.1
  unfold upS at hQ
  rw [if_pos hn] at hQ
  exact refput_wp E h6 hq (by omega) fun h1 E1 => is14' (Fin.of (hQ _ E1))
theorem rwrite_wp {n a w : Int} {c : UInt8} (hw : w = ((c.toNat : Nat) : Int)) {Q : Bool → Heap → Prop} (E : Keep B h0 L h) (o : SOk l d) (hq : L[q]? = some (some (kd, docO l d)))
    (hQ : ∀ h', Keep B h0 (L.set q (some (kd, docO l (upS l d n (putF (getS l d n).1 a c))))) h' → Q (inR n) h') : C_countermandref14_Sheet_Write B (some ⟨kd, 0, none⟩) n a w h Q := by
  refine C_countermandref14_Sheet_Write.of ?_
  unfold S_countermandref14_Sheet_Write
  refine is14' ⟨fun hn => ?_, fun hn => is14' (Fin.of ?_)⟩
  · have hn' := inR_t hn
    obtain ⟨k, rfl⟩ := Int.eq_ofNat_of_zero_le hn'.1
    refine ⟨_, rfl, by omega, by omega, _, _, by rw [Int.toNat_natCast]; exact doc_file E o.l6 hq (by omega), refPut_wp hw (by have := goodF_size (o.good k); omega) fun h1 wk => ?_⟩
    exact refG (E.wk wk) o.l6 hq hn hQ
  · unfold upS at hQ
    rw [if_neg (by rw [hn]; decide), set_same hq] at hQ
    exact hQ _ E
theorem rcut_wp {n a : Int} {Q : Bool → Heap → Prop} (E : Keep B h0 L h) (o : SOk l d) (hq : L[q]? = some (some (kd, docO l d)))
    (hQ : ∀ h', Keep B h0 (L.set q (some (kd, docO l (upS l d n (cutF (getS l d n).1 a))))) h' → Q (inR n) h') : C_countermandref14_Sheet_Cut B (some ⟨kd, 0, none⟩) n a h Q := by
  refine C_countermandref14_Sheet_Cut.of ?_
  unfold S_countermandref14_Sheet_Cut
  refine is14' ⟨fun hn => ?_, fun hn => is14' (Fin.of ?_)⟩
  · have hn' := inR_t hn
    obtain ⟨k, rfl⟩ := Int.eq_ofNat_of_zero_le hn'.1
    refine ⟨_, rfl, by omega, by omega, _, _, by rw [Int.toNat_natCast]; exact doc_file E o.l6 hq (by omega), refCut_wp (by have := goodF_size (o.good k); omega) fun h1 wk => ?_⟩
    exact refG (E.wk wk) o.l6 hq hn hQ
  · unfold upS at hQ
    rw [if_neg (by rw [hn]; decide), set_same hq] at hQ
    exact hQ _ E
theorem rcreate_wp {n : Int} {Q : Bool → Heap → Prop} (E : Keep B h0 L h) (o : SOk l d) (hq : L[q]? = some (some (kd, docO l d)))
    (hQ : ∀ h', Keep B h0 (L.set q (some (kd, docO l (upS l d n (true, (getS l d n).1.2))))) h' → Q (inR n) h') : C_countermandref14_Sheet_Create B (some ⟨kd, 0, none⟩) n h Q := by
  refine C_countermandref14_Sheet_Create.of ?_
  unfold S_countermandref14_Sheet_Create
  refine is14' ⟨fun hn => ?_, fun hn => is14' (Fin.of ?_)⟩
  · have hn' := inR_t hn
    obtain ⟨k, rfl⟩ := Int.eq_ofNat_of_zero_le hn'.1
    have cc := (doc_file E o.l6 hq (n := k) (by omega)).2.1
    refine ⟨_, rfl, by omega, by omega, _, by rw [Int.toNat_natCast]; exact cc, ?_⟩
    exact refG (f := (true, (getS l d k).1.2)) E o.l6 hq hn hQ
  · unfold upS at hQ
    rw [if_neg (by rw [hn]; decide), set_same hq] at hQ
    exact hQ _ E
theorem rremove_wp {n : Int} {Q : Bool → Heap → Prop} (E : Keep B h0 L h) (o : SOk l d) (hq : L[q]? = some (some (kd, docO l d)))
    (hQ : ∀ h', Keep B h0 (L.set q (some (kd, docO l (upS l d n f0)))) h' → Q (inR n) h') : C_countermandref14_Sheet_Remove B (some ⟨kd, 0, none⟩) n h Q := by
  refine C_countermandref14_Sheet_Remove.of ?_
  unfold S_countermandref14_Sheet_Remove
  refine is14' ⟨fun hn => refG (f := f0) E o.l6 hq hn hQ, fun hn => is14' (Fin.of ?_)⟩
  unfold upS at hQ
  rw [if_neg (by rw [hn]; decide), set_same hq] at hQ
  exact hQ _ E
theorem rrename_wp {a b : Int} {Q : Bool → Heap → Prop} (E : Keep B h0 L h) (o : SOk l d) (hq : L[q]? = some (some (kd, docO l d)))
    (hQ : ∀ h', Keep B h0 (L.set q (some (kd, docO l (renS l d a b)))) h' → Q (inR a && inR b) h') : C_countermandref14_Sheet_Rename B (some ⟨kd, 0, none⟩) a b h Q := by
  refine C_countermandref14_Sheet_Rename.of ?_
  unfold S_countermandref14_Sheet_Rename
  have same : renS l d a b = d → Q (inR a && inR b) h := fun e => by rw [e, set_same hq] at hQ; exact hQ _ E
  refine is14' ⟨fun ha => is14' ⟨fun hb => Fin.of ?_, fun hb => Fin.of ?_⟩, fun ha => Fin.of ?_⟩
  · have ha' := inR_t ha
    have hb' := inR_t hb
    have hl := (List.getElem?_eq_some_iff.1 hq).1
    obtain ⟨i, rfl⟩ := Int.eq_ofNat_of_zero_le ha'.1
    obtain ⟨j, rfl⟩ := Int.eq_ofNat_of_zero_le hb'.1
    rw [ha, hb] at hQ same
    have J2 : renS l d i j = d → S_countermandref14_Sheet_Rename_J2 B (some ⟨kd, 0, none⟩) (i : Int) (j : Int) false h Q := fun e => by
      unfold S_countermandref14_Sheet_Rename_J2
      exact ⟨fun e => (by cases e), fun _ => Fin.of (same e)⟩
    unfold S_countermandref14_Sheet_Rename_J1
    have c1 := (doc_file E o.l6 hq (n := i) (by omega)).1
    refine ⟨_, rfl, by omega, by omega, _, by rw [Int.toNat_natCast]; exact c1, fun hi => ⟨fun e => Fin.of (J2 ?_), fun hne => Fin.of ?_⟩, fun hi => Fin.of (J2 ?_)⟩
    · unfold renS; rw [if_neg (by simp [e])]
    · have hd : renS l d i j = putS l (putS l d j (getS l d i).1) i f0 := by unfold renS; rw [ha, hb, hi]; simp [hne]
      rw [hd] at hQ
      unfold S_countermandref14_Sheet_Rename_J2
      refine ⟨fun _ => ⟨_, rfl, by omega, by omega, _, _, by rw [Int.toNat_natCast]; exact doc_file E o.l6 hq (by omega), ?_⟩, fun e => by cases e⟩
      refine refput_wp (f := (getS l d i).1) E o.l6 hq (by omega) fun h14 E1 => ?_
      refine refput_wp (f := f0) E1 o.l6 (List.getElem?_set_self hl) (by omega) fun h15 E2 => Fin.of (hQ _ ?_)
      rw [List.set_set] at E2; exact E2
    · unfold renS; rw [if_neg (by rw [hi]; simp)]
  · rw [ha, hb] at same
    exact same (by unfold renS; rw [if_neg (by rw [hb]; simp)])
  · rw [ha] at same
    exact same (by unfold renS; rw [if_neg (by rw [ha]; simp)])
end
end Go.Proofs.Ytcncdfmnpmmikaa.H
namespace Go.Proofs.Ytcncdfmnpmmikaa.H
open Go Go.RowKit
set_option linter.unusedVariables false
set_option maxRecDepth 100000
structure SCall where
  k : Int
  a : Int
  b : Int
  c : UInt8
def SCall.cells (x : SCall) : List Value := [.int .i64 x.k, .int .i64 x.a, .int .i64 x.b, .int .u8 ((x.c.toNat : Nat) : Int)]
theorem SCall.len (x : SCall) : x.cells.length = 4 := rfl
theorem TK.scalls_sl : PG.underlying TY.s_countermandlaw14_Call = some (.slice TY.countermandlaw14_Call) := by kernel_rfl
theorem TK.scall_kd : leafB PG 5 TY.countermandlaw14_Call = some [.int .i64, .int .i64, .int .i64, .int .u8] := by kernel_rfl
theorem u8_of {z : Int} (h : (Lit.int .u8 z).wf = true) : ∃ c : UInt8, z = ((c.toNat : Nat) : Int) := by
  have h1 : 0 ≤ z ∧ z ≤ 255 := by simpa [Lit.wf, IntKind.min, IntKind.max, IntKind.signed, IntKind.bits] using h
  refine ⟨UInt8.ofNat z.toNat, ?_⟩
  have h2 : z.toNat % 2 ^ 8 = z.toNat := Nat.mod_eq_of_lt (by omega)
  rw [UInt8.toNat_ofNat', h2]; omega
theorem SCall_arg {H : Type} {enc : TypeId × Value → H} {w : World} {base : Nat} {spare : Nat → Bool} {held : Bool} {a : Option Addr} {len cap : Nat} {d : DataW H} {p : List MemPlace} (h : DataW.Trod enc PG w base spare held TY.s_countermandlaw14_Call (.slice a len cap) d p) :
    ∃ l : List SCall, len = l.length ∧ Reads (roOf w) noHeap a 4 SCall.cells l := by
  have key : ∃ l : List SCall, len = l.length ∧ Reads (roOf w) noHeap a 4 SCall.cells l ∧ ∀ x ∈ l, True := arg_rows SCall.cells (fun _ => True) TK.scalls_sl TK.scall_kd rfl (by omega) (fun vs h => by
    obtain ⟨z1, v1, rfl, _, h1⟩ := h.int
    obtain ⟨z2, v2, rfl, _, h2⟩ := h1.int
    obtain ⟨z3, v3, rfl, _, h3⟩ := h2.int
    obtain ⟨z4, v4, rfl, w4, h4⟩ := h3.int
    obtain rfl := h4.nil
    obtain ⟨c, rfl⟩ := u8_of w4
    exact ⟨⟨z1, z2, z3, c⟩, rfl, trivial⟩) h
  obtain ⟨l, h1, h2, _⟩ := key
  exact ⟨l, h1, h2⟩
def opD (l : FL) (d : DFL) (x : SCall) : DFL :=
  if x.k = 0 then upS l d x.a (putF (getS l d x.a).1 x.b x.c)
  else if x.k = 1 then upS l d x.a (cutF (getS l d x.a).1 x.b)
  else if x.k = 2 then upS l d x.a (true, (getS l d x.a).1.2)
  else if x.k = 3 then upS l d x.a f0
  else if x.k = 4 then renS l d x.a x.b
  else d
theorem SOk.op {l : FL} {d : DFL} (o : SOk l d) (x : SCall) : SOk l (opD l d x) := by
  unfold opD
  split
  · exact o.up (goodF_put (o.good x.a) _ _)
  · split
    · exact o.up (goodF_cut (o.good x.a) _)
    · split
      · exact o.up (f := (true, (getS l d x.a).1.2)) (goodF_make (f := (getS l d x.a).1) (o.good x.a))
      · split
        · exact o.up rfl
        · split
          · exact o.ren _ _
          · exact o
def opsD (l : FL) (d : DFL) (xs : List SCall) : DFL := xs.foldl (opD l) d
theorem SOk.ops {l : FL} {d : DFL} (o : SOk l d) : ∀ xs : List SCall, SOk l (opsD l d xs) := by
  intro xs
  induction xs generalizing d with
  | nil => exact o
  | cons x xs ih => exact ih (o.op x)
theorem opsD_take {l : FL} {d : DFL} {xs : List SCall} {j : Nat} {x : SCall} (h : xs[j]? = some x) : opsD l d (xs.take (j + 1)) = opD l (opsD l d (xs.take j)) x := by
  obtain ⟨h1, rfl⟩ := List.getElem?_eq_some_iff.1 h
  rw [List.take_succ_eq_append_getElem h1, opsD, List.foldl_append]; rfl
section
variable {B : RO} {h0 h h' : Heap} {L : List (Option (Nat × AObj))} {r rd : Option (Nat × AObj)} {v vd : Value} {l z : FL} {d : DFL} {n : Int} {x : ShI} {f : FileS} {q kd : Nat}
theorem does14_wp {c : SCall} {Q : Bool → Heap → Prop} (E : Keep B h0 (L ++ x.m vd rd) h) (R : FRow x.rt x.vt l) (Rd : DRow_file_File rd vd d) (o : SOk l d) (hq : L[q]? = some (some (kd, docO l d)))
    (hQ : ∀ vd' rd' h', DRow_file_File rd' vd' (opD l d c) → Keep B h0 (L.set q (some (kd, docO l (opD l d c))) ++ x.m vd' rd') h' → Q true h') :
    C_countermandlaw14_does B (some ⟨x.kT, 0, none⟩) (some ⟨x.ks, 0, none⟩) (some ⟨kd, 0, none⟩) c.k c.a c.b ((c.c.toNat : Nat) : Int) h Q := by
  refine C_countermandlaw14_does.of ?_
  unfold S_countermandlaw14_does
  have hl := (List.getElem?_eq_some_iff.1 hq).1
  intro k9 a9 b9 h10 e10
  have E1 := E.nP (L := L) a9 b9 e10
  have cells : ∀ {vd' : Value} {rd' : Option (Nat × AObj)} {L' : List (Option (Nat × AObj))} {h' : Heap}, L'.length = L.length → Keep B h0 ((L' ++ [some (k9, .vec TY.countermandlaw14_Call (plains c.cells) 4)]) ++ x.m vd' rd') h' →
      cellH B h' ⟨k9, 0, none⟩ = some (.int .i64 c.k) ∧ cellH B h' ⟨k9, 1, none⟩ = some (.int .i64 c.a) ∧ cellH B h' ⟨k9, 2, none⟩ = some (.int .i64 c.b) ∧ cellH B h' ⟨k9, 3, none⟩ = some (.int .u8 ((c.c.toNat : Nat) : Int)) := fun {vd' rd' L' h'} e K => by
    have g := K.at L'.length (k := k9) (o := .vec TY.countermandlaw14_Call (plains c.cells) 4) (up_app _ (by rw [List.getElem?_append_right (Nat.le_refl _), Nat.sub_self]; rfl))
    exact ⟨cellH_vec g rfl, cellH_vec g rfl, cellH_vec g rfl, cellH_vec g rfl⟩
  have hq1 : (L ++ [some (k9, AObj.vec TY.countermandlaw14_Call (plains c.cells) 4)])[q]? = some (some (kd, docO l d)) := up_app _ hq
  have done : ∀ {vd' : Value} {rd' : Option (Nat × AObj)} {h' : Heap} {d' : DFL}, opD l d c = d' → DRow_file_File rd' vd' d' → Keep B h0 (((L ++ [some (k9, AObj.vec TY.countermandlaw14_Call (plains c.cells) 4)]) ++ x.m vd' rd').set q (some (kd, docO l d'))) h' → cellH B h' ⟨k9, 0, none⟩ = some (.int .i64 c.k) ∧ cellH B h' ⟨k9, 1, none⟩ = some (.int .i64 c.a) ∧ cellH B h' ⟨k9, 2, none⟩ = some (.int .i64 c.b) ∧ cellH B h' ⟨k9, 3, none⟩ = some (.int .u8 ((c.c.toNat : Nat) : Int)) ∧ Q true h' := fun {vd' rd' h' d'} e R' K => by
    rw [List.set_append_left _ _ (by rw [List.length_append]; omega), List.set_append_left _ _ hl] at K
    obtain ⟨c1, c2, c3, c4⟩ := cells (by rw [List.length_set]) K
    subst e
    exact ⟨c1, c2, c3, c4, hQ _ _ _ R' K.dP⟩
  obtain ⟨c0, c1, c2, c3⟩ := cells rfl E1
  refine ⟨c.k, c0, fun e0 => ?_, fun n0 => ⟨fun e1 => ?_, fun n1 => ⟨fun e2 => ?_, fun n2 => ⟨fun e3 => ?_, fun n3 => ⟨fun e4 => ?_, fun n4 => Fin.of ?_⟩⟩⟩⟩⟩
  · refine ⟨_, c1, _, c2, _, c3, _, c1, _, c2, _, c3, swrite_wp rfl E1 R Rd o fun v1 r1 h33 R1 E2 => ?_⟩
    obtain ⟨_, d1, d2, d3⟩ := cells rfl E2
    refine ⟨d1, d2, d3, d1, d2, d3, rwrite_wp rfl E2 o (up_app _ hq1) fun h41 E3 => ?_⟩
    obtain ⟨_, g1, g2, g3, hh⟩ := done (by unfold opD; rw [if_pos e0]) R1 E3
    exact ⟨g1, g2, g3, g1, g2, g3, Fin.of (by rw [decide_eq_true rfl]; exact hh)⟩
  · refine ⟨_, c1, _, c2, _, c1, _, c2, scut_wp E1 R Rd o fun v1 r1 h33 R1 E2 => ?_⟩
    obtain ⟨_, d1, d2, d3⟩ := cells rfl E2
    refine ⟨d1, d2, d1, d2, rcut_wp E2 o (up_app _ hq1) fun h41 E3 => ?_⟩
    obtain ⟨_, g1, g2, g3, hh⟩ := done (by unfold opD; rw [if_neg n0, if_pos e1]) R1 E3
    exact ⟨g1, g2, g1, g2, Fin.of (by rw [decide_eq_true rfl]; exact hh)⟩
  · refine ⟨_, c1, _, c1, screateG_wp E1 R Rd o fun v1 r1 h33 R1 E2 => ?_⟩
    obtain ⟨_, d1, d2, d3⟩ := cells rfl E2
    refine ⟨d1, d1, rcreate_wp E2 o (up_app _ hq1) fun h41 E3 => ?_⟩
    obtain ⟨_, g1, g2, g3, hh⟩ := done (by unfold opD; rw [if_neg n0, if_neg n1, if_pos e2]) R1 E3
    exact ⟨g1, g1, Fin.of (by rw [decide_eq_true rfl]; exact hh)⟩
  · refine ⟨_, c1, _, c1, sremove_wp E1 R Rd o fun v1 r1 h33 R1 E2 => ?_⟩
    obtain ⟨_, d1, d2, d3⟩ := cells rfl E2
    refine ⟨d1, d1, rremove_wp E2 o (up_app _ hq1) fun h41 E3 => ?_⟩
    obtain ⟨_, g1, g2, g3, hh⟩ := done (by unfold opD; rw [if_neg n0, if_neg n1, if_neg n2, if_pos e3]) R1 E3
    exact ⟨g1, g1, Fin.of (by rw [decide_eq_true rfl]; exact hh)⟩
  · refine ⟨_, c1, _, c2, _, c1, _, c2, srenameG_wp E1 R Rd o fun v1 r1 h33 R1 E2 => ?_⟩
    obtain ⟨_, d1, d2, d3⟩ := cells rfl E2
    refine ⟨d1, d2, d1, d2, rrename_wp E2 o (up_app _ hq1) fun h41 E3 => ?_⟩
    obtain ⟨_, g1, g2, g3, hh⟩ := done (by unfold opD; rw [if_neg n0, if_neg n1, if_neg n2, if_neg n3, if_pos e4]) R1 E3
    exact ⟨g1, g2, g1, g2, Fin.of (by rw [decide_eq_true rfl]; exact hh)⟩
  · have e : opD l d c = d := by unfold opD; rw [if_neg n0, if_neg n1, if_neg n2, if_neg n3, if_neg n4]
    rw [e, set_same hq] at hQ
    exact hQ _ _ _ Rd E1.dP
def docU (c : FL) : List Value := filesC c ++ filesC c ++ (List.replicate 6 false).flatMap wcl
theorem docU_eq (h6 : z.length = 6) : docU z = docC z (fsOf z []) (wsOf z []) := by
  have e1 : (fsOf z []).flatMap fcl = filesC z := by
    have : fsOf z [] = z.map (·.1) := by
      apply List.ext_getElem?
      intro i
      by_cases hi : i < 6
      · rw [fsOf_get hi, getS_none rfl, fileAt_in (by omega) (by rw [Int.toNat_natCast]; omega), List.getElem?_map, List.getElem?_eq_getElem (by omega)]; rfl
      · rw [List.getElem?_eq_none (by rw [fsOf_len]; omega), List.getElem?_eq_none (by rw [List.length_map]; omega)]
    rw [this, filesC, List.flatMap_map]; rfl
  have e2 : wsOf z [] = List.replicate 6 false := by rfl
  rw [docU, docC, e1, e2]
theorem build2_wp {Q : Option Addr → Option Addr → Option Addr → Bool → Heap → Prop} (E : Keep B h0 L h) (h6 : z.length = 6) (hv : ∀ q x, z[q]? = some x → x.2 = ((q : Nat) : Int)) (hN : ∀ h', Keep B h0 L h' → Q none none none false h')
    (hS : ∀ (x : ShI) kd h', SOk z [] → FRow x.rt x.vt z → Keep B h0 ((L ++ [some (kd, docO z [])]) ++ x.m (.slice none 0 0) none) h' → Q (some ⟨x.kT, 0, none⟩) (some ⟨x.ks, 0, none⟩) (some ⟨kd, 0, none⟩) true h') : C_countermandlaw14_build B (filesC z) h Q := by
  refine C_countermandlaw14_build.of ?_
  unfold S_countermandlaw14_build
  have hzl := filesC_len z
  intro k6 a6 b6 h7 e7
  have E1 := E.start.nM a6 b6 e7
  refine tnew_wp fun kT kR v r h8 R E2 => ?_
  have E3 := E1.append E2
  rw [List.append_assoc] at E3
  intro k10 a10 b10 h11 e11
  have E4 := E3.nM a10 b10 e11
  refine ⟨filesC z, by omega, blk_cells (E4.gM 0 rfl), ?_⟩
  refine ⟨fun ix m h' => ∃ (j : Nat) (r : Option (Nat × AObj)), j ≤ 6 ∧ ix = j ∧ m = 6 - j ∧ (∀ y ∈ z.take j, goodF y.1.1 y.1.2 = true) ∧ FRow r v (z.take j ++ zF.drop j) ∧ Keep B h0 (L ++ [some (kT, tomO kR), some (kR, frO v), r, some (k10, .vec TY.countermandref14_Sheet (plains (docU (z.take j ++ zF.drop j))) 30)]) h', 6, Fin.of ⟨0, r, by omega, rfl, by omega, fun y hy => (by simp at hy), R, E4.sM [1, 2, 3, 4] (by decide)⟩, ?_⟩
  clear E1 E2 E3 E4 e7 e11 R
  rintro _ _ h18 ⟨j, r, hj, rfl, rfl, hgd, R, E⟩
  have hcl : (z.take j ++ zF.drop j).length = 6 := by
    rw [List.length_append, List.length_take, List.length_drop, h6]; show min j 6 + (6 - j) = 6; omega
  refine ⟨fun hlt => ?_, fun hge => Fin.of ?_⟩
  · have hj' : j < z.length := by omega
    have hw : IntKind.wrap .i64 ((j : Int) + 1) = ((j + 1 : Nat) : Int) := by rw [w64 (by omega) (by omega)]; omega
    have hx := List.getElem?_eq_getElem hj'
    have hv0 := hv j _ hx
    generalize z[j] = y at hx hv0
    obtain ⟨⟨fb, fs⟩, fv⟩ := y
    simp only at hv0
    subst hv0
    refine ⟨by omega, by omega, fb, fs, by rw [Int.toNat_natCast]; exact extract_files z j _ hx, fun k26 a26 b26 h27 e27 => ?_⟩
    have E1 := E.nM a26 b26 e27
    refine ⟨_, stores_whole (E1.gM 4 rfl) rfl (by simp) (by simp [isOne]) (by simp), ?_⟩
    have E2 := E1.pM (o' := fO (fb, fs)) 4 rfl
    refine ⟨fb, fs, ⟨E2.cM 4 rfl (i := 0) rfl, E2.cM 4 rfl (i := 1) rfl, trivial⟩, ?_⟩
    refine tset_wp (i := L.length) E2 ⟨upM 0 rfl, ⟨upM 1 rfl, upM 2 rfl⟩⟩ R fun r' h31 R' E3 => ⟨fun hb => ?_, fun hb => ?_⟩
    · rw [setF, if_pos hb, Int.toNat_natCast, cur_set z zF (by rw [h6]; rfl) hx] at R'
      rw [setM] at E3
      refine ⟨fb, fs, ⟨E3.cM 4 rfl (i := 0) rfl, E3.cM 4 rfl (i := 1) rfl, trivial⟩, by omega, by omega, ?_⟩
      rw [Int.toNat_natCast, addr_more, addr_more, Nat.zero_add]
      generalize hcc : z.take j ++ zF.drop j = c at *
      have hc2 : c.set j ((fb, fs), ((j : Nat) : Int)) = z.take (j + 1) ++ zF.drop (j + 1) := by rw [← hcc]; exact cur_set z zF (by rw [h6]; rfl) hx
      have q1 : (L ++ ([some (kT, tomO kR), some (kR, frO v), r, some (k10, AObj.vec TY.countermandref14_Sheet (plains (docU c)) 30), some (k26, fO (fb, fs))].set 2 r'))[L.length + 3]? = some (some (k10, .vec TY.countermandref14_Sheet (plains ([] ++ c.flatMap fileC ++ (filesC c ++ (List.replicate 6 false).flatMap wcl))) 30)) := by
        have : docU c = [] ++ c.flatMap fileC ++ (filesC c ++ (List.replicate 6 false).flatMap wcl) := by unfold docU filesC; rw [List.append_assoc, List.nil_append]
        rw [← this]; exact upM 3 rfl
      obtain ⟨h35, st, E4⟩ := E3.midSet (cells := fileC) ((fb, fs), ((j : Nat) : Int)) fileC_len (by simp [fileC, isOne]) q1 (i := j) (o := j * 2) (by omega) (by simp) (by simp; omega)
      rw [hc2] at E4
      have q2 := q1
      have c1 : CellsAt B h35 ⟨k10, j * 2, none⟩ 0 [.bool fb, .string fs] := by
        refine E4.mid (cells := fileC) (xs := z.take (j + 1) ++ zF.drop (j + 1)) (x := ((fb, fs), ((j : Nat) : Int))) fileC_len (List.getElem?_set_self (by simp)) (i := j) ?_ (by simp)
        rw [← hc2]; exact List.getElem?_set_self (by omega)
      have q3 : ((L ++ ([some (kT, tomO kR), some (kR, frO v), r, some (k10, AObj.vec TY.countermandref14_Sheet (plains (docU c)) 30), some (k26, fO (fb, fs))].set 2 r')).set (L.length + 3) (some (k10, .vec TY.countermandref14_Sheet (plains ([] ++ (z.take (j + 1) ++ zF.drop (j + 1)).flatMap fileC ++ (filesC c ++ (List.replicate 6 false).flatMap wcl))) 30)))[L.length + 3]? = some (some (k10, .vec TY.countermandref14_Sheet (plains (filesC (z.take (j + 1) ++ zF.drop (j + 1)) ++ c.flatMap fileC ++ (List.replicate 6 false).flatMap wcl)) 30)) := by
        rw [List.getElem?_set_self (by simp), List.nil_append, List.append_assoc]; rfl
      have hcl2 : (z.take (j + 1) ++ zF.drop (j + 1)).length = 6 := by rw [← hc2, List.length_set]; exact hcl
      obtain ⟨h38, st2, E5⟩ := E4.midSet (cells := fileC) ((fb, fs), ((j : Nat) : Int)) fileC_len (by simp [fileC, isOne]) q3 (i := j) (o := 12 + j * 2) (by omega) (by rw [filesC_len, hcl2]) (by rw [filesC_len, hcl2, hcl]; omega)
      rw [hc2, List.set_set, setM] at E5
      refine ⟨h35, st, by omega, by omega, fb, fs, c1, by omega, by omega, h38, st2, Fin.of ⟨6 - (j + 1), by omega, j + 1, r', by omega, hw, rfl, fun y hy => ?_, R', ?_⟩⟩
      · rw [List.take_succ_eq_append_getElem hj', List.mem_append, List.mem_singleton] at hy
        rcases hy with hy | rfl
        · exact hgd y hy
        · have hz : z[j] = ((fb, fs), ((j : Nat) : Int)) := by rw [List.getElem?_eq_getElem hj'] at hx; exact Option.some.inj hx
          rw [hz]
          unfold setB at hb
          rw [Bool.and_eq_true] at hb
          exact hb.1
      · exact E5.tM 4
    · rw [setM] at E3
      exact Fin.of (hN _ E3.zM)
  · have : j = 6 := by omega
    subst this
    have e1 : z.take 6 ++ zF.drop 6 = z := by rw [← h6, List.take_length, List.drop_of_length_le (by rw [h6]; exact Nat.le_refl 6), List.append_nil]
    rw [e1] at R E
    rw [docU_eq h6] at E
    have hgd : ∀ y ∈ z, goodF y.1.1 y.1.2 = true := fun y hy => hgd y (by rw [← h6, List.take_length]; exact hy)
    unfold S_countermandlaw14_build_J1
    refine snew_wp fun ks kf h14 E1 => Fin.of (hS ⟨kT, kR, v, r, ks, kf⟩ k10 h14 ⟨List.Pairwise.nil, fun x hx => (by cases hx), h6, hgd⟩ R ?_)
    have E2 := E.append E1
    rw [List.append_assoc] at E2
    rw [List.append_assoc]
    exact E2.sM [3, 0, 1, 2, 4, 5, 6] (by decide)
end
end Go.Proofs.Ytcncdfmnpmmikaa.H
namespace Go.Proofs.Ytcncdfmnpmmikaa.H
open Go Go.RowKit
set_option linter.unusedVariables false
set_option maxRecDepth 100000
def apD (ver : Int) (l : FL) (d : DFL) : FL := d.foldl (fun l x => setF l x.1 x.2.1 x.2.2 ver) l
theorem apD_len (ver : Int) : ∀ (d : DFL) (l : FL), (apD ver l d).length = l.length := by
  intro d
  induction d with
  | nil => intro l; rfl
  | cons x d ih => intro l; exact (ih _).trans (setF_len _ _ _ _ _)
theorem apD_take {ver : Int} {l : FL} {d : DFL} {j : Nat} {x : Int × FileS} (h : d[j]? = some x) : apD ver l (d.take (j + 1)) = setF (apD ver l (d.take j)) x.1 x.2.1 x.2.2 ver := by
  obtain ⟨h1, rfl⟩ := List.getElem?_eq_some_iff.1 h
  rw [List.take_succ_eq_append_getElem h1, apD, List.foldl_append]; rfl
theorem fileAt_set {l : FL} {n i ver : Int} {b : Bool} {s : ByteArray} (h : setB l n b s = true) : fileAt (setF l n b s ver) i = if i = n then ((b, s), ver) else fileAt l i := by
  rw [setF, if_pos h]
  unfold setB at h
  simp only [Bool.and_eq_true, decide_eq_true_eq] at h
  obtain ⟨_, h1, h2⟩ := h
  by_cases e : i = n
  · subst e
    rw [if_pos rfl, fileAt_in h1 (by rw [List.length_set]; omega), List.getElem_set_self]
  · rw [if_neg e]
    by_cases hi : 0 ≤ i ∧ i < (l.length : Int)
    · rw [fileAt_in hi.1 (by rw [List.length_set]; omega), fileAt_in hi.1 (by omega), List.getElem_set_ne (by omega)]
    · rw [fileAt_out (by rw [List.length_set]; exact hi), fileAt_out hi]
theorem atD_cons {x : Int × FileS} {d : DFL} {i : Int} : atD (x :: d) i = if x.1 = i then some x.2 else atD d i := by
  unfold atD
  rw [List.find?_cons]
  by_cases e : x.1 = i
  · simp [e]
  · have : (x.1 == i) = false := by simpa using e
    simp [this, e]
theorem apD_at {ver i : Int} : ∀ (d : DFL) (l : FL), SOk l d → fileAt (apD ver l d) i = match atD d i with | some f => (f, ver) | none => fileAt l i := by
  intro d
  induction d with
  | nil => intro l _; rfl
  | cons x d ih =>
    intro l o
    obtain ⟨s1, s2⟩ := List.pairwise_cons.1 o.s
    have hx := o.k x (by simp)
    have hb : setB l x.1 x.2.1 x.2.2 = true := by unfold setB; rw [hx.2, Bool.true_and, decide_eq_true_eq, o.l6]; exact hx.1
    have o2 : SOk (setF l x.1 x.2.1 x.2.2 ver) d := ⟨s2, fun y hy => o.k y (by simp [hy]), by rw [setF_len]; exact o.l6, fun y hy => by
      rw [setF, if_pos hb] at hy
      rcases List.mem_or_eq_of_mem_set hy with hy | rfl
      · exact o.g y hy
      · exact hx.2⟩
    have := ih _ o2
    show fileAt (apD ver (setF l x.1 x.2.1 x.2.2 ver) d) i = _
    rw [this, atD_cons]
    by_cases e : x.1 = i
    · rw [if_pos e, atD_lo (fun y hy => by have := s1 y hy; omega)]
      simp only
      rw [fileAt_set hb, if_pos e.symm]
    · rw [if_neg e]
      cases atD d i with
      | some f => rfl
      | none => simp only; rw [fileAt_set hb, if_neg (fun x => e x.symm)]
def cntD (d : DFL) (j : Nat) : Nat := (d.filter fun x => decide (x.1 < (j : Int))).length
theorem cntD_succ : ∀ (d : DFL) (j : Nat), SortD d → cntD d (j + 1) = cntD d j + (if (atD d j).isSome = true then 1 else 0) := by
  intro d
  induction d with
  | nil => intro j _; rfl
  | cons x d ih =>
    intro j s
    obtain ⟨s1, s2⟩ := List.pairwise_cons.1 s
    have h := ih j s2
    unfold cntD at *
    rw [atD_cons, List.filter_cons, List.filter_cons]
    rcases Int.lt_trichotomy x.1 (j : Int) with e | e | e
    · have t1 : decide (x.1 < ((j + 1 : Nat) : Int)) = true := decide_eq_true (by omega)
      have t2 : decide (x.1 < (j : Int)) = true := decide_eq_true e
      have t3 : ¬ x.1 = (j : Int) := by omega
      simp only [t1, t2, t3, if_true, if_false, List.length_cons, h]; omega
    · have h0 := atD_lo (l := d) (i := (j : Int)) (fun y hy => by have := s1 y hy; omega)
      rw [h0] at h
      have t1 : decide (x.1 < ((j + 1 : Nat) : Int)) = true := decide_eq_true (by omega)
      have t2 : decide (x.1 < (j : Int)) = false := decide_eq_false (by omega)
      have t3 : (if x.1 = (j : Int) then some x.2 else atD d (j : Int)) = some x.2 := if_pos e
      simp only [t1, t2, t3, if_true, List.length_cons, h, Option.isSome_some, Option.isSome_none, Bool.false_eq_true, if_false]
    · have t1 : decide (x.1 < ((j + 1 : Nat) : Int)) = false := decide_eq_false (by omega)
      have t2 : decide (x.1 < (j : Int)) = false := decide_eq_false (by omega)
      have t3 : ¬ x.1 = (j : Int) := by omega
      simp only [t1, t2, t3, if_false, Bool.false_eq_true, h]
theorem cntD_zero {l : FL} {d : DFL} (o : SOk l d) : cntD d 0 = 0 := by
  unfold cntD
  rw [List.length_eq_zero_iff, List.filter_eq_nil_iff]
  intro x hx
  have := (o.k x hx).1
  simp; omega
theorem cntD_six {l : FL} {d : DFL} (o : SOk l d) : cntD d 6 = d.length := by
  unfold cntD
  rw [List.filter_eq_self.2 (fun x hx => by have := (o.k x hx).1; simp; omega)]
theorem getS_snd (l : FL) (d : DFL) (n : Int) : (getS l d n).2 = (atD d n).isSome := by
  cases h : atD d n with
  | some f => rw [getS_some h]; rfl
  | none => rw [getS_none h]; rfl
section
variable {B : RO} {h0 h h' : Heap} {L : List (Option (Nat × AObj))} {r rd : Option (Nat × AObj)} {v vd : Value} {l z : FL} {d : DFL} {n ver : Int} {x : ShI} {f : FileS} {q kd c : Nat} {a : Option Addr} {xs : List SCall}
def ShI.w (x : ShI) (r : Option (Nat × AObj)) : ShI := { x with rt := r }
theorem sdraft_wp {Q : Option Addr → Heap → Prop} (E : Keep B h0 (L ++ x.m vd rd) h) (hQ : Q (some ⟨x.kf, 0, none⟩) h) : C_sheet_Sheet_Draft B (some ⟨x.ks, 0, none⟩) h Q := by
  refine C_sheet_Sheet_Draft.of ?_
  unfold S_sheet_Sheet_Draft
  exact ⟨fun e => (by cases e), fun _ => ⟨_, rfl, _, E.cM 3 rfl (i := 0) rfl, Fin.of hQ⟩⟩
theorem sover_wp {Q : Int → Heap → Prop} (E : Keep B h0 (L ++ x.m vd rd) h) (R : FRow x.rt x.vt l) (Rd : DRow_file_File rd vd d) (o : SOk l d)
    (hQ : ∀ r' h', FRow r' x.vt (apD ver l d) → Keep B h0 (L ++ (x.w r').m vd rd) h' → Q (d.length : Nat) h') : C_sheet_Sheet_Over B (some ⟨x.ks, 0, none⟩) (some ⟨x.kT, 0, none⟩) ver h Q := by
  have hl := o.len
  refine C_sheet_Sheet_Over.of ?_
  unfold S_sheet_Sheet_Over
  intro k5 a5 b5 h6 e6 k7 a7 b7 h8 e8 k9 a9 b9 h10 e10
  have E1 := ((E.nM a5 b5 e6).nM a7 b7 e8).nM a9 b9 e10
  refine ⟨_, storeH_vec (E1.gM 8 rfl) rfl, ?_⟩
  have E2 := E1.pM (o' := .vec TY.int (plains [.int .i64 0]) 1) 8 rfl
  refine sdraft_wp (x := x) (vd := vd) (rd := rd) (L := L) (E2.tM 6) (fdall_wp fun kc ac bc => ?_)
  have E3 := E2.nM (o := .vec TY.p_draft_Draft_file_File [.plain (.pointer (some ⟨x.kf, 0, none⟩))] 1) ac bc rfl
  refine ⟨d, fdG kc x.kf vd rd, fun q h' => ∃ r', q ≤ d.length ∧ FRow r' x.vt (apD ver l (d.take q)) ∧ Keep B h0 (L ++ ((x.w r').m vd rd ++ [some (k5, .vec TY.p_tome_Tome [.plain (.pointer (some ⟨x.kT, 0, none⟩))] 1), some (k7, .vec TY.int [.plain (.int .i64 ver)] 1), some (k9, .vec TY.int (plains [.int .i64 ((q : Nat) : Int)]) 1), some (kc, .vec TY.p_draft_Draft_file_File [.plain (.pointer (some ⟨x.kf, 0, none⟩))] 1)])) h', fdall_iter (k := x.kf) Rd (by omega), fdG_ins, ?_, Fin.of ⟨x.rt, by omega, R, E3⟩, ?_, ?_⟩
  · rintro q h' ⟨r', _, _, E⟩
    exact ⟨E.gM 9 rfl, E.gM 4 rfl, fun k o e => E.gM 5 (by show some rd = _; rw [e])⟩
  · clear E1 E2 E3
    rintro q h20 i16 b17 s18 hg ⟨r1, hq, R1, E⟩
    have hq' := (List.getElem?_eq_some_iff.1 hg).1
    have gx := o.k _ (List.mem_of_getElem? hg)
    simp only at gx
    intro k24 a24 b24 h25 e25
    have E1 := E.nM a24 b24 e25
    refine ⟨_, stores_whole (E1.gM 10 rfl) rfl (by simp) (by simp [isOne]) (by simp), ?_⟩
    have E2 := E1.pM (o' := fO (b17, s18)) 10 rfl
    refine ⟨_, E2.cM 6 rfl (i := 0) rfl, _, _, ⟨E2.cM 10 rfl (i := 0) rfl, E2.cM 10 rfl (i := 1) rfl, trivial⟩, _, E2.cM 7 rfl (i := 0) rfl, ?_⟩
    refine tset_wp (i := L.length) E2 ⟨upM 0 rfl, ⟨upM 1 rfl, upM 2 rfl⟩⟩ R1 fun r2 h31 R2 E3 => ?_
    have hb : setB (apD ver l (d.take q)) i16 b17 s18 = true := by
      unfold setB; rw [gx.2, Bool.true_and, decide_eq_true_eq, apD_len, o.l6]; exact gx.1
    rw [setM] at E3
    rw [hb]
    refine ⟨fun _ => ⟨_, E3.cM 8 rfl (i := 0) rfl, _, storeH_vec (E3.gM 8 rfl) rfl, Fin.of ⟨r2, by omega, ?_, ?_⟩⟩, fun e => by cases e⟩
    · rw [apD_take hg]; exact R2
    · have e1 : IntKind.wrap .i64 (((q : Nat) : Int) + 1) = ((q + 1 : Nat) : Int) := by rw [w64 (by omega) (by omega)]; omega
      have E4 := (E3.pM (o' := .vec TY.int (plains [.int .i64 (IntKind.wrap .i64 (((q : Nat) : Int) + 1))]) 1) 8 rfl).tM 10
      rw [e1] at E4 ⊢
      exact E4
  · rintro h20 ⟨r1, _, R1, E⟩
    rw [List.take_length] at R1
    exact ⟨_, E.cM 8 rfl (i := 0) rfl, Fin.of (hQ r1 _ R1 (E.tM 6))⟩
theorem Over_J3 {i24 : Nat} {i22 i33 w : Int} {m26 k34 : Nat} {J : Int → Int → Nat → Heap → Prop} {i38 : Int} {Q : Bool → Heap → Prop} {g : FileS} (E : Keep B h0 ((L ++ [some (kd, docO l d)]) ++ ((x.m vd rd) ++ [some (k34, fO g)])) h) (h6 : l.length = 6) (hi : i24 < 6) (hg : g = (getS l d i24).1) (hv : i33 = w)
    (hJ : Keep B h0 ((L ++ [some (kd, docO l d)]) ++ x.m vd rd) h → ∃ m', m' < m26 ∧ J i38 (IntKind.wrap .i64 (((i24 : Nat) : Int) + 1)) m' h) : S_countermandlaw14_SheetOver_J3 B ver (some ⟨x.kT, 0, none⟩) (some ⟨kd, 0, none⟩) i22 (i24 : Int) m26 J i33 k34 i38 w h Q := by
  unfold S_countermandlaw14_SheetOver_J3
  have hq : ((L ++ [some (kd, docO l d)]) ++ ((x.m vd rd) ++ [some (k34, fO g)]))[L.length]? = some (some (kd, docO l d)) := up_app _ (by rw [List.getElem?_append_right (Nat.le_refl _), Nat.sub_self]; rfl)
  refine ⟨_, _, ⟨E.cM 6 rfl (i := 0) rfl, E.cM 6 rfl (i := 1) rfl, trivial⟩, _, rfl, by omega, by omega, _, _, by rw [Int.toNat_natCast]; exact doc_file E h6 hq hi, fun _ => ⟨fun _ => Fin.of (hJ (E.tM 6)), fun hn => absurd hv hn⟩, fun hn => absurd ?_ hn⟩
  rw [hg]; exact eqL_refl _ _
theorem Over_J2 {Q : Bool → Heap → Prop} (E : Keep B h0 ((L ++ [some (kd, docO l d)]) ++ x.m vd rd) h) (R : FRow x.rt x.vt l) (Rd : DRow_file_File rd vd d) (o : SOk l d) (hv : ∀ q x, l[q]? = some x → x.2 = ((q : Nat) : Int)) (hQ : Q true h0) :
    S_countermandlaw14_SheetOver_J2 B ver (some ⟨x.kT, 0, none⟩) (some ⟨x.ks, 0, none⟩) (some ⟨kd, 0, none⟩) h Q := by
  unfold S_countermandlaw14_SheetOver_J2
  refine sover_wp E R Rd o fun r' h21 R' E1 => ?_
  refine ⟨fun k i m h' => ∃ j : Nat, j ≤ 6 ∧ i = j ∧ k = (cntD d j : Nat) ∧ m = 6 - j ∧ Keep B h0 ((L ++ [some (kd, docO l d)]) ++ (x.w r').m vd rd) h', 6, Fin.of ⟨0, by omega, rfl, by rw [cntD_zero o]; rfl, by omega, E1⟩, ?_⟩
  clear E E1
  rintro _ _ _ h25 ⟨j, hj, rfl, rfl, rfl, E⟩
  refine ⟨fun hlt => ?_, fun hge => ?_⟩
  · have hw : IntKind.wrap .i64 ((j : Int) + 1) = ((j + 1 : Nat) : Int) := by rw [w64 (by omega) (by omega)]; omega
    have hcl : cntD d j ≤ d.length := List.length_filter_le _ _
    have hdl := o.len
    have hat := apD_at (ver := ver) (i := (j : Int)) d l o
    refine tget_wp (i := (L ++ [some (kd, docO l d)]).length) E ⟨upM 0 rfl, ⟨upM 1 rfl, upM 2 rfl⟩⟩ R' fun h30 E1 => ?_
    intro k34 a34 b34 h35 e35
    have E2 := E1.nM a34 b34 e35
    refine ⟨_, stores_whole (E2.gM 6 rfl) rfl (by simp) (by simp [isOne]) (by simp), ?_⟩
    have E3 := E2.pM (o' := fO (fileAt (apD ver l d) j).1) 6 rfl
    have hq : ((L ++ [some (kd, docO l d)]) ++ (((x.w r').m vd rd) ++ [some (k34, fO (fileAt (apD ver l d) j).1)]))[L.length]? = some (some (kd, docO l d)) := up_app _ (by rw [List.getElem?_append_right (Nat.le_refl _), Nat.sub_self]; rfl)
    have hs := cntD_succ d j o.s
    have hg : (fileAt (apD ver l d) j).1 = (getS l d j).1 := by
      rw [hat]
      cases h : atD d (j : Int) with
      | some f => rw [getS_some h]
      | none => rw [getS_none h]
    refine ⟨_, rfl, by omega, by omega, _, by rw [Int.toNat_natCast]; exact doc_wr E3 o.l6 hq (by omega), fun hb => Fin.of ?_, fun hb => Fin.of ?_⟩
    · rw [getS_snd] at hb
      refine Over_J3 (x := x.w r') E3 o.l6 (by omega) hg ?_ fun K => ⟨6 - (j + 1), by omega, j + 1, by omega, hw, ?_, rfl, K⟩
      · obtain ⟨f, hf⟩ := Option.isSome_iff_exists.1 hb
        rw [hat, hf]
      · rw [hs, if_pos hb, w64 (by omega) (by omega)]; omega
    · rw [getS_snd] at hb
      have hn : atD d (j : Int) = none := by simpa using hb
      refine Over_J3 (x := x.w r') E3 o.l6 (by omega) hg ?_ fun K => ⟨6 - (j + 1), by omega, j + 1, by omega, hw, ?_, rfl, K⟩
      · rw [hat, hn]
        have hj6 : j < l.length := by rw [o.l6]; omega
        simp only
        rw [fileAt_in (by omega) (by rw [Int.toNat_natCast]; exact hj6)]
        have := hv j _ (List.getElem?_eq_getElem hj6)
        simpa using this
      · rw [hs, if_neg (by rw [hn]; simp)]; omega
  · have : j = 6 := by omega
    subst this
    rw [cntD_six o]
    refine Fin.ent E.back (Fin.of ?_)
    simpa using hQ
theorem SheetOver_wp {Q : Bool → Heap → Prop} (hr : Reads B h a 4 SCall.cells xs) (h6 : z.length = 6) (hv : ∀ q x, z[q]? = some x → x.2 = ((q : Nat) : Int)) (hQ : Q true h) : C_countermandlaw14_SheetOver B (filesC z) a xs.length c ver h Q := by
  refine C_countermandlaw14_SheetOver.of ?_
  unfold S_countermandlaw14_SheetOver
  intro k7 a7 b7 h8 e8
  have hzl := filesC_len z
  have E0 : Keep B h [some (k7, afB z)] h8 := by
    have := (Keep.nil B h).made a7 b7 e8
    rw [show (filesC z).length = 12 by omega] at this
    unfold afB; rw [List.append_nil]; exact this
  refine alive14_wp fun h9 E1 => ⟨fun _ => ?_, fun e => by cases e⟩
  have E2 : Keep B h [some (k7, afB z)] h9 := E0.append E1
  refine ⟨filesC z, by omega, E2.cellsP (zs := []) 0 rfl, ?_⟩
  refine build2_wp E2 h6 hv (fun h12 E3 => ⟨fun e => (by cases e), fun _ => Fin.ent E3.back (Fin.of hQ)⟩) fun x kd h12 o R E3 => ⟨fun _ => ⟨fun _ => Fin.ent E3.back (Fin.of hQ), fun hle => Fin.of ?_⟩, fun e => by cases e⟩
  unfold S_countermandlaw14_SheetOver_J1
  refine ⟨fun i m h' => ∃ (j : Nat) (vd : Value) (rd : Option (Nat × AObj)), j ≤ xs.length ∧ i = j ∧ m = xs.length - j ∧ DRow_file_File rd vd (opsD z [] (xs.take j)) ∧ Keep B h (([some (k7, afB z)] ++ [some (kd, docO z (opsD z [] (xs.take j)))]) ++ x.m vd rd) h', xs.length, Fin.of ⟨0, _, _, by omega, rfl, rfl, Row.nil _ _, E3⟩, ?_⟩
  clear E0 E1 E2 E3
  rintro _ _ h53 ⟨j, vd, rd, hj, rfl, rfl, Rd, E⟩
  refine ⟨fun hlt => ?_, fun hge => Fin.of ?_⟩
  · have hj' : j < xs.length := by omega
    have hw : IntKind.wrap .i64 ((j : Int) + 1) = ((j + 1 : Nat) : Int) := by rw [w64 (by omega) (by omega)]; omega
    have hx := List.getElem?_eq_getElem hj'
    generalize xs[j] = sc at hx
    obtain ⟨A, e1, _, e4⟩ := hr j sc hx
    refine ⟨A, e1, by omega, hlt, _, _, _, _, by rw [Int.toNat_natCast]; exact E.w.cells e4, fun k64 a64 b64 h65 e65 => ?_⟩
    have E1 := E.nM a64 b64 e65
    refine ⟨_, stores_whole (E1.gM 6 rfl) rfl (by simp) (by simp [isOne]) (by simp), ?_⟩
    have E2 := E1.pM (o' := .vec TY.countermandlaw14_Call (plains sc.cells) 4) 6 rfl
    refine ⟨_, _, _, _, ⟨E2.cM 6 rfl (i := 0) rfl, E2.cM 6 rfl (i := 1) rfl, E2.cM 6 rfl (i := 2) rfl, E2.cM 6 rfl (i := 3) rfl, trivial⟩, ?_⟩
    refine does14_wp (q := 1) (E2.tM 6) R Rd (o.ops _) rfl fun v1 r1 h71 R1 E3 => Fin.of ⟨xs.length - (j + 1), by omega, j + 1, v1, r1, by omega, hw, rfl, ?_, ?_⟩
    · rw [opsD_take hx]; exact R1
    · rw [opsD_take hx]; exact E3
  · have : j = xs.length := by omega
    subst this
    rw [List.take_length] at E Rd
    exact Over_J2 E R Rd (o.ops _) hv hQ
end
theorem SheetOver_calls {H : Type} {enc : TypeId × Value → H} (W : World) {cs : Array Value} {d' : DataW H} {p' : List MemPlace} (k' : DataW.Trod enc PG W 0 (fun _ => true) true TY.a_6_file_File (.agg cs) d' p') {a : Option Addr} {len cap : Nat} {d2 : DataW H} {p2 : List MemPlace} (k2 : DataW.Trod enc PG W 0 (fun _ => true) true TY.s_countermandlaw14_Call (.slice a len cap) d2 p2) (n : Int) (wn : (Lit.int .i64 n).wf = true) :
    Calls PG FN.countermandlaw14_SheetOver #[.agg cs, .slice a len cap, .int .i64 n] W fun e w' => e = .returned (.bool true) ∧ Below W.heap.size W w' := by
  obtain ⟨z, h6, hv, rfl⟩ := Files_arg k'
  obtain ⟨xs, rfl, hr⟩ := SCall_arg k2
  refine Spec.calls (Spec.mono (SheetOver_wp (Q := fun b _ => b = true) (c := cap) hr h6 hv rfl) ?_)
  rintro v h' ⟨b, rfl, rfl⟩
  rfl
end Go.Proofs.Ytcncdfmnpmmikaa.H
