/- What the law's proof stands on, part 6. No condition. -/
import Derived.Test.YtgldgabefiialaaGreatG5
namespace Go.Proofs.YtgldgabefiialaaGreat.H
open Go
set_option linter.unusedVariables false
set_option maxRecDepth 100000
set_option maxHeartbeats 4000000
theorem C_sheet_Sheet_Get.of {B : RO} {p1 : Option Addr} {p2 : Option Addr} {i3 : Int} {h : Heap} {Q : Bool → ByteArray → Bool → Heap → Prop} (s : S_sheet_Sheet_Get B p1 p2 i3 h Q) : C_sheet_Sheet_Get B p1 p2 i3 h Q := by
 refine zspec Tryz.func121 [ResultVar.cell 6 119, ResultVar.tmp 7] rfl rfl rfl rfl rfl ?_
 refine au 2 rfl ?_
 refine zal s rfl TF.zero_119 rfl fun k7 h8 s => ?_
 refine au 2 rfl ?_
 refine Run.seqJ (fun e h10 => Agree [(1, (.pointer p2)), (2, (.int .i64 (i3))), (6, (.pointer (some ⟨k7, 0, none⟩)))] e ∧ S_sheet_Sheet_Get_J1 B p2 i3 k7 h10 Q) ?_ fun j9 => ?_
 ·rintro e h10 ⟨hag, s⟩
  refine Run.env hag ?_; clear hag
  refine au 4 rfl ?_
  refine zcall s rfl rfl TF.goes_49 ?_
  rintro _ h11 ⟨b12, s13, i14, rfl, s⟩
  refine au 3 rfl ?_
  refine zal s rfl TF.zero_119 rfl fun k15 h16 s => ?_
  refine zsn s rfl rfl rfl TF.sz_119 rfl fun h17 s => ?_
  refine au 4 rfl ?_
  obtain ⟨b18, s19, hl, s⟩ := s
  refine zn hl rfl rfl TF.agg_119 TF.sz_119 rfl ?_
  refine zsn s rfl rfl rfl TF.sz_119 rfl fun h20 s => ?_
  refine au 2 rfl ?_
  obtain ⟨b21, s22, hl0, s⟩ := s
  exact zr (⟨⟨k7, 0, none⟩, (.agg #[(.bool b21), (.string s22)]), rfl, loadHN TF.agg_119 TF.sz_119 hl0, s.imp fun _ q => ⟨_, _, _, rfl, q⟩⟩)
 refine au 3 rfl ?_
 by_cases hb23 : p1 = none
 ·replace s := s.1 hb23
  refine zg rfl (sem_ptrNilT p1 (.inr rfl) false rfl rfl TF.ptr_92 hb23 rfl ?_)
  refine au 3 rfl ?_
  exact Run.of_fin (s.imp fun h' s => j9 _ _ ⟨⟨rfl, rfl, rfl, trivial⟩, s⟩)
 ·replace s := s.2 hb23
  refine zg rfl (sem_ptrNilF p1 (.inr rfl) true rfl rfl TF.ptr_92 hb23 rfl ?_)
  refine au 5 rfl ?_
  refine znil s rfl rfl fun A24 s => ?_
  refine au 1 rfl ?_
  refine zl s rfl rfl TF.agg_157 fun p26 s => ?_
  refine au 1 rfl ?_
  refine zcall s rfl rfl TF.goes_134 ?_
  rintro _ h27 ⟨b28, s29, b30, rfl, s⟩
  refine au 2 rfl ?_
  cases b30
  ·replace s := s.2 rfl
   refine au 1 rfl ?_
   refine zal s rfl TF.zero_119 rfl fun k31 h32 s => ?_
   refine zsn s rfl rfl rfl TF.sz_119 rfl fun h33 s => ?_
   refine au 8 rfl ?_
   exact Run.of_fin (s.imp fun h' s => j9 _ _ ⟨⟨rfl, rfl, rfl, trivial⟩, s⟩)
  ·replace s := s.1 rfl
   refine au 1 rfl ?_
   refine zal s rfl TF.zero_119 rfl fun k34 h35 s => ?_
   refine zsn s rfl rfl rfl TF.sz_119 rfl fun h36 s => ?_
   refine au 9 rfl ?_
   obtain ⟨b37, s38, hl, s⟩ := s
   refine zn hl rfl rfl TF.agg_119 TF.sz_119 rfl ?_
   refine zsn s rfl rfl rfl TF.sz_119 rfl fun h39 s => ?_
   refine au 2 rfl ?_
   obtain ⟨b40, s41, hl0, s⟩ := s
   exact zr (⟨⟨k7, 0, none⟩, (.agg #[(.bool b40), (.string s41)]), rfl, loadHN TF.agg_119 TF.sz_119 hl0, s.imp fun _ q => ⟨_, _, _, rfl, q⟩⟩)
theorem C_sheet_Sheet_put.of {B : RO} {p1 : Option Addr} {p2 : Option Addr} {i3 : Int} {b4 : Bool} {s5 : ByteArray} {h : Heap} {Q : Bool → Heap → Prop} (s : S_sheet_Sheet_put B p1 p2 i3 b4 s5 h Q) : C_sheet_Sheet_put B p1 p2 i3 b4 s5 h Q := by
 refine zspec Tryz.func122 [ResultVar.tmp 8] rfl rfl rfl rfl rfl ?_
 refine au 2 rfl ?_
 refine zbn s rfl rfl rfl fun k7 h8 s => ?_
 refine au 2 rfl ?_
 refine Run.seqJ (fun e h10 => Agree [(0, (.pointer p1)), (1, (.pointer p2)), (2, (.int .i64 (i3))), (7, (.pointer (some ⟨k7, 0, none⟩)))] e ∧ S_sheet_Sheet_put_J1 B p1 p2 i3 k7 h10 Q) ?_ fun j9 => ?_
 ·rintro e h10 ⟨hag, s⟩
  refine Run.env hag ?_; clear hag
  refine au 6 rfl ?_
  refine zcall s rfl rfl TF.goes_121 ?_
  rintro _ h11 ⟨b12, s13, b14, rfl, s⟩
  refine au 3 rfl ?_
  refine zal s rfl TF.zero_119 rfl fun k15 h16 s => ?_
  refine zsn s rfl rfl rfl TF.sz_119 rfl fun h17 s => ?_
  refine au 4 rfl ?_
  obtain ⟨b18, s19, hl, s⟩ := s
  refine zn hl rfl rfl TF.agg_119 TF.sz_119 rfl ?_
  obtain ⟨b20, s21, hl, s⟩ := s
  refine zn hl rfl rfl TF.agg_119 TF.sz_119 rfl ?_
  by_cases hb22 : eqL [(.bool b18), (.string s19)] [(.bool b20), (.string s21)] = true
  ·replace s := s.1 hb22
   refine zg rfl (sem_aggEq [(.bool b18), (.string s19)] [(.bool b20), (.string s21)] _ (true) (.inl rfl) rfl rfl TF.agg_119 TF.flat_119 TF.eqg_119 ⟨⟨_, rfl⟩, ⟨_, rfl⟩, trivial⟩ ⟨⟨_, rfl⟩, ⟨_, rfl⟩, trivial⟩ (eqLT_eql hb22) ?_)
   refine au 6 rfl ?_
   exact zr (s.imp fun _ q => ⟨_, rfl, q⟩)
  ·replace s := s.2 hb22
   refine zg rfl (sem_aggEq [(.bool b18), (.string s19)] [(.bool b20), (.string s21)] _ (false) (.inl rfl) rfl rfl TF.agg_119 TF.flat_119 TF.eqg_119 ⟨⟨_, rfl⟩, ⟨_, rfl⟩, trivial⟩ ⟨⟨_, rfl⟩, ⟨_, rfl⟩, trivial⟩ (eqLF_eql hb22) ?_)
   refine au 4 rfl ?_
   obtain ⟨A24, e25, s⟩ := s
   obtain ⟨p28, hl, s⟩ := s
   have f29 := hl
   obtain ⟨b31, s32, hl, s⟩ := s
   have f33 := hl
   refine Run.drawM (fun h' => cellH B h' A24 = some (.pointer p28) ∧ CellsAt B h' ⟨k7, 0, none⟩ 0 [(.bool b31), (.string s32)] ∧ True) [] ⟨[0, 1, 2, 4, 0, 0, 56, 127], [255, 254, 253, 251, 255, 255, 199, 191], [0, 0, 0, 0, 0, 0, 0, 0], 0⟩ (.q 0 (.q 1 (.q 2 (.q 3 (.q 4 (.q 5 (.x 6 (.q 7 .nil) .no))))))) TF.mixed (by kernel_rfl) ⟨f29, f33, trivial⟩ ?_
   refine auT 1 rfl ?_
   refine zq rfl (fun _ hC => sem_nilCheck A24 (congrArg Value.pointer e25) ⟨rfl, rfl⟩) ?_
   refine auT 1 rfl ?_
   refine zq rfl (fun _ hC => sem_load1 A24 ((.pointer p28)) rfl TF.agg_157 hC.1 ⟨rfl, rfl⟩) ?_
   refine auT 1 rfl ?_
   refine zq rfl (fun _ hC => sem_loadN ⟨k7, 0, none⟩ [(.bool b31), (.string s32)] rfl TF.agg_119 TF.sz_119 hC.2.1 ⟨rfl, rfl⟩) ?_
   refine ⟨zo rfl (sem_callL [(.pointer p28), (.int .i64 (i3)), (.agg #[(.bool b31), (.string s32)])] (TF.goes_135) rfl rfl (Spec.mono s fun v h34 hv => ?_)), trivial⟩
   obtain ⟨b35, rfl, s⟩ := hv
   obtain ⟨g36, g37, s⟩ := s
   refine ⟨fun _ => ⟨g36, g37, trivial⟩, ?_⟩
   refine auT 1 rfl ?_
   exact zr (s.imp fun _ q => ⟨_, rfl, q⟩)
 refine au 3 rfl ?_
 by_cases hb38 : p1 = none
 ·replace s := s.1 hb38
  refine zg rfl (sem_ptrNilT p1 (.inl rfl) true rfl rfl TF.ptr_92 hb38 rfl ?_)
  refine au 14 rfl ?_
  exact zr (s.imp fun _ q => ⟨_, rfl, q⟩)
 ·replace s := s.2 hb38
  refine zg rfl (sem_ptrNilF p1 (.inl rfl) false rfl rfl TF.ptr_92 hb38 rfl ?_)
  refine au 2 rfl ?_
  refine zt s rfl rfl rfl binI_lss_t binI_lss_f (fun s => ?_) fun s => ?_
  ·refine au 11 rfl ?_
   exact zr (s.imp fun _ q => ⟨_, rfl, q⟩)
  ·refine au 3 rfl ?_
   refine zt s rfl rfl rfl binI_geq_t binI_geq_f (fun s => ?_) fun s => ?_
   ·refine au 7 rfl ?_
    exact zr (s.imp fun _ q => ⟨_, rfl, q⟩)
   ·refine au 4 rfl ?_
    exact Run.of_fin (s.imp fun h' s => j9 _ _ ⟨⟨rfl, rfl, rfl, rfl, trivial⟩, s⟩)
theorem C_file_Put.of {B : RO} {b1 : Bool} {s2 : ByteArray} {i3 : Int} {i4 : Int} {h : Heap} {Q : Bool → ByteArray → Heap → Prop} (s : S_file_Put B b1 s2 i3 i4 h Q) : C_file_Put B b1 s2 i3 i4 h Q := by
 refine zspec Tryz.func123 [ResultVar.cell 6 119] rfl rfl rfl rfl rfl ?_
 refine au 2 rfl ?_
 refine zbn s rfl rfl rfl fun k7 h8 s => ?_
 refine zal s rfl TF.zero_119 rfl fun k9 h10 s => ?_
 refine au 1 rfl ?_
 refine Run.seqJ (fun e h12 => Agree [(1, (.int .i64 (i3))), (2, (.int .u8 (i4))), (3, (.pointer (some ⟨k7, 0, none⟩))), (6, (.pointer (some ⟨k9, 0, none⟩)))] e ∧ S_file_Put_J1 B i3 i4 k7 k9 h12 Q) ?_ fun j11 => ?_
 ·rintro e h12 ⟨hag, s⟩
  refine Run.env hag ?_; clear hag
  refine au 3 rfl ?_
  refine zl s rfl rfl TF.agg_9 fun s13 s => ?_
  refine zg rfl (sem_convW ((.string s13)) rfl (semH_mono (fun v h17 hv => ?_) s))
  obtain ⟨a14, n15, c16, rfl, s⟩ := hv
  refine au 2 rfl ?_
  refine Run.seqJ (fun e h22 => ∃ a19 : Option Addr, ∃ n20 : Nat, ∃ c21 : Nat, Agree [(1, (.int .i64 (i3))), (2, (.int .u8 (i4))), (6, (.pointer (some ⟨k9, 0, none⟩))), (7, (.slice a19 n20 c21))] e ∧ S_file_Put_J2 B i3 i4 k9 a19 n20 c21 h22 Q) ?_ fun j18 => ?_
  ·rintro e h22 ⟨a19, n20, c21, hag, s⟩
   refine Run.env hag ?_; clear hag
   refine au 5 rfl ?_
   obtain ⟨A23, e24, hi0, hi1, s⟩ := s
   refine zg rfl (sem_indexAddrS A23 n20 c21 .i64 (i3) (congrArg (fun a => Value.slice a n20 c21) e24) rfl TF.slc_226 hi0 hi1 ?_)
   refine zs1 s rfl rfl rfl rfl TF.sz_5 fun h25 s => ?_
   refine au 4 rfl ?_
   refine zg rfl (sem_convW ((.slice a19 n20 c21)) rfl (semH_mono (fun v h27 hv => ?_) s))
   obtain ⟨s26, rfl, s⟩ := hv
   refine zg rfl (sem_buildSL [(0, (.bool true)), (1, (.string s26))] [(.bool true), (.string s26)] TF.zero_119 TF.places_119 rfl rfl ?_)
   refine zsn s rfl rfl rfl TF.sz_119 rfl fun h28 s => ?_
   refine au 1 rfl ?_
   obtain ⟨b29, s30, hl0, s⟩ := s
   exact zr (⟨⟨k9, 0, none⟩, (.agg #[(.bool b29), (.string s30)]), rfl, loadHN TF.agg_119 TF.sz_119 hl0, s.imp fun _ q => ⟨_, _, rfl, q⟩⟩)
  refine au 1 rfl ?_
  obtain ⟨J38, m36, h0, s⟩ := s
  refine Run.of_fin (h0.imp fun h' h0 => ?_)
  refine Run.loop (σ := (Option Addr) × Nat × Nat × Nat) (fun x e h => J38 x.1 x.2.1 x.2.2.1 x.2.2.2 h ∧ Agree [(1, (.int .i64 (i3))), (2, (.int .u8 (i4))), (6, (.pointer (some ⟨k9, 0, none⟩))), (7, (.slice x.1 x.2.1 x.2.2.1))] e) (fun x => x.2.2.2) (a14, n15, c16, m36) ⟨h0, ⟨rfl, rfl, rfl, rfl, trivial⟩⟩ ?_; clear h0
  rintro ⟨a31, n32, c33, m35⟩ e h34 ⟨hJ, hag⟩ ih37
  have s := s a31 n32 c33 m35 h34 hJ; clear hJ
  refine Run.env hag ?_; clear hag
  refine au 4 rfl ?_
  refine zg rfl (sem_lenSl a31 n32 c33 rfl TF.sl_226 ?_)
  refine au 1 rfl ?_
  refine zt s rfl rfl rfl binI_leq_t binI_leq_f (fun s => ?_) fun s => ?_
  ·refine au 6 rfl ?_
   refine zg rfl (sem_buildSliceL [(0, (.int .u8 (0)))] [(.int .u8 (0))] TF.slc_226 TF.zero_5 rfl (by decide) (by decide) rfl rfl (fun k39 hb1 hb2 h40 hb3 => ?_))
   have s := s k39 hb1 hb2 h40 hb3
   refine zg rfl (sem_appendL [(.slice a31 n32 c33), (.slice (some ⟨k39, 0, none⟩) 1 1)] rfl (semH_mono (fun v h41 hv => ?_) s))
   obtain ⟨a42, n43, c44, rfl, s⟩ := hv
   refine au 3 rfl ?_
   exact Run.of_fin (s.imp fun h' ⟨m', hm, s⟩ => ih37 (a42, n43, c44, m') _ _ ⟨s, ⟨rfl, rfl, rfl, rfl, trivial⟩⟩ hm)
  ·refine au 3 rfl ?_
   exact Run.of_fin (s.imp fun h' s => j18 _ _ ⟨a31, n32, c33, ⟨rfl, rfl, rfl, rfl, trivial⟩, s⟩)
 refine au 3 rfl ?_
 refine zt s rfl rfl rfl binI_lss_t binI_lss_f (fun s => ?_) fun s => ?_
 ·refine au 8 rfl ?_
  obtain ⟨b45, s46, hl, s⟩ := s
  refine zn hl rfl rfl TF.agg_119 TF.sz_119 rfl ?_
  refine zsn s rfl rfl rfl TF.sz_119 rfl fun h47 s => ?_
  refine au 1 rfl ?_
  obtain ⟨b48, s49, hl0, s⟩ := s
  exact zr (⟨⟨k9, 0, none⟩, (.agg #[(.bool b48), (.string s49)]), rfl, loadHN TF.agg_119 TF.sz_119 hl0, s.imp fun _ q => ⟨_, _, rfl, q⟩⟩)
 ·refine au 2 rfl ?_
  refine zt s rfl rfl rfl binI_geq_t binI_geq_f (fun s => ?_) fun s => ?_
  ·refine au 5 rfl ?_
   obtain ⟨b50, s51, hl, s⟩ := s
   refine zn hl rfl rfl TF.agg_119 TF.sz_119 rfl ?_
   refine zsn s rfl rfl rfl TF.sz_119 rfl fun h52 s => ?_
   refine au 1 rfl ?_
   obtain ⟨b53, s54, hl0, s⟩ := s
   exact zr (⟨⟨k9, 0, none⟩, (.agg #[(.bool b53), (.string s54)]), rfl, loadHN TF.agg_119 TF.sz_119 hl0, s.imp fun _ q => ⟨_, _, rfl, q⟩⟩)
  ·refine au 4 rfl ?_
   exact Run.of_fin (s.imp fun h' s => j11 _ _ ⟨⟨rfl, rfl, rfl, rfl, trivial⟩, s⟩)
theorem C_file_Make.of {B : RO} {b1 : Bool} {s2 : ByteArray} {h : Heap} {Q : Bool → ByteArray → Heap → Prop} (s : S_file_Make B b1 s2 h Q) : C_file_Make B b1 s2 h Q := by
 refine zspec Tryz.func124 [ResultVar.cell 2 119] rfl rfl rfl rfl rfl ?_
 refine au 2 rfl ?_
 refine zbn s rfl rfl rfl fun k5 h6 s => ?_
 refine zal s rfl TF.zero_119 rfl fun k7 h8 s => ?_
 refine au 4 rfl ?_
 refine zl s rfl rfl TF.agg_9 fun s9 s => ?_
 refine zg rfl (sem_buildSL [(0, (.bool true)), (1, (.string s9))] [(.bool true), (.string s9)] TF.zero_119 TF.places_119 rfl rfl ?_)
 refine zsn s rfl rfl rfl TF.sz_119 rfl fun h10 s => ?_
 refine au 1 rfl ?_
 obtain ⟨b11, s12, hl0, s⟩ := s
 exact zr (⟨⟨k7, 0, none⟩, (.agg #[(.bool b11), (.string s12)]), rfl, loadHN TF.agg_119 TF.sz_119 hl0, s.imp fun _ q => ⟨_, _, rfl, q⟩⟩)
theorem C_file_Cut.of {B : RO} {b1 : Bool} {s2 : ByteArray} {i3 : Int} {h : Heap} {Q : Bool → ByteArray → Heap → Prop} (s : S_file_Cut B b1 s2 i3 h Q) : C_file_Cut B b1 s2 i3 h Q := by
 refine zspec Tryz.func125 [ResultVar.cell 4 119] rfl rfl rfl rfl rfl ?_
 refine au 2 rfl ?_
 refine zbn s rfl rfl rfl fun k6 h7 s => ?_
 refine zal s rfl TF.zero_119 rfl fun k8 h9 s => ?_
 refine au 1 rfl ?_
 refine Run.seqJ (fun e h11 => Agree [(1, (.int .i64 (i3))), (2, (.pointer (some ⟨k6, 0, none⟩))), (4, (.pointer (some ⟨k8, 0, none⟩)))] e ∧ S_file_Cut_J1 B i3 k6 k8 h11 Q) ?_ fun j10 => ?_
 ·rintro e h11 ⟨hag, s⟩
  refine Run.env hag ?_; clear hag
  refine au 5 rfl ?_
  refine zl s rfl rfl TF.agg_9 fun s12 s => ?_
  refine zg rfl (sem_lenStr s12 rfl TF.isStr_9 ?_)
  refine zt s rfl rfl rfl binI_leq_t binI_leq_f (fun s => ?_) fun s => ?_
  ·refine au 5 rfl ?_
   refine zl s rfl rfl TF.agg_9 fun s13 s => ?_
   refine au 1 rfl ?_
   obtain ⟨hi0, hi1, hi2, s⟩ := s
   refine zg rfl (sem_sliceStrI s13 (0) (i3) rfl TF.isStr_9 rfl ⟨_, rfl⟩ hi0 hi1 hi2 ?_)
   refine zg rfl (sem_buildSL [(0, (.bool true)), (1, (.string (ByteArray.extract s13 (Int.toNat (0)) (Int.toNat (i3)))))] [(.bool true), (.string (ByteArray.extract s13 (Int.toNat (0)) (Int.toNat (i3))))] TF.zero_119 TF.places_119 rfl rfl ?_)
   refine zsn s rfl rfl rfl TF.sz_119 rfl fun h14 s => ?_
   refine au 1 rfl ?_
   obtain ⟨b15, s16, hl0, s⟩ := s
   exact zr (⟨⟨k8, 0, none⟩, (.agg #[(.bool b15), (.string s16)]), rfl, loadHN TF.agg_119 TF.sz_119 hl0, s.imp fun _ q => ⟨_, _, rfl, q⟩⟩)
  ·refine au 4 rfl ?_
   obtain ⟨s18, hl, s⟩ := s
   have f19 := hl
   obtain ⟨s22, hl, s⟩ := s
   have f23 := hl
   refine Run.drawM (fun h' => cellH B h' ⟨k6, 1, none⟩ = some (.string s18) ∧ cellH B h' ⟨k6, 1, none⟩ = some (.string s22) ∧ True) [10] ⟨[0, 1, 0, 0, 8, 16, 36, 64, 130, 256, 1023], [2047, 2046, 2047, 2047, 2039, 2031, 2011, 1983, 1917, 1791, 1535], [0, 1, 0, 0, 8, 24, 60, 124, 255, 511, 1023], 1024⟩ (.q 0 (.q 1 (.q 2 (.q 3 (.q 4 (.q 5 (.q 6 (.x 7 (.q 8 (.q 9 (.x 10 .nil .no))) .no)))))))) TF.mixed (by kernel_rfl) ⟨f19, f23, trivial⟩ ?_
   refine auT 1 rfl ?_
   refine zq rfl (fun _ hC => sem_load1 ⟨k6, 1, none⟩ ((.string s18)) rfl TF.agg_9 hC.1 ⟨rfl, rfl⟩) ?_
   refine auT 2 rfl ?_
   refine zq rfl (fun _ hC => sem_load1 ⟨k6, 1, none⟩ ((.string s22)) rfl TF.agg_9 hC.2.1 ⟨rfl, rfl⟩) ?_
   refine zq rfl (fun _ hC => sem_lenStr s22 rfl TF.isStr_9 ⟨rfl, rfl⟩) ?_
   refine auT 1 rfl ?_
   refine ⟨zo rfl (sem_callL [(.string (ByteArray.mk #[0])), (.int .i64 (IntKind.wrap .i64 ((i3) - ((ByteArray.size s22 : Nat)))))] (TF.goes_136) rfl rfl (Spec.mono s fun v h26 hv => ?_)), trivial⟩
   obtain ⟨s27, rfl, s⟩ := hv
   obtain ⟨g28, g29, s⟩ := s
   refine ⟨fun _ => ⟨g28, g29, trivial⟩, ?_⟩
   obtain ⟨hi0, s⟩ := s
   refine zq rfl (fun _ _ => sem_strAdd s18 s27 rfl rfl hi0 ⟨rfl, rfl⟩) ?_
   refine zq rfl (fun _ _ => sem_buildSL [(0, (.bool true)), (1, (.string (s18 ++ s27)))] [(.bool true), (.string (s18 ++ s27))] TF.zero_119 TF.places_119 rfl rfl ⟨rfl, rfl⟩) ?_
   obtain ⟨h30, hst, s⟩ := s
   refine ⟨zo0 rfl (sem_storeN ⟨k8, 0, none⟩ [(.bool true), (.string (s18 ++ s27))] h30 rfl rfl TF.sz_119 hst ?_), trivial⟩
   refine ⟨fun hz => Bool.noConfusion hz, ?_⟩
   obtain ⟨b31, s32, hl0, s⟩ := s
   exact zr (⟨⟨k8, 0, none⟩, (.agg #[(.bool b31), (.string s32)]), rfl, loadHN TF.agg_119 TF.sz_119 hl0, s.imp fun _ q => ⟨_, _, rfl, q⟩⟩)
 refine au 3 rfl ?_
 refine zl s rfl rfl TF.agg_4 fun b33 s => ?_
 cases b33
 ·replace s := s.2 rfl
  refine au 13 rfl ?_
  obtain ⟨b34, s35, hl, s⟩ := s
  refine zn hl rfl rfl TF.agg_119 TF.sz_119 rfl ?_
  refine zsn s rfl rfl rfl TF.sz_119 rfl fun h36 s => ?_
  refine au 1 rfl ?_
  obtain ⟨b37, s38, hl0, s⟩ := s
  exact zr (⟨⟨k8, 0, none⟩, (.agg #[(.bool b37), (.string s38)]), rfl, loadHN TF.agg_119 TF.sz_119 hl0, s.imp fun _ q => ⟨_, _, rfl, q⟩⟩)
 ·replace s := s.1 rfl
  refine au 3 rfl ?_
  refine zt s rfl rfl rfl binI_lss_t binI_lss_f (fun s => ?_) fun s => ?_
  ·refine au 9 rfl ?_
   obtain ⟨b39, s40, hl, s⟩ := s
   refine zn hl rfl rfl TF.agg_119 TF.sz_119 rfl ?_
   refine zsn s rfl rfl rfl TF.sz_119 rfl fun h41 s => ?_
   refine au 1 rfl ?_
   obtain ⟨b42, s43, hl0, s⟩ := s
   exact zr (⟨⟨k8, 0, none⟩, (.agg #[(.bool b42), (.string s43)]), rfl, loadHN TF.agg_119 TF.sz_119 hl0, s.imp fun _ q => ⟨_, _, rfl, q⟩⟩)
  ·refine au 3 rfl ?_
   refine zt s rfl rfl rfl binI_gtr_t binI_gtr_f (fun s => ?_) fun s => ?_
   ·refine au 5 rfl ?_
    obtain ⟨b44, s45, hl, s⟩ := s
    refine zn hl rfl rfl TF.agg_119 TF.sz_119 rfl ?_
    refine zsn s rfl rfl rfl TF.sz_119 rfl fun h46 s => ?_
    refine au 1 rfl ?_
    obtain ⟨b47, s48, hl0, s⟩ := s
    exact zr (⟨⟨k8, 0, none⟩, (.agg #[(.bool b47), (.string s48)]), rfl, loadHN TF.agg_119 TF.sz_119 hl0, s.imp fun _ q => ⟨_, _, rfl, q⟩⟩)
   ·refine au 4 rfl ?_
    exact Run.of_fin (s.imp fun h' s => j10 _ _ ⟨⟨rfl, rfl, rfl, trivial⟩, s⟩)
theorem C_draft_Draft_int_Copy.of {B : RO} {p1 : Option Addr} {h : Heap} {Q : Option Addr → Heap → Prop} (s : S_draft_Draft_int_Copy B p1 h Q) : C_draft_Draft_int_Copy B p1 h Q := by
 refine zspec Tryz.func128 [ResultVar.tmp 2] rfl rfl rfl rfl rfl ?_
 refine au 8 rfl ?_
 by_cases hb3 : p1 = none
 ·replace s := s.1 hb3
  refine zg rfl (sem_ptrNilT p1 (.inl rfl) true rfl rfl TF.ptr_91 hb3 rfl ?_)
  refine au 6 rfl ?_
  exact zr (s.imp fun _ q => ⟨_, rfl, q⟩)
 ·replace s := s.2 hb3
  refine zg rfl (sem_ptrNilF p1 (.inl rfl) false rfl rfl TF.ptr_91 hb3 rfl ?_)
  refine au 6 rfl ?_
  refine znil s rfl rfl fun A4 s => ?_
  refine au 1 rfl ?_
  refine Run.ldSl s fun a6 n7 c8 h9 hl s => ?_
  refine zg rfl (sem_load1 A4 ((.slice a6 n7 c8)) rfl TF.agg_164 hl ?_)
  refine zcall s rfl rfl TF.goes_138 ?_
  rintro _ h10 ⟨a11, n12, c13, rfl, s⟩
  refine zg rfl (sem_buildSL [(0, (.slice a11 n12 c13))] [(.slice a11 n12 c13)] TF.zero_166 TF.places_166 rfl rfl ?_)
  refine zbn s rfl rfl rfl fun k14 h15 s => ?_
  refine au 2 rfl ?_
  exact zr (s.imp fun _ q => ⟨_, rfl, q⟩)
theorem C_sheet_Sheet_Copy.of {B : RO} {p1 : Option Addr} {h : Heap} {Q : Option Addr → Heap → Prop} (s : S_sheet_Sheet_Copy B p1 h Q) : C_sheet_Sheet_Copy B p1 h Q := by
 refine zspec Tryz.func129 [ResultVar.tmp 2] rfl rfl rfl rfl rfl ?_
 refine au 8 rfl ?_
 by_cases hb3 : p1 = none
 ·replace s := s.1 hb3
  refine zg rfl (sem_ptrNilT p1 (.inl rfl) true rfl rfl TF.ptr_92 hb3 rfl ?_)
  refine au 6 rfl ?_
  exact zr (s.imp fun _ q => ⟨_, rfl, q⟩)
 ·replace s := s.2 hb3
  refine zg rfl (sem_ptrNilF p1 (.inl rfl) false rfl rfl TF.ptr_92 hb3 rfl ?_)
  refine au 6 rfl ?_
  refine znil s rfl rfl fun A4 s => ?_
  refine au 1 rfl ?_
  refine zl s rfl rfl TF.agg_157 fun p6 s => ?_
  refine zcall s rfl rfl TF.goes_139 ?_
  rintro _ h7 ⟨p8, rfl, s⟩
  refine zg rfl (sem_buildSL [(0, (.pointer p8))] [(.pointer p8)] TF.zero_204 TF.places_204 rfl rfl ?_)
  refine zbn s rfl rfl rfl fun k9 h10 s => ?_
  refine au 2 rfl ?_
  exact zr (s.imp fun _ q => ⟨_, rfl, q⟩)
theorem C_cursor_Cursor_Copy.of {B : RO} {p1 : Option Addr} {h : Heap} {Q : Option Addr → Heap → Prop} (s : S_cursor_Cursor_Copy B p1 h Q) : C_cursor_Cursor_Copy B p1 h Q := by
 refine zspec Tryz.func130 [ResultVar.tmp 2] rfl rfl rfl rfl rfl ?_
 refine au 8 rfl ?_
 by_cases hb3 : p1 = none
 ·replace s := s.1 hb3
  refine zg rfl (sem_ptrNilT p1 (.inl rfl) true rfl rfl TF.ptr_93 hb3 rfl ?_)
  refine au 6 rfl ?_
  exact zr (s.imp fun _ q => ⟨_, rfl, q⟩)
 ·replace s := s.2 hb3
  refine zg rfl (sem_ptrNilF p1 (.inl rfl) false rfl rfl TF.ptr_93 hb3 rfl ?_)
  refine au 6 rfl ?_
  refine znil s rfl rfl fun A4 s => ?_
  obtain ⟨i6, i7, i8, hl, s⟩ := s
  refine zn hl rfl rfl TF.agg_181 TF.sz_181 rfl ?_
  refine zal s rfl TF.zero_181 rfl fun k9 h10 s => ?_
  refine zsn s rfl rfl rfl TF.sz_181 rfl fun h11 s => ?_
  refine au 5 rfl ?_
  exact zr (s.imp fun _ q => ⟨_, rfl, q⟩)
theorem C_slices_Backward_s_acts_Open_acts_Open.of {B : RO} {a1 : Option Addr} {n2 : Nat} {c3 : Nat} {h : Heap} {Q : Value → Heap → Prop} (s : S_slices_Backward_s_acts_Open_acts_Open B a1 n2 c3 h Q) : C_slices_Backward_s_acts_Open_acts_Open B a1 n2 c3 h Q := by
 refine zspec Tryz.func131 [ResultVar.tmp 2] rfl rfl rfl rfl rfl ?_
 refine au 2 rfl ?_
 refine zb1 s rfl rfl rfl rfl fun k5 h6 s => ?_
 refine au 7 rfl ?_
 exact zr (s.imp fun _ q => ⟨_, rfl, q⟩)
theorem C_slices_IndexFunc_s_reads_Entry_reads_Entry.of {B : RO} {a1 : Option Addr} {n2 : Nat} {c3 : Nat} {v4 : Value} {h : Heap} {Q : Int → Heap → Prop} (s : S_slices_IndexFunc_s_reads_Entry_reads_Entry B a1 n2 c3 v4 h Q) : C_slices_IndexFunc_s_reads_Entry_reads_Entry B a1 n2 c3 v4 h Q := by
 refine zspec Tryz.func132 [ResultVar.tmp 4] rfl rfl rfl rfl rfl ?_
 refine au 8 rfl ?_
 refine zg rfl (sem_lenSl a1 n2 c3 rfl TF.sl_135 ?_)
 refine au 3 rfl ?_
 obtain ⟨J11, m9, h0, s⟩ := s
 refine Run.of_fin (h0.imp fun h' h0 => ?_)
 refine Run.loop (σ := Int × Nat) (fun x e h => J11 x.1 x.2 h ∧ Agree [(0, (.slice a1 n2 c3)), (1, v4), (7, (.int .i64 ((n2 : Nat)))), (8, (.int .i64 (x.1)))] e) (fun x => x.2) ((0), m9) ⟨h0, ⟨rfl, rfl, rfl, rfl, trivial⟩⟩ ?_; clear h0
 rintro ⟨i6, m8⟩ e h7 ⟨hJ, hag⟩ ih10
 have s := s i6 m8 h7 hJ; clear hJ
 refine Run.env hag ?_; clear hag
 refine au 2 rfl ?_
 refine zt s rfl rfl rfl binI_lss_t binI_lss_f (fun s => ?_) fun s => ?_
 ·refine au 16 rfl ?_
  obtain ⟨A12, e13, hi0, hi1, s⟩ := s
  refine zg rfl (sem_indexAddrS A12 n2 c3 .i64 (i6) (congrArg (fun a => Value.slice a n2 c3) e13) rfl TF.slc_135 hi0 hi1 ?_)
  obtain ⟨i14, i15, i16, hl, s⟩ := s
  refine zn hl rfl rfl TF.agg_174 TF.sz_174 rfl ?_
  refine zg rfl (sem_callV (v4) [(.agg #[(.int .i64 (i14)), (.int .i64 (i15)), (.int .i64 (i16))])] rfl rfl s (fun nx h' ha => ha.mono fun v h17 hv => ?_))
  obtain ⟨b18, rfl, s⟩ := hv
  cases b18
  ·replace s := s.2 rfl
   refine au 8 rfl ?_
   exact Run.of_fin (s.imp fun h' ⟨m', hm, s⟩ => ih10 ((IntKind.wrap .i64 ((i6) + (1))), m') _ _ ⟨s, ⟨rfl, rfl, rfl, rfl, trivial⟩⟩ hm)
  ·replace s := s.1 rfl
   refine au 7 rfl ?_
   exact zr (s.imp fun _ q => ⟨_, rfl, q⟩)
 ·refine au 8 rfl ?_
  exact zr (s.imp fun _ q => ⟨_, rfl, q⟩)
theorem C_reads_Set_place_1.of {B : RO} {i1 : Int} {i2 : Int} {i3 : Int} {A4 : Addr} {A5 : Addr} {h : Heap} {Q : Bool → Heap → Prop} (s : S_reads_Set_place_1 B i1 i2 i3 A4 A5 h Q) : C_reads_Set_place_1 B i1 i2 i3 A4 A5 h Q := by
 refine zspec Tryz.func133 [ResultVar.tmp 4] rfl rfl rfl rfl rfl ?_
 refine au 2 rfl ?_
 refine zbn s rfl rfl rfl fun k7 h8 s => ?_
 refine au 5 rfl ?_
 refine zl s rfl rfl TF.agg_110 fun i9 s => ?_
 refine zl s rfl rfl TF.agg_110 fun i10 s => ?_
 refine zt s rfl rfl rfl binI_eql_t binI_eql_f (fun s => ?_) fun s => ?_
 ·refine au 2 rfl ?_
  refine zl s rfl rfl TF.agg_3 fun i11 s => ?_
  refine zl s rfl rfl TF.agg_3 fun i12 s => ?_
  refine au 4 rfl ?_
  exact zr (s.imp fun _ q => ⟨_, rfl, q⟩)
 ·refine au 8 rfl ?_
  exact zr (s.imp fun _ q => ⟨_, rfl, q⟩)
theorem C_draft_Draft_file_File_Get.of {B : RO} {p1 : Option Addr} {i2 : Int} {h : Heap} {Q : Bool → ByteArray → Bool → Heap → Prop} (s : S_draft_Draft_file_File_Get B p1 i2 h Q) : C_draft_Draft_file_File_Get B p1 i2 h Q := by
 refine zspec Tryz.func134 [ResultVar.cell 4 119, ResultVar.tmp 5] rfl rfl rfl rfl rfl ?_
 refine au 2 rfl ?_
 refine zal s rfl TF.zero_119 rfl fun k6 h7 s => ?_
 refine au 4 rfl ?_
 refine zal s rfl TF.zero_119 rfl fun k8 h9 s => ?_
 refine au 5 rfl ?_
 by_cases hb10 : p1 = none
 ·replace s := s.1 hb10
  refine zg rfl (sem_ptrNilT p1 (.inl rfl) true rfl rfl TF.ptr_157 hb10 rfl ?_)
  refine au 4 rfl ?_
  obtain ⟨b11, s12, hl, s⟩ := s
  refine zn hl rfl rfl TF.agg_119 TF.sz_119 rfl ?_
  refine zsn s rfl rfl rfl TF.sz_119 rfl fun h13 s => ?_
  refine au 2 rfl ?_
  obtain ⟨b14, s15, hl0, s⟩ := s
  exact zr (⟨⟨k6, 0, none⟩, (.agg #[(.bool b14), (.string s15)]), rfl, loadHN TF.agg_119 TF.sz_119 hl0, s.imp fun _ q => ⟨_, _, _, rfl, q⟩⟩)
 ·replace s := s.2 hb10
  refine zg rfl (sem_ptrNilF p1 (.inl rfl) false rfl rfl TF.ptr_157 hb10 rfl ?_)
  refine au 7 rfl ?_
  refine zcall s rfl rfl TF.goes_141 ?_
  rintro _ h16 ⟨i17, b18, rfl, s⟩
  refine au 2 rfl ?_
  cases b18
  ·replace s := s.2 rfl
   refine au 1 rfl ?_
   refine au 12 rfl ?_
   obtain ⟨b19, s20, hl, s⟩ := s
   refine zn hl rfl rfl TF.agg_119 TF.sz_119 rfl ?_
   refine zsn s rfl rfl rfl TF.sz_119 rfl fun h21 s => ?_
   refine au 2 rfl ?_
   obtain ⟨b22, s23, hl0, s⟩ := s
   exact zr (⟨⟨k6, 0, none⟩, (.agg #[(.bool b22), (.string s23)]), rfl, loadHN TF.agg_119 TF.sz_119 hl0, s.imp fun _ q => ⟨_, _, _, rfl, q⟩⟩)
  ·replace s := s.1 rfl
   refine au 1 rfl ?_
   refine au 14 rfl ?_
   refine znil s rfl rfl fun A24 s => ?_
   refine au 1 rfl ?_
   refine Run.ldSl s fun a26 n27 c28 h29 hl s => ?_
   refine zg rfl (sem_load1 A24 ((.slice a26 n27 c28)) rfl TF.agg_205 hl ?_)
   refine au 1 rfl ?_
   obtain ⟨A30, e31, hi0, hi1, s⟩ := s
   refine zg rfl (sem_indexAddrS A30 n27 c28 .i64 (i17) (congrArg (fun a => Value.slice a n27 c28) e31) rfl TF.slc_205 hi0 hi1 ?_)
   refine au 1 rfl ?_
   obtain ⟨b32, s33, hl, s⟩ := s
   refine zn hl rfl rfl TF.agg_119 TF.sz_119 rfl ?_
   refine zsn s rfl rfl rfl TF.sz_119 rfl fun h34 s => ?_
   refine au 2 rfl ?_
   obtain ⟨b35, s36, hl0, s⟩ := s
   exact zr (⟨⟨k6, 0, none⟩, (.agg #[(.bool b35), (.string s36)]), rfl, loadHN TF.agg_119 TF.sz_119 hl0, s.imp fun _ q => ⟨_, _, _, rfl, q⟩⟩)
theorem C_draft_Draft_file_File_Put.of {B : RO} {p1 : Option Addr} {i2 : Int} {b3 : Bool} {s4 : ByteArray} {h : Heap} {Q : Bool → Heap → Prop} (s : S_draft_Draft_file_File_Put B p1 i2 b3 s4 h Q) : C_draft_Draft_file_File_Put B p1 i2 b3 s4 h Q := by
 refine zspec Tryz.func135 [ResultVar.tmp 6] rfl rfl rfl rfl rfl ?_
 refine au 2 rfl ?_
 refine zbn s rfl rfl rfl fun k6 h7 s => ?_
 refine au 6 rfl ?_
 by_cases hb8 : p1 = none
 ·replace s := s.1 hb8
  refine zg rfl (sem_ptrNilT p1 (.inl rfl) true rfl rfl TF.ptr_157 hb8 rfl ?_)
  refine au 6 rfl ?_
  exact zr (s.imp fun _ q => ⟨_, rfl, q⟩)
 ·replace s := s.2 hb8
  refine zg rfl (sem_ptrNilF p1 (.inl rfl) false rfl rfl TF.ptr_157 hb8 rfl ?_)
  refine au 7 rfl ?_
  refine zcall s rfl rfl TF.goes_141 ?_
  rintro _ h9 ⟨i10, b11, rfl, s⟩
  refine au 2 rfl ?_
  cases b11
  ·replace s := s.2 rfl
   refine au 1 rfl ?_
   refine au 9 rfl ?_
   obtain ⟨A14, e15, s⟩ := s
   obtain ⟨a18, n19, c20, hl, s⟩ := s
   have f21 := hl
   obtain ⟨b24, s25, hl, s⟩ := s
   have f26 := hl
   refine Run.drawM (fun h' => cellH B h' A14 = some (.slice a18 n19 c20) ∧ CellsAt B h' ⟨k6, 0, none⟩ 0 [(.bool b24), (.string s25)] ∧ True) [13] ⟨[0, 0, 2, 4, 8, 0, 0, 0, 192, 256, 560, 2047, 4095, 6143], [16383, 16383, 16381, 16379, 16375, 16383, 16383, 16383, 16191, 16127, 15823, 16382, 14335, 11263], [0, 0, 2, 6, 14, 0, 0, 0, 192, 448, 1022, 2047, 4095, 8191], 8192⟩ (.q 0 (.q 1 (.q 2 (.q 3 (.q 4 (.q 5 (.q 6 (.q 7 (.q 8 (.x 9 (.x 10 (.q 11 (.q 12 (.x 13 .nil .no))) .no) .no)))))))))) TF.mixed (by kernel_rfl) ⟨f21, f26, trivial⟩ ?_
   refine auT 2 rfl ?_
   refine zq rfl (fun _ hC => sem_nilCheck A14 (congrArg Value.pointer e15) ⟨rfl, rfl⟩) ?_
   refine auT 1 rfl ?_
   refine zq rfl (fun _ hC => sem_load1 A14 ((.slice a18 n19 c20)) rfl TF.agg_205 hC.1 ⟨rfl, rfl⟩) ?_
   refine auT 2 rfl ?_
   refine zq rfl (fun _ hC => sem_loadN ⟨k6, 0, none⟩ [(.bool b24), (.string s25)] rfl TF.agg_119 TF.sz_119 hC.2.1 ⟨rfl, rfl⟩) ?_
   refine zq rfl (fun _ hC => sem_buildSL [(0, (.int .i64 (i2))), (1, (.agg #[(.bool b24), (.string s25)]))] [(.int .i64 (i2)), (.bool b24), (.string s25)] TF.zero_213 TF.places_213 rfl rfl ⟨rfl, rfl⟩) ?_
   refine ⟨zo rfl (sem_buildSliceL [(0, (.agg #[(.int .i64 (i2)), (.bool b24), (.string s25)]))] [(.int .i64 (i2)), (.bool b24), (.string s25)] TF.slc_205 TF.zero_213 rfl (by decide) (by decide) rfl rfl (fun k28 hb1 hb2 h29 hb3 => ?_)), trivial⟩
   have s := s k28 hb1 hb2 h29 hb3
   obtain ⟨g30, g31, s⟩ := s
   refine ⟨fun _ => ⟨g30, g31, trivial⟩, ?_⟩
   refine ⟨zo rfl (sem_callL [(.slice a18 n19 c20), (.int .i64 (i10)), (.slice (some ⟨k28, 0, none⟩) 1 1)] (TF.goes_142) rfl rfl (Spec.mono s fun v h32 hv => ?_)), trivial⟩
   obtain ⟨a33, n34, c35, rfl, s⟩ := hv
   obtain ⟨g36, g37, s⟩ := s
   refine ⟨fun _ => ⟨g36, g37, trivial⟩, ?_⟩
   obtain ⟨A38, e39, s⟩ := s
   refine zq rfl (fun _ _ => sem_nilCheck A38 (congrArg Value.pointer e39) ⟨rfl, rfl⟩) ?_
   refine auT 1 rfl ?_
   obtain ⟨h40, hst, s⟩ := s
   refine ⟨zo0 rfl (sem_store1 A38 ((.slice a33 n34 c35)) h40 rfl rfl rfl TF.sz_205 hst ?_), trivial⟩
   refine ⟨fun hz => Bool.noConfusion hz, ?_⟩
   refine au 4 rfl ?_
   exact zr (s.imp fun _ q => ⟨_, rfl, q⟩)
  ·replace s := s.1 rfl
   refine au 1 rfl ?_
   refine au 9 rfl ?_
   refine Run.drawM (fun h' => h' = h9) [8] ⟨[0, 1, 2, 4, 0, 0, 63, 127, 191], [511, 510, 509, 507, 511, 511, 487, 447, 351], [0, 1, 3, 7, 0, 0, 63, 127, 255], 256⟩ (.q 0 (.q 1 (.q 2 (.q 3 (.q 4 (.q 5 (.q 6 (.q 7 (.x 8 .nil .no))))))))) TF.mixed (by kernel_rfl) rfl ?_
   refine auT 1 rfl ?_
   obtain ⟨A41, e42, s⟩ := s
   refine zqe rfl (sem_nilCheck A41 (congrArg Value.pointer e42) ⟨rfl, rfl⟩) ?_
   refine auT 1 rfl ?_
   obtain ⟨a43, n44, c45, hl, s⟩ := s
   refine zqe rfl (sem_load1 A41 ((.slice a43 n44 c45)) rfl TF.agg_205 hl ⟨rfl, rfl⟩) ?_
   refine auT 1 rfl ?_
   obtain ⟨b46, s47, hl, s⟩ := s
   refine zqe rfl (sem_loadN ⟨k6, 0, none⟩ [(.bool b46), (.string s47)] rfl TF.agg_119 TF.sz_119 hl ⟨rfl, rfl⟩) ?_
   obtain ⟨A48, e49, hi0, hi1, s⟩ := s
   refine zqe rfl (sem_indexAddrS A48 n44 c45 .i64 (i10) (congrArg (fun a => Value.slice a n44 c45) e49) rfl TF.slc_205 hi0 hi1 ⟨rfl, rfl⟩) ?_
   refine auT 1 rfl ?_
   obtain ⟨h50, hst, s⟩ := s
   refine ⟨zo0 rfl (sem_storeN (Addr.add (Addr.add A48 (Int.toNat (i10) * 3)) 1) [(.bool b46), (.string s47)] h50 rfl rfl TF.sz_119 hst ?_), trivial⟩
   refine ⟨fun hz => Bool.noConfusion hz, ?_⟩
   refine au 4 rfl ?_
   exact zr (s.imp fun _ q => ⟨_, rfl, q⟩)
theorem C_slices_Clone_s_draft_entry_int_draft_entry_int.of {B : RO} {a1 : Option Addr} {n2 : Nat} {c3 : Nat} {h : Heap} {Q : Option Addr → Nat → Nat → Heap → Prop} (s : S_slices_Clone_s_draft_entry_int_draft_entry_int B a1 n2 c3 h Q) : C_slices_Clone_s_draft_entry_int_draft_entry_int B a1 n2 c3 h Q := by
 refine zspec Tryz.func138 [ResultVar.tmp 2] rfl rfl rfl rfl rfl ?_
 refine au 8 rfl ?_
 by_cases hb7 : a1 = none
 ·replace s := s.1 hb7
  refine zg rfl (sem_slNilT (a1) (n2) (c3) (.inl rfl) true rfl rfl TF.sl_164 hb7 rfl ?_)
  refine au 6 rfl ?_
  exact zr (s.imp fun _ q => ⟨_, _, _, rfl, q⟩)
 ·replace s := s.2 hb7
  refine zg rfl (sem_slNilF (a1) (n2) (c3) (.inl rfl) false rfl rfl TF.sl_164 hb7 rfl ?_)
  refine au 5 rfl ?_
  refine zg rfl (sem_buildSlice0N TF.slc_164 (fun k8 hb1 hb2 h9 hb3 => ?_))
  have s := s k8 hb1 hb2 h9 hb3
  refine au 1 rfl ?_
  refine zg rfl (sem_appendL [(.slice (some ⟨k8, 0, none⟩) 0 0), (.slice a1 n2 c3)] rfl (semH_mono (fun v h10 hv => ?_) s))
  obtain ⟨a11, n12, c13, rfl, s⟩ := hv
  refine au 2 rfl ?_
  exact zr (s.imp fun _ q => ⟨_, _, _, rfl, q⟩)
theorem C_draft_Draft_file_File_Copy.of {B : RO} {p1 : Option Addr} {h : Heap} {Q : Option Addr → Heap → Prop} (s : S_draft_Draft_file_File_Copy B p1 h Q) : C_draft_Draft_file_File_Copy B p1 h Q := by
 refine zspec Tryz.func139 [ResultVar.tmp 2] rfl rfl rfl rfl rfl ?_
 refine au 8 rfl ?_
 by_cases hb3 : p1 = none
 ·replace s := s.1 hb3
  refine zg rfl (sem_ptrNilT p1 (.inl rfl) true rfl rfl TF.ptr_157 hb3 rfl ?_)
  refine au 6 rfl ?_
  exact zr (s.imp fun _ q => ⟨_, rfl, q⟩)
 ·replace s := s.2 hb3
  refine zg rfl (sem_ptrNilF p1 (.inl rfl) false rfl rfl TF.ptr_157 hb3 rfl ?_)
  refine au 6 rfl ?_
  refine znil s rfl rfl fun A4 s => ?_
  refine au 1 rfl ?_
  refine Run.ldSl s fun a6 n7 c8 h9 hl s => ?_
  refine zg rfl (sem_load1 A4 ((.slice a6 n7 c8)) rfl TF.agg_205 hl ?_)
  refine zcall s rfl rfl TF.goes_150 ?_
  rintro _ h10 ⟨a11, n12, c13, rfl, s⟩
  refine zg rfl (sem_buildSL [(0, (.slice a11 n12 c13))] [(.slice a11 n12 c13)] TF.zero_207 TF.places_207 rfl rfl ?_)
  refine zbn s rfl rfl rfl fun k14 h15 s => ?_
  refine au 2 rfl ?_
  exact zr (s.imp fun _ q => ⟨_, rfl, q⟩)
theorem C_slices_Backward_s_acts_Open_acts_Open_1.of {B : RO} {v1 : Value} {A2 : Addr} {h : Heap} {Q : Heap → Prop} (s : S_slices_Backward_s_acts_Open_acts_Open_1 B v1 A2 h Q) : C_slices_Backward_s_acts_Open_acts_Open_1 B v1 A2 h Q := by
 refine zspec Tryz.func140 [] rfl rfl rfl rfl rfl ?_
 refine au 2 rfl ?_
 refine Run.ldSl s fun a3 n4 c5 h6 hl s => ?_
 refine zg rfl (sem_load1 A2 ((.slice a3 n4 c5)) rfl TF.agg_80 hl ?_)
 refine zg rfl (sem_lenSl a3 n4 c5 rfl TF.sl_80 ?_)
 refine au 4 rfl ?_
 obtain ⟨J12, m10, h0, s⟩ := s
 refine Run.of_fin (h0.imp fun h' h0 => ?_)
 refine Run.loop (σ := Int × Nat) (fun x e h => J12 x.1 x.2 h ∧ Agree [(0, v1), (1, (.pointer (some A2))), (3, (.int .i64 (x.1)))] e) (fun x => x.2) ((IntKind.wrap .i64 (((n4 : Nat)) - (1))), m10) ⟨h0, ⟨rfl, rfl, rfl, trivial⟩⟩ ?_; clear h0
 rintro ⟨i7, m9⟩ e h8 ⟨hJ, hag⟩ ih11
 have s := s i7 m9 h8 hJ; clear hJ
 refine Run.env hag ?_; clear hag
 refine au 4 rfl ?_
 refine zt s rfl rfl rfl binI_geq_t binI_geq_f (fun s => ?_) fun s => ?_
 ·refine au 9 rfl ?_
  refine Run.ldSl s fun a13 n14 c15 h16 hl s => ?_
  refine zg rfl (sem_load1 A2 ((.slice a13 n14 c15)) rfl TF.agg_80 hl ?_)
  refine au 1 rfl ?_
  obtain ⟨A17, e18, hi0, hi1, s⟩ := s
  refine zg rfl (sem_indexAddrS A17 n14 c15 .i64 (i7) (congrArg (fun a => Value.slice a n14 c15) e18) rfl TF.slc_80 hi0 hi1 ?_)
  obtain ⟨i19, i20, hl, s⟩ := s
  refine zn hl rfl rfl TF.agg_100 TF.sz_100 rfl ?_
  refine zg rfl (sem_callV (v1) [(.int .i64 (i7)), (.agg #[(.int .i64 (i19)), (.int .i64 (i20))])] rfl rfl s (fun nx h' ha => ha.mono fun v h21 hv => ?_))
  obtain ⟨b22, rfl, s⟩ := hv
  cases b22
  ·replace s := s.2 rfl
   refine au 3 rfl ?_
   exact zr (s.imp fun _ q => ⟨rfl, q⟩)
  ·replace s := s.1 rfl
   refine au 10 rfl ?_
   exact Run.of_fin (s.imp fun h' ⟨m', hm, s⟩ => ih11 ((IntKind.wrap .i64 ((i7) - (1))), m') _ _ ⟨s, ⟨rfl, rfl, rfl, trivial⟩⟩ hm)
 ·refine au 3 rfl ?_
  exact zf (s.imp fun _ q => ⟨rfl, q⟩)
theorem C_draft_Draft_file_File_find.of {B : RO} {p1 : Option Addr} {i2 : Int} {h : Heap} {Q : Int → Bool → Heap → Prop} (s : S_draft_Draft_file_File_find B p1 i2 h Q) : C_draft_Draft_file_File_find B p1 i2 h Q := by
 refine zspec Tryz.func141 [ResultVar.tmp 4, ResultVar.tmp 5] rfl rfl rfl rfl rfl ?_
 refine au 8 rfl ?_
 refine znil s rfl rfl fun A5 s => ?_
 refine au 1 rfl ?_
 refine Run.ldSl s fun a7 n8 c9 h10 hl s => ?_
 refine zg rfl (sem_load1 A5 ((.slice a7 n8 c9)) rfl TF.agg_205 hl ?_)
 refine au 1 rfl ?_
 refine zcall s rfl rfl TF.goes_151 ?_
 rintro _ h11 ⟨i12, b13, rfl, s⟩
 refine au 5 rfl ?_
 exact zr (s.imp fun _ q => ⟨_, _, rfl, q⟩)
theorem C_slices_Insert_s_draft_entry_file_File_draft_entry_file_File.of {B : RO} {a1 : Option Addr} {n2 : Nat} {c3 : Nat} {i4 : Int} {a5 : Option Addr} {n6 : Nat} {c7 : Nat} {h : Heap} {Q : Option Addr → Nat → Nat → Heap → Prop} (s : S_slices_Insert_s_draft_entry_file_File_draft_entry_file_File B a1 n2 c3 i4 a5 n6 c7 h Q) : C_slices_Insert_s_draft_entry_file_File_draft_entry_file_File B a1 n2 c3 i4 a5 n6 c7 h Q := by
 refine zspec Tryz.func142 [ResultVar.tmp 6] rfl rfl rfl rfl rfl ?_
 refine au 8 rfl ?_
 obtain ⟨hi0, hi1, hi2, s⟩ := s
 refine zg rfl (sem_sliceSlI a1 n2 c3 (i4) ((n2 : Nat)) rfl TF.slc_205 ⟨_, rfl⟩ rfl hi0 hi1 hi2 ?_)
 refine au 4 rfl ?_
 refine zg rfl (sem_lenSl a5 n6 c7 rfl TF.sl_205 ?_)
 refine au 6 rfl ?_
 refine zt s rfl rfl rfl binI_eql_t binI_eql_f (fun s => ?_) fun s => ?_
 ·refine au 7 rfl ?_
  exact zr (s.imp fun _ q => ⟨_, _, _, rfl, q⟩)
 ·refine au 6 rfl ?_
  refine zg rfl (sem_lenSl a1 n2 c3 rfl TF.sl_205 ?_)
  refine au 7 rfl ?_
  refine zt s rfl rfl rfl binI_eql_t binI_eql_f (fun s => ?_) fun s => ?_
  ·refine au 6 rfl ?_
   refine zg rfl (sem_appendL [(.slice a1 n2 c3), (.slice a5 n6 c7)] rfl (semH_mono (fun v h11 hv => ?_) s))
   obtain ⟨a12, n13, c14, rfl, s⟩ := hv
   refine au 2 rfl ?_
   exact zr (s.imp fun _ q => ⟨_, _, _, rfl, q⟩)
  ·refine au 10 rfl ?_
   refine zg rfl (sem_capSl a1 (n2) (c3) rfl TF.sl_205 ?_)
   refine zt s rfl rfl rfl binI_gtr_t binI_gtr_f (fun s => ?_) fun s => ?_
   ·refine au 6 rfl ?_
    obtain ⟨hi0, hi1, hi2, s⟩ := s
    refine zg rfl (sem_sliceSlI a1 n2 c3 (0) (i4) rfl TF.slc_205 rfl ⟨_, rfl⟩ hi0 hi1 hi2 ?_)
    refine au 5 rfl ?_
    refine zg rfl (sem_appendL [(.slice (if c3 = Int.toNat (0) then a1 else Option.map (·.add (Int.toNat (0) * 3)) a1) (Int.toNat (i4) - Int.toNat (0)) (c3 - Int.toNat (0))), (.int .i64 (IntKind.wrap .i64 ((IntKind.wrap .i64 (((n2 : Nat)) + ((n6 : Nat)))) - (i4))))] rfl (semH_mono (fun v h15 hv => ?_) s))
    obtain ⟨a16, n17, c18, rfl, s⟩ := hv
    refine au 6 rfl ?_
    obtain ⟨hi0, hi1, hi2, s⟩ := s
    refine zg rfl (sem_sliceSlI a16 n17 c18 (i4) ((n17 : Nat)) rfl TF.slc_205 ⟨_, rfl⟩ rfl hi0 hi1 hi2 ?_)
    refine au 1 rfl ?_
    refine zg rfl (sem_copyL [(.slice (if c18 = Int.toNat (i4) then a16 else Option.map (·.add (Int.toNat (i4) * 3)) a16) (Int.toNat ((n17 : Nat)) - Int.toNat (i4)) (c18 - Int.toNat (i4))), (.slice a5 n6 c7)] rfl (semH_mono (fun v h19 hv => ?_) s))
    obtain ⟨i20, rfl, s⟩ := hv
    refine au 2 rfl ?_
    refine Run.drawM (fun h' => h' = h19) [8] ⟨[0, 0, 0, 6, 9, 0, 0, 96, 144], [511, 511, 511, 505, 502, 511, 511, 415, 367], [0, 0, 0, 6, 15, 0, 0, 96, 255], 256⟩ (.q 0 (.q 1 (.q 2 (.q 3 (.q 4 (.q 5 (.q 6 (.q 7 (.x 8 .nil .no))))))))) TF.mixed (by kernel_rfl) rfl ?_
    refine auT 4 rfl ?_
    obtain ⟨hi0, hi1, hi2, s⟩ := s
    refine zqe rfl (sem_sliceSlI a16 n17 c18 (IntKind.wrap .i64 ((i4) + ((n6 : Nat)))) ((n17 : Nat)) rfl TF.slc_205 ⟨_, rfl⟩ rfl hi0 hi1 hi2 ⟨rfl, rfl⟩) ?_
    refine auT 2 rfl ?_
    obtain ⟨hi0, hi1, hi2, s⟩ := s
    refine zqe rfl (sem_sliceSlI a1 n2 c3 (i4) ((n2 : Nat)) rfl TF.slc_205 ⟨_, rfl⟩ rfl hi0 hi1 hi2 ⟨rfl, rfl⟩) ?_
    refine ⟨zo rfl (sem_copyL [(.slice (if c18 = Int.toNat (IntKind.wrap .i64 ((i4) + ((n6 : Nat)))) then a16 else Option.map (·.add (Int.toNat (IntKind.wrap .i64 ((i4) + ((n6 : Nat)))) * 3)) a16) (Int.toNat ((n17 : Nat)) - Int.toNat (IntKind.wrap .i64 ((i4) + ((n6 : Nat))))) (c18 - Int.toNat (IntKind.wrap .i64 ((i4) + ((n6 : Nat)))))), (.slice (if c3 = Int.toNat (i4) then a1 else Option.map (·.add (Int.toNat (i4) * 3)) a1) (Int.toNat ((n2 : Nat)) - Int.toNat (i4)) (c3 - Int.toNat (i4)))] rfl (semH_mono (fun v h21 hv => ?_) s)), trivial⟩
    obtain ⟨i22, rfl, s⟩ := hv
    refine ⟨fun hz => Bool.noConfusion hz, ?_⟩
    refine au 5 rfl ?_
    exact zr (s.imp fun _ q => ⟨_, _, _, rfl, q⟩)
   ·refine au 9 rfl ?_
    obtain ⟨hi0, hi1, hi2, s⟩ := s
    refine zg rfl (sem_sliceSlI a1 n2 c3 (0) (IntKind.wrap .i64 (((n2 : Nat)) + ((n6 : Nat)))) rfl TF.slc_205 rfl ⟨_, rfl⟩ hi0 hi1 hi2 ?_)
    refine au 10 rfl ?_
    obtain ⟨hi0, hi1, hi2, s⟩ := s
    refine zg rfl (sem_sliceSlI (if c3 = Int.toNat (0) then a1 else Option.map (·.add (Int.toNat (0) * 3)) a1) (Int.toNat (IntKind.wrap .i64 (((n2 : Nat)) + ((n6 : Nat)))) - Int.toNat (0)) (c3 - Int.toNat (0)) (IntKind.wrap .i64 ((i4) + ((n6 : Nat)))) (((Int.toNat (IntKind.wrap .i64 (((n2 : Nat)) + ((n6 : Nat)))) - Int.toNat (0)) : Nat)) rfl TF.slc_205 ⟨_, rfl⟩ rfl hi0 hi1 hi2 ?_)
    refine zg rfl (sem_callXL [(.slice a5 n6 c7), (.slice (if (c3 - Int.toNat (0)) = Int.toNat (IntKind.wrap .i64 ((i4) + ((n6 : Nat)))) then (if c3 = Int.toNat (0) then a1 else Option.map (·.add (Int.toNat (0) * 3)) a1) else Option.map (·.add (Int.toNat (IntKind.wrap .i64 ((i4) + ((n6 : Nat)))) * 3)) (if c3 = Int.toNat (0) then a1 else Option.map (·.add (Int.toNat (0) * 3)) a1)) (Int.toNat (((Int.toNat (IntKind.wrap .i64 (((n2 : Nat)) + ((n6 : Nat)))) - Int.toNat (0)) : Nat)) - Int.toNat (IntKind.wrap .i64 ((i4) + ((n6 : Nat))))) ((c3 - Int.toNat (0)) - Int.toNat (IntKind.wrap .i64 ((i4) + ((n6 : Nat))))))] (TF.goesx_153) rfl rfl (semH_mono (fun v h23 hv => ?_) s))
    obtain ⟨b24, rfl, s⟩ := hv
    cases b24
    ·replace s := s.2 rfl
     refine au 4 rfl ?_
     refine Run.drawM (fun h' => h' = h23) [8] ⟨[0, 0, 0, 6, 9, 0, 0, 96, 144], [511, 511, 511, 505, 502, 511, 511, 415, 367], [0, 0, 0, 6, 15, 0, 0, 96, 255], 256⟩ (.q 0 (.q 1 (.q 2 (.q 3 (.q 4 (.q 5 (.q 6 (.q 7 (.x 8 .nil .no))))))))) TF.mixed (by kernel_rfl) rfl ?_
     refine auT 4 rfl ?_
     obtain ⟨hi0, hi1, hi2, s⟩ := s
     refine zqe rfl (sem_sliceSlI (if c3 = Int.toNat (0) then a1 else Option.map (·.add (Int.toNat (0) * 3)) a1) (Int.toNat (IntKind.wrap .i64 (((n2 : Nat)) + ((n6 : Nat)))) - Int.toNat (0)) (c3 - Int.toNat (0)) (IntKind.wrap .i64 ((i4) + ((n6 : Nat)))) (((Int.toNat (IntKind.wrap .i64 (((n2 : Nat)) + ((n6 : Nat)))) - Int.toNat (0)) : Nat)) rfl TF.slc_205 ⟨_, rfl⟩ rfl hi0 hi1 hi2 ⟨rfl, rfl⟩) ?_
     refine auT 2 rfl ?_
     obtain ⟨hi0, hi1, hi2, s⟩ := s
     refine zqe rfl (sem_sliceSlI (if c3 = Int.toNat (0) then a1 else Option.map (·.add (Int.toNat (0) * 3)) a1) (Int.toNat (IntKind.wrap .i64 (((n2 : Nat)) + ((n6 : Nat)))) - Int.toNat (0)) (c3 - Int.toNat (0)) (i4) (((Int.toNat (IntKind.wrap .i64 (((n2 : Nat)) + ((n6 : Nat)))) - Int.toNat (0)) : Nat)) rfl TF.slc_205 ⟨_, rfl⟩ rfl hi0 hi1 hi2 ⟨rfl, rfl⟩) ?_
     refine ⟨zo rfl (sem_copyL [(.slice (if (c3 - Int.toNat (0)) = Int.toNat (IntKind.wrap .i64 ((i4) + ((n6 : Nat)))) then (if c3 = Int.toNat (0) then a1 else Option.map (·.add (Int.toNat (0) * 3)) a1) else Option.map (·.add (Int.toNat (IntKind.wrap .i64 ((i4) + ((n6 : Nat)))) * 3)) (if c3 = Int.toNat (0) then a1 else Option.map (·.add (Int.toNat (0) * 3)) a1)) (Int.toNat (((Int.toNat (IntKind.wrap .i64 (((n2 : Nat)) + ((n6 : Nat)))) - Int.toNat (0)) : Nat)) - Int.toNat (IntKind.wrap .i64 ((i4) + ((n6 : Nat))))) ((c3 - Int.toNat (0)) - Int.toNat (IntKind.wrap .i64 ((i4) + ((n6 : Nat)))))), (.slice (if (c3 - Int.toNat (0)) = Int.toNat (i4) then (if c3 = Int.toNat (0) then a1 else Option.map (·.add (Int.toNat (0) * 3)) a1) else Option.map (·.add (Int.toNat (i4) * 3)) (if c3 = Int.toNat (0) then a1 else Option.map (·.add (Int.toNat (0) * 3)) a1)) (Int.toNat (((Int.toNat (IntKind.wrap .i64 (((n2 : Nat)) + ((n6 : Nat)))) - Int.toNat (0)) : Nat)) - Int.toNat (i4)) ((c3 - Int.toNat (0)) - Int.toNat (i4)))] rfl (semH_mono (fun v h25 hv => ?_) s)), trivial⟩
     obtain ⟨i26, rfl, s⟩ := hv
     refine ⟨fun hz => Bool.noConfusion hz, ?_⟩
     refine au 4 rfl ?_
     obtain ⟨hi0, hi1, hi2, s⟩ := s
     refine zg rfl (sem_sliceSlI (if c3 = Int.toNat (0) then a1 else Option.map (·.add (Int.toNat (0) * 3)) a1) (Int.toNat (IntKind.wrap .i64 (((n2 : Nat)) + ((n6 : Nat)))) - Int.toNat (0)) (c3 - Int.toNat (0)) (i4) (((Int.toNat (IntKind.wrap .i64 (((n2 : Nat)) + ((n6 : Nat)))) - Int.toNat (0)) : Nat)) rfl TF.slc_205 ⟨_, rfl⟩ rfl hi0 hi1 hi2 ?_)
     refine au 1 rfl ?_
     refine zg rfl (sem_copyL [(.slice (if (c3 - Int.toNat (0)) = Int.toNat (i4) then (if c3 = Int.toNat (0) then a1 else Option.map (·.add (Int.toNat (0) * 3)) a1) else Option.map (·.add (Int.toNat (i4) * 3)) (if c3 = Int.toNat (0) then a1 else Option.map (·.add (Int.toNat (0) * 3)) a1)) (Int.toNat (((Int.toNat (IntKind.wrap .i64 (((n2 : Nat)) + ((n6 : Nat)))) - Int.toNat (0)) : Nat)) - Int.toNat (i4)) ((c3 - Int.toNat (0)) - Int.toNat (i4))), (.slice a5 n6 c7)] rfl (semH_mono (fun v h27 hv => ?_) s))
     obtain ⟨i28, rfl, s⟩ := hv
     refine au 6 rfl ?_
     exact zr (s.imp fun _ q => ⟨_, _, _, rfl, q⟩)
    ·replace s := s.1 rfl
     refine au 8 rfl ?_
     obtain ⟨hi0, hi1, hi2, s⟩ := s
     refine zg rfl (sem_sliceSlI (if c3 = Int.toNat (0) then a1 else Option.map (·.add (Int.toNat (0) * 3)) a1) (Int.toNat (IntKind.wrap .i64 (((n2 : Nat)) + ((n6 : Nat)))) - Int.toNat (0)) (c3 - Int.toNat (0)) ((n2 : Nat)) (((Int.toNat (IntKind.wrap .i64 (((n2 : Nat)) + ((n6 : Nat)))) - Int.toNat (0)) : Nat)) rfl TF.slc_205 ⟨_, rfl⟩ rfl hi0 hi1 hi2 ?_)
     refine au 1 rfl ?_
     refine zg rfl (sem_copyL [(.slice (if (c3 - Int.toNat (0)) = Int.toNat ((n2 : Nat)) then (if c3 = Int.toNat (0) then a1 else Option.map (·.add (Int.toNat (0) * 3)) a1) else Option.map (·.add (Int.toNat ((n2 : Nat)) * 3)) (if c3 = Int.toNat (0) then a1 else Option.map (·.add (Int.toNat (0) * 3)) a1)) (Int.toNat (((Int.toNat (IntKind.wrap .i64 (((n2 : Nat)) + ((n6 : Nat)))) - Int.toNat (0)) : Nat)) - Int.toNat ((n2 : Nat))) ((c3 - Int.toNat (0)) - Int.toNat ((n2 : Nat)))), (.slice a5 n6 c7)] rfl (semH_mono (fun v h29 hv => ?_) s))
     obtain ⟨i30, rfl, s⟩ := hv
     refine au 5 rfl ?_
     obtain ⟨hi0, hi1, hi2, s⟩ := s
     refine zg rfl (sem_sliceSlI (if c3 = Int.toNat (0) then a1 else Option.map (·.add (Int.toNat (0) * 3)) a1) (Int.toNat (IntKind.wrap .i64 (((n2 : Nat)) + ((n6 : Nat)))) - Int.toNat (0)) (c3 - Int.toNat (0)) (i4) (((Int.toNat (IntKind.wrap .i64 (((n2 : Nat)) + ((n6 : Nat)))) - Int.toNat (0)) : Nat)) rfl TF.slc_205 ⟨_, rfl⟩ rfl hi0 hi1 hi2 ?_)
     refine au 1 rfl ?_
     refine zcall s rfl rfl TF.goes_154 ?_
     rintro _ h31 ⟨rfl, s⟩
     refine au 6 rfl ?_
     exact zr (s.imp fun _ q => ⟨_, _, _, rfl, q⟩)
theorem C_slices_Clone_s_draft_entry_file_File_draft_entry_file_File.of {B : RO} {a1 : Option Addr} {n2 : Nat} {c3 : Nat} {h : Heap} {Q : Option Addr → Nat → Nat → Heap → Prop} (s : S_slices_Clone_s_draft_entry_file_File_draft_entry_file_File B a1 n2 c3 h Q) : C_slices_Clone_s_draft_entry_file_File_draft_entry_file_File B a1 n2 c3 h Q := by
 refine zspec Tryz.func150 [ResultVar.tmp 2] rfl rfl rfl rfl rfl ?_
 refine au 8 rfl ?_
 by_cases hb7 : a1 = none
 ·replace s := s.1 hb7
  refine zg rfl (sem_slNilT (a1) (n2) (c3) (.inl rfl) true rfl rfl TF.sl_205 hb7 rfl ?_)
  refine au 6 rfl ?_
  exact zr (s.imp fun _ q => ⟨_, _, _, rfl, q⟩)
 ·replace s := s.2 hb7
  refine zg rfl (sem_slNilF (a1) (n2) (c3) (.inl rfl) false rfl rfl TF.sl_205 hb7 rfl ?_)
  refine au 5 rfl ?_
  refine zg rfl (sem_buildSlice0N TF.slc_205 (fun k8 hb1 hb2 h9 hb3 => ?_))
  have s := s k8 hb1 hb2 h9 hb3
  refine au 1 rfl ?_
  refine zg rfl (sem_appendL [(.slice (some ⟨k8, 0, none⟩) 0 0), (.slice a1 n2 c3)] rfl (semH_mono (fun v h10 hv => ?_) s))
  obtain ⟨a11, n12, c13, rfl, s⟩ := hv
  refine au 2 rfl ?_
  exact zr (s.imp fun _ q => ⟨_, _, _, rfl, q⟩)
theorem C_slices_BinarySearchFunc_s_draft_entry_file_File_draft_entry_file_File_int.of {B : RO} {a1 : Option Addr} {n2 : Nat} {c3 : Nat} {i4 : Int} {v5 : Value} {h : Heap} {Q : Int → Bool → Heap → Prop} (s : S_slices_BinarySearchFunc_s_draft_entry_file_File_draft_entry_file_File_int B a1 n2 c3 i4 v5 h Q) : C_slices_BinarySearchFunc_s_draft_entry_file_File_draft_entry_file_File_int B a1 n2 c3 i4 v5 h Q := by
 refine zspec Tryz.func151 [ResultVar.tmp 6, ResultVar.tmp 7] rfl rfl rfl rfl rfl ?_
 refine au 8 rfl ?_
 refine zg rfl (sem_lenSl a1 n2 c3 rfl TF.sl_205 ?_)
 refine au 8 rfl ?_
 refine Run.seqJ (fun e h10 => ∃ i9 : Int, Agree [(0, (.slice a1 n2 c3)), (1, (.int .i64 (i4))), (2, v5), (8, (.int .i64 ((n2 : Nat)))), (9, (.int .i64 (i9)))] e ∧ S_slices_BinarySearchFunc_s_draft_entry_file_File_draft_entry_file_File_int_J1 B a1 n2 c3 i4 v5 i9 h10 Q) ?_ fun j8 => ?_
 ·rintro e h10 ⟨i9, hag, s⟩
  refine Run.env hag ?_; clear hag
  refine au 5 rfl ?_
  refine zt s rfl rfl rfl binI_lss_t binI_lss_f (fun s => ?_) fun s => ?_
  ·refine au 4 rfl ?_
   obtain ⟨A11, e12, hi0, hi1, s⟩ := s
   refine zg rfl (sem_indexAddrS A11 n2 c3 .i64 (i9) (congrArg (fun a => Value.slice a n2 c3) e12) rfl TF.slc_205 hi0 hi1 ?_)
   obtain ⟨i13, b14, s15, hl, s⟩ := s
   refine zn hl rfl rfl TF.agg_213 TF.sz_213 rfl ?_
   refine au 1 rfl ?_
   refine zg rfl (sem_callV (v5) [(.agg #[(.int .i64 (i13)), (.bool b14), (.string s15)]), (.int .i64 (i4))] rfl rfl s (fun nx h' ha => ha.mono fun v h16 hv => ?_))
   obtain ⟨i17, rfl, s⟩ := hv
   refine au 5 rfl ?_
   exact zr (s.imp fun _ q => ⟨_, _, rfl, q⟩)
  ·refine au 13 rfl ?_
   exact zr (s.imp fun _ q => ⟨_, _, rfl, q⟩)
 refine au 1 rfl ?_
 obtain ⟨J24, m22, h0, s⟩ := s
 refine Run.of_fin (h0.imp fun h' h0 => ?_)
 refine Run.loop (σ := Int × Int × Nat) (fun x e h => J24 x.1 x.2.1 x.2.2 h ∧ Agree [(0, (.slice a1 n2 c3)), (1, (.int .i64 (i4))), (2, v5), (8, (.int .i64 ((n2 : Nat)))), (9, (.int .i64 (x.1))), (10, (.int .i64 (x.2.1)))] e) (fun x => x.2.2) ((0), ((n2 : Nat)), m22) ⟨h0, ⟨rfl, rfl, rfl, rfl, rfl, rfl, trivial⟩⟩ ?_; clear h0
 rintro ⟨i18, i19, m21⟩ e h20 ⟨hJ, hag⟩ ih23
 have s := s i18 i19 m21 h20 hJ; clear hJ
 refine Run.env hag ?_; clear hag
 refine au 5 rfl ?_
 refine zt s rfl rfl rfl binI_lss_t binI_lss_f (fun s => ?_) fun s => ?_
 ·refine au 9 rfl ?_
  refine zg rfl (sem_convI .i64 .u64 (IntKind.wrap .i64 ((i18) + (i19))) rfl TF.int_3 TF.int_234 ?_)
  obtain ⟨hi0, s⟩ := s
  refine zg rfl (sem_shr .u64 .u64 (IntKind.wrap .u64 (IntKind.wrap .i64 ((i18) + (i19)))) (1) rfl rfl hi0 ?_)
  refine zg rfl (sem_convI .u64 .i64 (Int.fdiv (IntKind.wrap .u64 (IntKind.wrap .i64 ((i18) + (i19)))) (2 ^ (min (Int.toNat (1)) (IntKind.bits .u64)))) rfl TF.int_234 TF.int_3 ?_)
  refine au 7 rfl ?_
  obtain ⟨A25, e26, hi0, hi1, s⟩ := s
  refine zg rfl (sem_indexAddrS A25 n2 c3 .i64 (IntKind.wrap .i64 (Int.fdiv (IntKind.wrap .u64 (IntKind.wrap .i64 ((i18) + (i19)))) (2 ^ (min (Int.toNat (1)) (IntKind.bits .u64))))) (congrArg (fun a => Value.slice a n2 c3) e26) rfl TF.slc_205 hi0 hi1 ?_)
  obtain ⟨i27, b28, s29, hl, s⟩ := s
  refine zn hl rfl rfl TF.agg_213 TF.sz_213 rfl ?_
  refine au 1 rfl ?_
  refine zg rfl (sem_callV (v5) [(.agg #[(.int .i64 (i27)), (.bool b28), (.string s29)]), (.int .i64 (i4))] rfl rfl s (fun nx h' ha => ha.mono fun v h30 hv => ?_))
  obtain ⟨i31, rfl, s⟩ := hv
  refine zt s rfl rfl rfl binI_lss_t binI_lss_f (fun s => ?_) fun s => ?_
  ·refine au 8 rfl ?_
   exact Run.of_fin (s.imp fun h' ⟨m', hm, s⟩ => ih23 ((IntKind.wrap .i64 ((IntKind.wrap .i64 (Int.fdiv (IntKind.wrap .u64 (IntKind.wrap .i64 ((i18) + (i19)))) (2 ^ (min (Int.toNat (1)) (IntKind.bits .u64))))) + (1))), (i19), m') _ _ ⟨s, ⟨rfl, rfl, rfl, rfl, rfl, rfl, trivial⟩⟩ hm)
  ·refine au 7 rfl ?_
   exact Run.of_fin (s.imp fun h' ⟨m', hm, s⟩ => ih23 ((i18), (IntKind.wrap .i64 (Int.fdiv (IntKind.wrap .u64 (IntKind.wrap .i64 ((i18) + (i19)))) (2 ^ (min (Int.toNat (1)) (IntKind.bits .u64))))), m') _ _ ⟨s, ⟨rfl, rfl, rfl, rfl, rfl, rfl, trivial⟩⟩ hm)
 ·refine au 3 rfl ?_
  exact Run.of_fin (s.imp fun h' s => j8 _ _ ⟨(i18), ⟨rfl, rfl, rfl, rfl, rfl, trivial⟩, s⟩)
theorem C_draft_by_file_File.of {B : RO} {i1 : Int} {b2 : Bool} {s3 : ByteArray} {i4 : Int} {h : Heap} {Q : Int → Heap → Prop} (s : S_draft_by_file_File B i1 b2 s3 i4 h Q) : C_draft_by_file_File B i1 b2 s3 i4 h Q := by
 refine zspec Tryz.func152 [ResultVar.tmp 4] rfl rfl rfl rfl rfl ?_
 refine au 2 rfl ?_
 refine zbn s rfl rfl rfl fun k6 h7 s => ?_
 refine au 7 rfl ?_
 refine zl s rfl rfl TF.agg_3 fun i8 s => ?_
 refine au 1 rfl ?_
 refine zt s rfl rfl rfl binI_lss_t binI_lss_f (fun s => ?_) fun s => ?_
 ·refine au 7 rfl ?_
  exact zr (s.imp fun _ q => ⟨_, rfl, q⟩)
 ·refine au 6 rfl ?_
  refine zl s rfl rfl TF.agg_3 fun i9 s => ?_
  refine au 1 rfl ?_
  refine zt s rfl rfl rfl binI_gtr_t binI_gtr_f (fun s => ?_) fun s => ?_
  ·refine au 7 rfl ?_
   exact zr (s.imp fun _ q => ⟨_, rfl, q⟩)
  ·refine au 9 rfl ?_
   exact zr (s.imp fun _ q => ⟨_, rfl, q⟩)
end Go.Proofs.YtgldgabefiialaaGreat.H
namespace Go.Proofs.YtgldgabefiialaaGreat.H
open Go
set_option linter.unusedVariables false
set_option maxRecDepth 100000
def entC_int (x : Int × Int) : List Value := [.int .i64 x.1, .int .i64 x.2]
theorem entC_int_len (x : Int × Int) : (entC_int x).length = 2 := rfl
theorem entC_int_one (x : Int × Int) : ∀ y ∈ entC_int x, isOne y = true := fun y hy => by simp [entC_int] at hy; rcases hy with rfl | rfl <;> rfl
theorem TK.slc_ent_int : slcB PG TY.s_draft_entry_int = some (TY.draft_entry_int, 2, 16) := by kernel_rfl
theorem TK.zero_ent_int : zeroB PG TY.draft_entry_int = some [.int .i64 0, .int .i64 0] := by kernel_rfl
theorem TK.sl_ent_int : slT PG TY.s_draft_entry_int = true := by kernel_rfl
theorem TK.int_ent_int : intB PG TY.int = some .i64 := by kernel_rfl
def DRow_int (r : Option (Nat × AObj)) (v : Value) (l : List (Int × Int)) : Prop := Row r v TY.draft_entry_int 2 (l.flatMap entC_int)
def drO_int (v : Value) : AObj := .vec TY.draft_Draft_int (plains [v]) 1
structure DAt_int (L : List (Option (Nat × AObj))) (i k : Nat) (v : Value) (r : Option (Nat × AObj)) : Prop where
  p : L[i]? = some (some (k, drO_int v))
  q : L[i + 1]? = some r
def drE_int (k : Nat) (v : Value) (r : Option (Nat × AObj)) : List (Option (Nat × AObj)) := [some (k, drO_int v), r]
section
variable {B : RO} {h0 h h' : Heap} {L : List (Option (Nat × AObj))} {r : Option (Nat × AObj)} {i k : Nat} {a : Option Addr} {m c : Nat} {v : Value} {l : List (Int × Int)}
theorem by_int_wp {x : Int × Int} {n : Int} {Q : Int → Heap → Prop} (hQ : Q (if x.1 < n then -1 else if n < x.1 then 1 else 0) h) : C_draft_by_int B x.1 (x.2) n h Q := by
  refine C_draft_by_int.of ?_
  unfold S_draft_by_int
  intro k5 a5 b5 h6 e6
  have E := (Keep.nil B h).made a5 b5 e6
  refine ⟨_, E.cell 0 rfl rfl, fun h1 => Fin.ent E.back (Fin.of ?_), fun h1 => ⟨_, E.cell 0 rfl rfl, fun h2 => Fin.ent E.back (Fin.of ?_), fun h2 => Fin.ent E.back (Fin.of ?_)⟩⟩
  · rw [if_pos h1] at hQ; exact hQ
  · rw [if_neg h1, if_pos h2] at hQ; exact hQ
  · rw [if_neg h1, if_neg (fun h => h2 h)] at hQ; exact hQ
theorem bsearch_int_wp {n : Int} {Q : Int → Bool → Heap → Prop} (hr : Reads B h a 2 entC_int l) (s : SortD l) (hl : l.length ≤ 1000000) (hQ : ∀ p, PosD l n p → Q (p : Nat) (foundD l p n) h) : C_slices_BinarySearchFunc_s_draft_entry_int_draft_entry_int_int B a l.length c n (Value.func (.func FN.draft_by_int) #[] #[]) h Q := by
  refine C_slices_BinarySearchFunc_s_draft_entry_int_draft_entry_int_int.of ?_
  unfold S_slices_BinarySearchFunc_s_draft_entry_int_draft_entry_int_int
  refine ⟨fun i j m h' => ∃ lo hi : Nat, i = lo ∧ j = hi ∧ m = hi - lo ∧ lo ≤ hi ∧ hi ≤ l.length ∧ (∀ (q : Nat) (x : Int × Int), q < lo → l[q]? = some x → x.1 < n) ∧ (∀ (q : Nat) (x : Int × Int), hi ≤ q → l[q]? = some x → n ≤ x.1) ∧ h = h', l.length, Fin.of ⟨0, l.length, rfl, rfl, rfl, by omega, Nat.le_refl _, fun q x hq => by omega, fun q x hq hx => by have := (List.getElem?_eq_some_iff.1 hx).1; omega, rfl⟩, ?_⟩
  rintro _ _ _ _ ⟨lo, hi, rfl, rfl, rfl, hlh, hhl, hlo, hhi, rfl⟩
  refine ⟨fun hlt => ⟨by decide, ?_⟩, fun hge => Fin.of ?_⟩
  · have hmid : IntKind.wrap .i64 (Int.fdiv (IntKind.wrap .u64 (IntKind.wrap .i64 (((lo : Nat) : Int) + ((hi : Nat) : Int)))) (2 ^ (min (Int.toNat (1)) (IntKind.bits .u64)))) = (((lo + hi) / 2 : Nat) : Int) := by
      have e1 : IntKind.wrap .i64 (((lo : Nat) : Int) + ((hi : Nat) : Int)) = ((lo + hi : Nat) : Int) := by rw [w64 (by omega) (by omega)]; omega
      have e2 : IntKind.wrap .u64 ((lo + hi : Nat) : Int) = ((lo + hi : Nat) : Int) := by rw [wu64]; omega
      rw [e1, e2, two1, Int.fdiv_eq_ediv_of_nonneg _ (by decide), w64 (by omega) (by omega)]; omega
    rw [hmid]
    have hml : (lo + hi) / 2 < l.length := by omega
    have hx := List.getElem?_eq_getElem hml
    have hb : lo ≤ (lo + hi) / 2 ∧ (lo + hi) / 2 < hi := by omega
    generalize (lo + hi) / 2 = mid at hml hx hb
    generalize l[mid] = x at hx
    obtain ⟨A, e1, _, e4⟩ := hr mid x hx
    have hw : IntKind.wrap .i64 (((mid : Nat) : Int) + 1) = ((mid + 1 : Nat) : Int) := by rw [w64 (by omega) (by omega)]; omega
    rw [hw]
    refine ⟨A, e1, by omega, by omega, x.1, x.2, e4, ?_⟩
    refine CallV.func TG.draft_by_int (by_int_wp (x := x) ⟨fun h1 => Fin.of ⟨hi - (mid + 1), by omega, mid + 1, hi, rfl, rfl, rfl, by omega, hhl, fun q y hq hy => ?_, hhi, rfl⟩, fun h1 => Fin.of ⟨mid - lo, by omega, lo, mid, rfl, rfl, rfl, by omega, by omega, hlo, fun q y hq hy => ?_, rfl⟩⟩)
    · have hx1 : x.1 < n := by
        by_cases h2 : x.1 < n
        · exact h2
        · rw [if_neg h2] at h1; split at h1 <;> omega
      by_cases h : q = mid
      · subst h; rw [hx] at hy; cases hy; exact hx1
      · have := s.get (show q < mid by omega) hy hx; omega
    · have hx1 : n ≤ x.1 := by
        by_cases h2 : x.1 < n
        · rw [if_pos h2] at h1; omega
        · omega
      by_cases h : q = mid
      · subst h; rw [hx] at hy; cases hy; exact hx1
      · have := s.get (show mid < q by omega) hx hy; omega
  · have : lo = hi := by omega
    subst this
    have K : PosD l n lo := ⟨hhl, hlo, hhi⟩
    have hq := hQ lo K
    unfold S_slices_BinarySearchFunc_s_draft_entry_int_draft_entry_int_int_J1
    refine ⟨fun hlt2 => ?_, fun hge2 => Fin.of ?_⟩
    · have hml : lo < l.length := by omega
      have hx := List.getElem?_eq_getElem hml
      generalize l[lo] = x at hx
      obtain ⟨A, e1, _, e4⟩ := hr lo x hx
      have hf : foundD l lo n = (x.1 == n) := by rw [foundD, hx]
      rw [hf] at hq
      refine ⟨A, e1, by omega, by omega, x.1, x.2, e4, ?_⟩
      refine CallV.func TG.draft_by_int (by_int_wp (x := x) (Fin.of ?_))
      have : (((if x.1 < n then -1 else if n < x.1 then 1 else 0 : Int)) == (0 : Int)) = (x.1 == n) := by
        rw [Bool.eq_iff_iff, beq_iff_eq, beq_iff_eq]
        split
        · omega
        · split <;> omega
      rw [this]; exact hq
    · have hf : foundD l lo n = false := by rw [foundD, List.getElem?_eq_none (by omega)]
      rw [hf] at hq; exact hq
theorem DRow_int.len (R : DRow_int r (.slice a m c) l) : m = l.length := (Row.rd (B := fun _ => none) R entC_int_len (by omega)).1
theorem find_int_wp {n : Int} {Q : Int → Bool → Heap → Prop} (E : Keep B h0 L h) (A : DAt_int L i k v r) (R : DRow_int r v l) (s : SortD l) (hl : l.length ≤ 1000000) (hQ : ∀ p, PosD l n p → Q (p : Nat) (foundD l p n) h) : C_draft_Draft_int_find B (some ⟨k, 0, none⟩) n h Q := by
  refine C_draft_Draft_int_find.of ?_
  unfold S_draft_Draft_int_find
  obtain ⟨a, m, c, rfl⟩ := Row.slice R
  obtain ⟨rfl, hrd⟩ := Row.rd (B := B) R entC_int_len (by omega)
  exact ⟨_, rfl, .inl ⟨a, _, c, E.cell i A.p rfl, bsearch_int_wp (hrd h fun k o e => E.at (i + 1) (by rw [A.q, e])) s hl fun p K => Fin.of (hQ p K)⟩⟩
theorem get_int_wp {n : Int} {Q : Int → Bool → Heap → Prop} (E : Keep B h0 L h) (A : DAt_int L i k v r) (R : DRow_int r v l) (s : SortD l) (hl : l.length ≤ 1000000) (hQ : Q ((atD l n).getD 0) (atD l n).isSome h) : C_draft_Draft_int_Get B (some ⟨k, 0, none⟩) n h Q := by
  refine C_draft_Draft_int_Get.of ?_
  unfold S_draft_Draft_int_Get
  refine ⟨fun e => (by cases e), fun _ => find_int_wp E A R s hl fun p K => ⟨fun hf => ?_, fun hf => Fin.of ?_⟩⟩
  · obtain ⟨x, hx, rfl⟩ := foundD_some hf
    have hpl := (List.getElem?_eq_some_iff.1 hx).1
    rw [atD_old K hx rfl] at hQ
    obtain ⟨a, m, c, rfl⟩ := Row.slice R
    obtain ⟨rfl, hrd⟩ := Row.rd (B := B) R entC_int_len (by omega)
    obtain ⟨A', e1, _, e4⟩ := hrd h (fun k o e => E.at (i + 1) (by rw [A.q, e])) p x hx
    refine ⟨_, rfl, .inl ⟨a, _, c, E.cell i A.p rfl, A', e1, by omega, by omega, x.2, ?_, Fin.of hQ⟩⟩
    exact e4.2.1
  · rw [atD_new s K hf] at hQ; exact hQ
theorem ins_int_eq {a5 : Option Addr} {n n6 c7 : Nat} {i : Int} {Q : Option Addr → Nat → Nat → Heap → Prop} : S_slices_Insert_s_draft_entry_int_draft_entry_int B a n c i a5 n6 c7 h Q = InsP PG TY.s_draft_entry_int 2 TY.bool TY.int (fun B => C_slices_rotateRight_draft_entry_int B) B a n c i a5 n6 c7 h Q := by
  unfold S_slices_Insert_s_draft_entry_int_draft_entry_int InsP
  congr
theorem put_int_wp {n : Int} {x : Int} {Q : Bool → Heap → Prop} (E : Keep B h0 L h) (A : DAt_int L i k v r) (R : DRow_int r v l) (s : SortD l) (hl : l.length ≤ 100000) (hQ : ∀ v' r' h', DRow_int r' v' (insD l n x) → Keep B h0 ((L.set i (some (k, drO_int v'))).set (i + 1) r') h' → Q true h') : C_draft_Draft_int_Put B (some ⟨k, 0, none⟩) n x h Q := by
  refine C_draft_Draft_int_Put.of ?_
  unfold S_draft_Draft_int_Put
  have hil : i < L.length := (List.getElem?_eq_some_iff.1 A.p).1
  have hil1 : i + 1 < L.length := (List.getElem?_eq_some_iff.1 A.q).1
  refine ⟨fun e => (by cases e), fun _ => find_int_wp E A R s (by omega) fun p K => ⟨fun hf => ?_, fun hf => ?_⟩⟩
  · obtain ⟨y, hy, rfl⟩ := foundD_some hf
    have hpl := (List.getElem?_eq_some_iff.1 hy).1
    have hi := insD_old (v := x) K hf
    obtain ⟨a, m, c, rfl⟩ := Row.slice R
    have hm := DRow_int.len R
    subst hm
    have hfl := flatMap_length entC_int_len l
    rcases R with ⟨_, e1, e2⟩ | ⟨kr, m', c', nn, js, e0, e1, e3, e4, e5⟩
    · rw [e2] at hfl; simp at hfl; omega
    · cases e1
      have hq := A.q
      rw [e0] at hq
      have hsp := flatMap_splitR (cells := entC_int) l p hpl
      have hly : l[p] = y := by rw [List.getElem?_eq_getElem hpl] at hy; exact Option.some.inj hy
      have htl : ((l.take p).flatMap entC_int).length = p * 2 := by rw [flatMap_length entC_int_len, List.length_take]; omega
      have hle : (l.length : Nat) * 2 ≤ nn := Nat.le_trans (Nat.mul_le_mul_right _ e4) e5
      obtain ⟨h32, st, E2⟩ := E.storesV (i + 1) (k := kr) (nn := nn) (t := TY.draft_entry_int) (fs := (l.take p).flatMap entC_int ++ [.int .i64 y.1]) (gs := [.int .i64 y.2] ++ ((l.drop (p + 1)).flatMap entC_int ++ js)) (by
        rw [hq, hsp, hly]; simp [entC_int, List.append_assoc]) [.int .i64 x] (by simp [isOne]) (p * 2 + 1) (by rw [List.length_append, htl]; rfl) (by simp; omega)
      refine ⟨_, rfl, .inl ⟨_, _, _, E.cell i A.p rfl, _, rfl, by omega, by omega, ?_⟩⟩
      rw [addr_more, addr_more, Nat.zero_add, Int.toNat_natCast]
      have hs : L.set i (some (k, drO_int (.slice (some ⟨kr, 0, none⟩) l.length c))) = L := by
        obtain ⟨hl, e⟩ := List.getElem?_eq_some_iff.1 A.p
        rw [← e]; exact List.set_getElem_self hl
      have hfin : Q true h32 := by
        refine hQ (.slice (some ⟨kr, 0, none⟩) l.length c) _ h32 (.inr ⟨kr, l.length, c, nn, js, rfl, rfl, ?_, e4, e5⟩) ?_
        · rw [hi, flatMap_length entC_int_len, List.length_set]
        · rw [hs, hi, flatMap_setR _ _ _ hpl]
          refine cast ?_ E2
          congr 6
          simp [entC_int, List.append_assoc]
      obtain ⟨_, h33, s1, s2⟩ := st
      cases s2
      exact ⟨_, s1, Fin.of hfin⟩
  · have hi := insD_new (v := x) K hf
    obtain ⟨a, m, c, rfl⟩ := Row.slice R
    have hm := DRow_int.len R
    subst hm
    have hfl := flatMap_length entC_int_len l
    refine ⟨_, rfl, .inl ⟨a, _, c, E.cell i A.p rfl, fun k15 a15 b15 h16 e16 => ?_⟩⟩
    have E1 := E.made a15 b15 e16
    refine C_slices_Insert_s_draft_entry_int_draft_entry_int.of ?_
    rw [ins_int_eq]
    refine insP_wp TK.slc_ent_int TK.zero_ent_int rfl (by omega) (by omega) TK.sl_ent_int TK.int_ent_int (by decide) E1 (i + 1) (up_app _ A.q) R ?_ L.length (kx := k15) (ys := entC_int (n, x)) (by rw [List.getElem?_append_right (Nat.le_refl _), Nat.sub_self]; rfl) rfl (entC_int_one _) (by omega) p K.le (by rw [hfl]; omega) ?_
    · intro y hy
      obtain ⟨z, _, hz⟩ := List.mem_flatMap.1 hy
      exact entC_int_one z y hz
    · intro a' c' r' h17 R' E2
      rw [List.set_append_left _ _ hil1] at E2
      have E3 := E2.pop
      have hp3 : (L.set (i + 1) r')[i]? = some (some (k, drO_int (.slice a l.length c))) := by rw [List.getElem?_set_ne (by omega)]; exact A.p
      obtain ⟨es, E4⟩ := E3.store i 0 (.slice a' (l.length + 1) c') hp3 rfl
      refine ⟨_, rfl, _, es, Fin.of (hQ (.slice a' (l.length + 1) c') r' _ ?_ ?_)⟩
      · rw [hi]
        unfold DRow_int
        have e1 : (l.flatMap entC_int).take (p * 2) = (l.take p).flatMap entC_int := take_flatMap entC_int_len l p
        have e2 : (l.flatMap entC_int).drop (p * 2) = (l.drop p).flatMap entC_int := by
          have h2 : l.flatMap entC_int = (l.take p).flatMap entC_int ++ (l.drop p).flatMap entC_int := by rw [← List.flatMap_append, List.take_append_drop]
          rw [h2, List.drop_left']
          rw [flatMap_length entC_int_len, List.length_take, Nat.min_eq_left K.le]
        rw [e1, e2] at R'
        rw [List.flatMap_append, List.flatMap_cons, ← List.append_assoc]
        exact R'
      · rw [List.set_comm _ _ (by omega)] at E4
        exact E4
theorem copy_int_wp {Q : Option Addr → Heap → Prop} (E : Keep B h0 L h) (A : DAt_int L i k v r) (R : DRow_int r v l) (hl : l.length ≤ 100000) (hQ : ∀ k' v' r' h', DRow_int r' v' l → Keep B h0 (L ++ drE_int k' v' r') h' → Q (some ⟨k', 0, none⟩) h') : C_draft_Draft_int_Copy B (some ⟨k, 0, none⟩) h Q := by
  refine C_draft_Draft_int_Copy.of ?_
  unfold S_draft_Draft_int_Copy
  obtain ⟨a, m, c, rfl⟩ := Row.slice R
  have hm := DRow_int.len R
  subst hm
  have hfl := flatMap_length entC_int_len l
  refine ⟨fun e => (by cases e), fun _ => ⟨_, rfl, .inl ⟨a, _, c, E.cell i A.p rfl, ?_⟩⟩⟩
  refine C_slices_Clone_s_draft_entry_int_draft_entry_int.of ?_
  unfold S_slices_Clone_s_draft_entry_int_draft_entry_int
  have swap : ∀ {h1 : Heap} {k1 : Nat} {v1 : Value} {r1 : Option (Nat × AObj)}, Keep B h0 (L ++ [r1] ++ [some (k1, drO_int v1)]) h1 → Keep B h0 (L ++ drE_int k1 v1 r1) h1 := fun {h1 k1 v1 r1} E1 => by
    have e0 : L ++ drE_int k1 v1 r1 = L ++ [some (k1, drO_int v1)] ++ [r1] := by simp [drE_int]
    rw [e0]
    have E2 := E1.swapLast
    exact E2
  refine ⟨fun hn => Fin.of ?_, fun hn => ?_⟩
  · intro k14 a14 b14 h15 e15
    have h0' : l = [] := by
      rcases R with ⟨_, e1, e2⟩ | ⟨kr, m', c', nn, js, e0, e1, e3, e4, e5⟩
      · rw [e2] at hfl; simp at hfl; exact List.length_eq_zero_iff.1 (by omega)
      · cases e1; cases hn
    subst h0'
    exact Fin.of (hQ k14 _ none h15 (Row.nil _ _) (swap (E.gap.made a14 b14 e15)))
  · intro k8 a8 b8 h9 e9
    have E1 := E.made a8 b8 e9
    have R1 : Row (some (k8, AObj.vec TY.draft_entry_int [] 0)) (.slice (some ⟨k8, 0, none⟩) 0 0) TY.draft_entry_int 2 [] := .inr ⟨k8, 0, 0, 0, [], rfl, rfl, by simp, Nat.le_refl _, by simp⟩
    have hsrc := Row.src (B := B) (h := h9) R (fun k o e => E1.at (i + 1) (by rw [up_app _ A.q, e])) entC_int_len (by omega) entC_int_one
    refine E1.pushS L.length (by rw [List.getElem?_append_right (Nat.le_refl _), Nat.sub_self]; rfl) R1 TK.slc_ent_int TK.zero_ent_int rfl (by omega) (by omega) TK.sl_ent_int hsrc (by rw [hfl]; simp; omega) fun a' m' c' r' h10 R' E2 => ⟨_, _, _, rfl, Fin.of ?_⟩
    intro k14 a14 b14 h15 e15
    rw [List.set_append_right _ _ (Nat.le_refl _), Nat.sub_self] at E2
    have E3 := E2.made a14 b14 e15
    exact Fin.of (hQ k14 _ r' h15 (by rw [List.nil_append] at R'; exact R') (swap E3))
end
end Go.Proofs.YtgldgabefiialaaGreat.H
namespace Go.Proofs.YtgldgabefiialaaGreat.H
open Go
set_option linter.unusedVariables false
set_option maxRecDepth 100000
def entC_file_File (x : Int × (Bool × ByteArray)) : List Value := [.int .i64 x.1, .bool x.2.1, .string x.2.2]
theorem entC_file_File_len (x : Int × (Bool × ByteArray)) : (entC_file_File x).length = 3 := rfl
theorem entC_file_File_one (x : Int × (Bool × ByteArray)) : ∀ y ∈ entC_file_File x, isOne y = true := fun y hy => by simp [entC_file_File] at hy; rcases hy with rfl | rfl | rfl <;> rfl
theorem TK.slc_ent_file_File : slcB PG TY.s_draft_entry_file_File = some (TY.draft_entry_file_File, 3, 32) := by kernel_rfl
theorem TK.zero_ent_file_File : zeroB PG TY.draft_entry_file_File = some [.int .i64 0, .bool false, .string ByteArray.empty] := by kernel_rfl
theorem TK.sl_ent_file_File : slT PG TY.s_draft_entry_file_File = true := by kernel_rfl
theorem TK.int_ent_file_File : intB PG TY.int = some .i64 := by kernel_rfl
def DRow_file_File (r : Option (Nat × AObj)) (v : Value) (l : List (Int × (Bool × ByteArray))) : Prop := Row r v TY.draft_entry_file_File 3 (l.flatMap entC_file_File)
def drO_file_File (v : Value) : AObj := .vec TY.draft_Draft_file_File (plains [v]) 1
structure DAt_file_File (L : List (Option (Nat × AObj))) (i k : Nat) (v : Value) (r : Option (Nat × AObj)) : Prop where
  p : L[i]? = some (some (k, drO_file_File v))
  q : L[i + 1]? = some r
def drE_file_File (k : Nat) (v : Value) (r : Option (Nat × AObj)) : List (Option (Nat × AObj)) := [some (k, drO_file_File v), r]
section
variable {B : RO} {h0 h h' : Heap} {L : List (Option (Nat × AObj))} {r : Option (Nat × AObj)} {i k : Nat} {a : Option Addr} {m c : Nat} {v : Value} {l : List (Int × (Bool × ByteArray))}
theorem by_file_File_wp {x : Int × (Bool × ByteArray)} {n : Int} {Q : Int → Heap → Prop} (hQ : Q (if x.1 < n then -1 else if n < x.1 then 1 else 0) h) : C_draft_by_file_File B x.1 x.2.1 x.2.2 n h Q := by
  refine C_draft_by_file_File.of ?_
  unfold S_draft_by_file_File
  intro k5 a5 b5 h6 e6
  have E := (Keep.nil B h).made a5 b5 e6
  refine ⟨_, E.cell 0 rfl rfl, fun h1 => Fin.ent E.back (Fin.of ?_), fun h1 => ⟨_, E.cell 0 rfl rfl, fun h2 => Fin.ent E.back (Fin.of ?_), fun h2 => Fin.ent E.back (Fin.of ?_)⟩⟩
  · rw [if_pos h1] at hQ; exact hQ
  · rw [if_neg h1, if_pos h2] at hQ; exact hQ
  · rw [if_neg h1, if_neg (fun h => h2 h)] at hQ; exact hQ
theorem bsearch_file_File_wp {n : Int} {Q : Int → Bool → Heap → Prop} (hr : Reads B h a 3 entC_file_File l) (s : SortD l) (hl : l.length ≤ 1000000) (hQ : ∀ p, PosD l n p → Q (p : Nat) (foundD l p n) h) : C_slices_BinarySearchFunc_s_draft_entry_file_File_draft_entry_file_File_int B a l.length c n (Value.func (.func FN.draft_by_file_File) #[] #[]) h Q := by
  refine C_slices_BinarySearchFunc_s_draft_entry_file_File_draft_entry_file_File_int.of ?_
  unfold S_slices_BinarySearchFunc_s_draft_entry_file_File_draft_entry_file_File_int
  refine ⟨fun i j m h' => ∃ lo hi : Nat, i = lo ∧ j = hi ∧ m = hi - lo ∧ lo ≤ hi ∧ hi ≤ l.length ∧ (∀ (q : Nat) (x : Int × (Bool × ByteArray)), q < lo → l[q]? = some x → x.1 < n) ∧ (∀ (q : Nat) (x : Int × (Bool × ByteArray)), hi ≤ q → l[q]? = some x → n ≤ x.1) ∧ h = h', l.length, Fin.of ⟨0, l.length, rfl, rfl, rfl, by omega, Nat.le_refl _, fun q x hq => by omega, fun q x hq hx => by have := (List.getElem?_eq_some_iff.1 hx).1; omega, rfl⟩, ?_⟩
  rintro _ _ _ _ ⟨lo, hi, rfl, rfl, rfl, hlh, hhl, hlo, hhi, rfl⟩
  refine ⟨fun hlt => ⟨by decide, ?_⟩, fun hge => Fin.of ?_⟩
  · have hmid : IntKind.wrap .i64 (Int.fdiv (IntKind.wrap .u64 (IntKind.wrap .i64 (((lo : Nat) : Int) + ((hi : Nat) : Int)))) (2 ^ (min (Int.toNat (1)) (IntKind.bits .u64)))) = (((lo + hi) / 2 : Nat) : Int) := by
      have e1 : IntKind.wrap .i64 (((lo : Nat) : Int) + ((hi : Nat) : Int)) = ((lo + hi : Nat) : Int) := by rw [w64 (by omega) (by omega)]; omega
      have e2 : IntKind.wrap .u64 ((lo + hi : Nat) : Int) = ((lo + hi : Nat) : Int) := by rw [wu64]; omega
      rw [e1, e2, two1, Int.fdiv_eq_ediv_of_nonneg _ (by decide), w64 (by omega) (by omega)]; omega
    rw [hmid]
    have hml : (lo + hi) / 2 < l.length := by omega
    have hx := List.getElem?_eq_getElem hml
    have hb : lo ≤ (lo + hi) / 2 ∧ (lo + hi) / 2 < hi := by omega
    generalize (lo + hi) / 2 = mid at hml hx hb
    generalize l[mid] = x at hx
    obtain ⟨A, e1, _, e4⟩ := hr mid x hx
    have hw : IntKind.wrap .i64 (((mid : Nat) : Int) + 1) = ((mid + 1 : Nat) : Int) := by rw [w64 (by omega) (by omega)]; omega
    rw [hw]
    refine ⟨A, e1, by omega, by omega, x.1, x.2.1, x.2.2, e4, ?_⟩
    refine CallV.func TG.draft_by_file_File (by_file_File_wp (x := x) ⟨fun h1 => Fin.of ⟨hi - (mid + 1), by omega, mid + 1, hi, rfl, rfl, rfl, by omega, hhl, fun q y hq hy => ?_, hhi, rfl⟩, fun h1 => Fin.of ⟨mid - lo, by omega, lo, mid, rfl, rfl, rfl, by omega, by omega, hlo, fun q y hq hy => ?_, rfl⟩⟩)
    · have hx1 : x.1 < n := by
        by_cases h2 : x.1 < n
        · exact h2
        · rw [if_neg h2] at h1; split at h1 <;> omega
      by_cases h : q = mid
      · subst h; rw [hx] at hy; cases hy; exact hx1
      · have := s.get (show q < mid by omega) hy hx; omega
    · have hx1 : n ≤ x.1 := by
        by_cases h2 : x.1 < n
        · rw [if_pos h2] at h1; omega
        · omega
      by_cases h : q = mid
      · subst h; rw [hx] at hy; cases hy; exact hx1
      · have := s.get (show mid < q by omega) hx hy; omega
  · have : lo = hi := by omega
    subst this
    have K : PosD l n lo := ⟨hhl, hlo, hhi⟩
    have hq := hQ lo K
    unfold S_slices_BinarySearchFunc_s_draft_entry_file_File_draft_entry_file_File_int_J1
    refine ⟨fun hlt2 => ?_, fun hge2 => Fin.of ?_⟩
    · have hml : lo < l.length := by omega
      have hx := List.getElem?_eq_getElem hml
      generalize l[lo] = x at hx
      obtain ⟨A, e1, _, e4⟩ := hr lo x hx
      have hf : foundD l lo n = (x.1 == n) := by rw [foundD, hx]
      rw [hf] at hq
      refine ⟨A, e1, by omega, by omega, x.1, x.2.1, x.2.2, e4, ?_⟩
      refine CallV.func TG.draft_by_file_File (by_file_File_wp (x := x) (Fin.of ?_))
      have : (((if x.1 < n then -1 else if n < x.1 then 1 else 0 : Int)) == (0 : Int)) = (x.1 == n) := by
        rw [Bool.eq_iff_iff, beq_iff_eq, beq_iff_eq]
        split
        · omega
        · split <;> omega
      rw [this]; exact hq
    · have hf : foundD l lo n = false := by rw [foundD, List.getElem?_eq_none (by omega)]
      rw [hf] at hq; exact hq
theorem DRow_file_File.len (R : DRow_file_File r (.slice a m c) l) : m = l.length := (Row.rd (B := fun _ => none) R entC_file_File_len (by omega)).1
theorem find_file_File_wp {n : Int} {Q : Int → Bool → Heap → Prop} (E : Keep B h0 L h) (A : DAt_file_File L i k v r) (R : DRow_file_File r v l) (s : SortD l) (hl : l.length ≤ 1000000) (hQ : ∀ p, PosD l n p → Q (p : Nat) (foundD l p n) h) : C_draft_Draft_file_File_find B (some ⟨k, 0, none⟩) n h Q := by
  refine C_draft_Draft_file_File_find.of ?_
  unfold S_draft_Draft_file_File_find
  obtain ⟨a, m, c, rfl⟩ := Row.slice R
  obtain ⟨rfl, hrd⟩ := Row.rd (B := B) R entC_file_File_len (by omega)
  exact ⟨_, rfl, .inl ⟨a, _, c, E.cell i A.p rfl, bsearch_file_File_wp (hrd h fun k o e => E.at (i + 1) (by rw [A.q, e])) s hl fun p K => Fin.of (hQ p K)⟩⟩
theorem copy_file_File_wp {Q : Option Addr → Heap → Prop} (E : Keep B h0 L h) (A : DAt_file_File L i k v r) (R : DRow_file_File r v l) (hl : l.length ≤ 100000) (hQ : ∀ k' v' r' h', DRow_file_File r' v' l → Keep B h0 (L ++ drE_file_File k' v' r') h' → Q (some ⟨k', 0, none⟩) h') : C_draft_Draft_file_File_Copy B (some ⟨k, 0, none⟩) h Q := by
  refine C_draft_Draft_file_File_Copy.of ?_
  unfold S_draft_Draft_file_File_Copy
  obtain ⟨a, m, c, rfl⟩ := Row.slice R
  have hm := DRow_file_File.len R
  subst hm
  have hfl := flatMap_length entC_file_File_len l
  refine ⟨fun e => (by cases e), fun _ => ⟨_, rfl, .inl ⟨a, _, c, E.cell i A.p rfl, ?_⟩⟩⟩
  refine C_slices_Clone_s_draft_entry_file_File_draft_entry_file_File.of ?_
  unfold S_slices_Clone_s_draft_entry_file_File_draft_entry_file_File
  have swap : ∀ {h1 : Heap} {k1 : Nat} {v1 : Value} {r1 : Option (Nat × AObj)}, Keep B h0 (L ++ [r1] ++ [some (k1, drO_file_File v1)]) h1 → Keep B h0 (L ++ drE_file_File k1 v1 r1) h1 := fun {h1 k1 v1 r1} E1 => by
    have e0 : L ++ drE_file_File k1 v1 r1 = L ++ [some (k1, drO_file_File v1)] ++ [r1] := by simp [drE_file_File]
    rw [e0]
    have E2 := E1.swapLast
    exact E2
  refine ⟨fun hn => Fin.of ?_, fun hn => ?_⟩
  · intro k14 a14 b14 h15 e15
    have h0' : l = [] := by
      rcases R with ⟨_, e1, e2⟩ | ⟨kr, m', c', nn, js, e0, e1, e3, e4, e5⟩
      · rw [e2] at hfl; simp at hfl; exact List.length_eq_zero_iff.1 (by omega)
      · cases e1; cases hn
    subst h0'
    exact Fin.of (hQ k14 _ none h15 (Row.nil _ _) (swap (E.gap.made a14 b14 e15)))
  · intro k8 a8 b8 h9 e9
    have E1 := E.made a8 b8 e9
    have R1 : Row (some (k8, AObj.vec TY.draft_entry_file_File [] 0)) (.slice (some ⟨k8, 0, none⟩) 0 0) TY.draft_entry_file_File 3 [] := .inr ⟨k8, 0, 0, 0, [], rfl, rfl, by simp, Nat.le_refl _, by simp⟩
    have hsrc := Row.src (B := B) (h := h9) R (fun k o e => E1.at (i + 1) (by rw [up_app _ A.q, e])) entC_file_File_len (by omega) entC_file_File_one
    refine E1.pushS L.length (by rw [List.getElem?_append_right (Nat.le_refl _), Nat.sub_self]; rfl) R1 TK.slc_ent_file_File TK.zero_ent_file_File rfl (by omega) (by omega) TK.sl_ent_file_File hsrc (by rw [hfl]; simp; omega) fun a' m' c' r' h10 R' E2 => ⟨_, _, _, rfl, Fin.of ?_⟩
    intro k14 a14 b14 h15 e15
    rw [List.set_append_right _ _ (Nat.le_refl _), Nat.sub_self] at E2
    have E3 := E2.made a14 b14 e15
    exact Fin.of (hQ k14 _ r' h15 (by rw [List.nil_append] at R'; exact R') (swap E3))
end
end Go.Proofs.YtgldgabefiialaaGreat.H
namespace Go.Proofs.YtgldgabefiialaaGreat.H
open Go Go.RowKit
set_option linter.unusedVariables false
set_option maxRecDepth 100000
abbrev DFL := List (Int × (Bool × ByteArray))
section
variable {B : RO} {h0 h h' : Heap} {L : List (Option (Nat × AObj))} {r : Option (Nat × AObj)} {i k k3 : Nat} {a : Option Addr} {m c : Nat} {v : Value} {l : DFL} {n : Int}
theorem ins_file_File_eq {a5 : Option Addr} {n n6 c7 : Nat} {i : Int} {Q : Option Addr → Nat → Nat → Heap → Prop} : S_slices_Insert_s_draft_entry_file_File_draft_entry_file_File B a n c i a5 n6 c7 h Q = InsP PG TY.s_draft_entry_file_File 3 TY.bool TY.int (fun B => C_slices_rotateRight_draft_entry_file_File B) B a n c i a5 n6 c7 h Q := by
  unfold S_slices_Insert_s_draft_entry_file_File_draft_entry_file_File InsP
  congr
theorem put_file_File_wp {n : Int} {x : Bool × ByteArray} {Q : Bool → Heap → Prop} (E : Keep B h0 L h) (A : DAt_file_File L i k v r) (R : DRow_file_File r v l) (s : SortD l) (hl : l.length ≤ 100000) (hQ : ∀ v' r' h', DRow_file_File r' v' (insD l n x) → Keep B h0 ((L.set i (some (k, drO_file_File v'))).set (i + 1) r') h' → Q true h') : C_draft_Draft_file_File_Put B (some ⟨k, 0, none⟩) n x.1 x.2 h Q := by
  refine C_draft_Draft_file_File_Put.of ?_
  unfold S_draft_Draft_file_File_Put
  have hil : i < L.length := (List.getElem?_eq_some_iff.1 A.p).1
  have hil1 : i + 1 < L.length := (List.getElem?_eq_some_iff.1 A.q).1
  intro k6 a6 b6 h7 e7
  have E0 : Keep B h0 (L ++ [some (k6, .vec TY.file_File (plains [.bool x.1, .string x.2]) 2)]) h7 := E.made a6 b6 e7
  have A0 : DAt_file_File (L ++ [some (k6, .vec TY.file_File (plains [.bool x.1, .string x.2]) 2)]) i k v r := ⟨up_app _ A.p, up_app _ A.q⟩
  have c6 : ∀ {h1 : Heap}, h1 k6 = some (.vec TY.file_File (plains [.bool x.1, .string x.2]) 2) → CellsAt B h1 ⟨k6, 0, none⟩ 0 [.bool x.1, .string x.2] := fun g => ⟨cellH_vec g rfl, cellH_vec g rfl, trivial⟩
  refine ⟨fun e => (by cases e), fun _ => find_file_File_wp E0 A0 R s (by omega) fun p K => ⟨fun hf => ?_, fun hf => ?_⟩⟩
  · obtain ⟨y, hy, rfl⟩ := foundD_some hf
    have hpl := (List.getElem?_eq_some_iff.1 hy).1
    have hi := insD_old (v := x) K hf
    obtain ⟨a, m, c, rfl⟩ := Row.slice R
    have hm := DRow_file_File.len R
    subst hm
    have hfl := flatMap_length entC_file_File_len l
    rcases R with ⟨_, e1, e2⟩ | ⟨kr, m', c', nn, js, e0, e1, e3, e4, e5⟩
    · rw [e2] at hfl; simp at hfl; omega
    · cases e1
      have hq := A0.q
      rw [e0] at hq
      have hsp := flatMap_splitR (cells := entC_file_File) l p hpl
      have hly : l[p] = y := by rw [List.getElem?_eq_getElem hpl] at hy; exact Option.some.inj hy
      have htl : ((l.take p).flatMap entC_file_File).length = p * 3 := by rw [flatMap_length entC_file_File_len, List.length_take]; omega
      have hle : (l.length : Nat) * 3 ≤ nn := Nat.le_trans (Nat.mul_le_mul_right _ e4) e5
      obtain ⟨h32, st, E2⟩ := E0.storesV (i + 1) (k := kr) (nn := nn) (t := TY.draft_entry_file_File) (fs := (l.take p).flatMap entC_file_File ++ [.int .i64 y.1]) (gs := [.bool y.2.1, .string y.2.2] ++ ((l.drop (p + 1)).flatMap entC_file_File ++ js)) (by
        rw [hq, hsp, hly]; simp [entC_file_File, List.append_assoc]) [.bool x.1, .string x.2] (by simp [isOne]) (p * 3 + 1) (by rw [List.length_append, htl]; rfl) (by simp; omega)
      refine ⟨_, rfl, _, _, _, E0.cell i A0.p rfl, _, _, c6 E0.last, _, rfl, by omega, by omega, h32, ?_, ?_⟩
      · rw [addr_more, addr_more, Nat.zero_add, Int.toNat_natCast]; exact st
      · have hs : L.set i (some (k, drO_file_File (.slice (some ⟨kr, 0, none⟩) l.length c))) = L := by
          obtain ⟨hl, e⟩ := List.getElem?_eq_some_iff.1 A.p
          rw [← e]; exact List.set_getElem_self hl
        rw [List.set_append_left _ _ hil1] at E2
        refine Fin.of (hQ (.slice (some ⟨kr, 0, none⟩) l.length c) _ h32 (.inr ⟨kr, l.length, c, nn, js, rfl, rfl, ?_, e4, e5⟩) ?_)
        · rw [hi, flatMap_length entC_file_File_len, List.length_set]
        · rw [hs, hi, flatMap_setR _ _ _ hpl]
          refine cast ?_ E2.pop
          congr 6
          simp [entC_file_File, List.append_assoc]
  · have hi := insD_new (v := x) K hf
    obtain ⟨a, m, c, rfl⟩ := Row.slice R
    have hm := DRow_file_File.len R
    subst hm
    have hfl := flatMap_length entC_file_File_len l
    refine ⟨_, rfl, _, _, _, E0.cell i A0.p rfl, _, _, c6 E0.last, fun k15 a15 b15 h16 e16 => ?_⟩
    have E1 := E0.made a15 b15 e16
    have A1 : DAt_file_File (L ++ [some (k6, .vec TY.file_File (plains [.bool x.1, .string x.2]) 2)] ++ [some (k15, .vec TY.draft_entry_file_File (plains (entC_file_File (n, x))) 3)]) i k (.slice a l.length c) r := ⟨up_app _ A0.p, up_app _ A0.q⟩
    refine ⟨E1.cell i A1.p rfl, c6 (E1.at L.length (up_app _ (by rw [List.getElem?_append_right (Nat.le_refl _), Nat.sub_self]; rfl))), ?_⟩
    refine C_slices_Insert_s_draft_entry_file_File_draft_entry_file_File.of ?_
    rw [ins_file_File_eq]
    refine insP_wp TK.slc_ent_file_File TK.zero_ent_file_File rfl (by omega) (by omega) TK.sl_ent_file_File TK.int_ent_file_File (by decide) E1 (i + 1) A1.q R ?_ (L.length + 1) (kx := k15) (ys := entC_file_File (n, x)) (by rw [List.getElem?_append_right (by simp), List.length_append]; simp; rfl) rfl (entC_file_File_one _) (by omega) p K.le (by rw [hfl]; omega) ?_
    · intro y hy
      obtain ⟨z, _, hz⟩ := List.mem_flatMap.1 hy
      exact entC_file_File_one z y hz
    · intro a' c' r' h17 R' E2
      rw [List.append_assoc, List.set_append_left _ _ hil1] at E2
      have hp2 : (L.set (i + 1) r' ++ ([some (k6, .vec TY.file_File (plains [.bool x.1, .string x.2]) 2)] ++ [some (k15, .vec TY.draft_entry_file_File (plains (entC_file_File (n, x))) 3)]))[i]? = some (some (k, drO_file_File (.slice a l.length c))) := up_app _ (by rw [List.getElem?_set_ne (by omega)]; exact A.p)
      have g6 := E2.at L.length (by rw [List.getElem?_append_right (by simp), List.length_set, Nat.sub_self]; rfl)
      refine ⟨E2.cell i hp2 rfl, c6 g6, ?_⟩
      have E3 := E2.popL
      have hp3 : (L.set (i + 1) r')[i]? = some (some (k, drO_file_File (.slice a l.length c))) := by rw [List.getElem?_set_ne (by omega)]; exact A.p
      obtain ⟨es, E4⟩ := E3.store i 0 (.slice a' (l.length + 1) c') hp3 rfl
      refine ⟨_, rfl, _, es, Fin.of (hQ (.slice a' (l.length + 1) c') r' _ ?_ ?_)⟩
      · rw [hi]
        unfold DRow_file_File
        have e1 : (l.flatMap entC_file_File).take (p * 3) = (l.take p).flatMap entC_file_File := take_flatMap entC_file_File_len l p
        have e2 : (l.flatMap entC_file_File).drop (p * 3) = (l.drop p).flatMap entC_file_File := by
          have h2 : l.flatMap entC_file_File = (l.take p).flatMap entC_file_File ++ (l.drop p).flatMap entC_file_File := by rw [← List.flatMap_append, List.take_append_drop]
          rw [h2, List.drop_left']
          rw [flatMap_length entC_file_File_len, List.length_take, Nat.min_eq_left K.le]
        rw [e1, e2] at R'
        rw [List.flatMap_append, List.flatMap_cons, ← List.append_assoc]
        exact R'
      · rw [List.set_comm _ _ (by omega)] at E4
        exact E4
def fdallF (k3 : Nat) : Value := Value.func (.func FN.draft_Draft_file_File_All_1) #[] #[(Value.pointer (some ⟨k3, 0, none⟩))]
def encDF (x : Int × (Bool × ByteArray)) : List Value := [.int .i64 x.1, .agg #[.bool x.2.1, .string x.2.2]]
def fdG (k3 k : Nat) (v : Value) (r : Option (Nat × AObj)) (h : Heap) : Prop :=
  h k3 = some (.vec TY.p_draft_Draft_file_File [.plain (.pointer (some ⟨k, 0, none⟩))] 1) ∧ h k = some (drO_file_File v) ∧ ∀ k o, r = some (k, o) → h k = some o
theorem fdG_ins {k3 kk : Nat} {v : Value} {r : Option (Nat × AObj)} : Ins (fdG k3 kk v r) := by
  rintro h k o hk ⟨g1, g2, g3⟩
  exact ⟨Heap.get_new hk g1, Heap.get_new hk g2, fun k' o' e => Heap.get_new hk (g3 k' o' e)⟩
theorem fdall_wp {p : Option Addr} {Q : Value → Heap → Prop} (hQ : ∀ k, h k = none → B k = none → Q (fdallF k) (h.set k (.vec TY.p_draft_Draft_file_File [.plain (.pointer p)] 1))) : C_draft_Draft_file_File_All B p h Q := by
  refine C_draft_Draft_file_File_All.of ?_
  unfold S_draft_Draft_file_File_All
  intro k a1 b1 h4 e4
  subst e4
  exact Fin.of (hQ k a1 b1)
theorem fdall_iter (R : DRow_file_File r v l) (hlen : l.length ≤ 100000) : Iter PG B (fdallF k3) (l.map encDF) (fdG k3 k v r) := by
  refine ⟨_, _, _, rfl, TG.draft_Draft_file_File_All_1, fun y J X h hy hG h0 hcall => ?_⟩
  have main : C_draft_Draft_file_File_All_1 B y ⟨k3, 0, none⟩ h (fun h' => Fin B h' (fun h'' => J (l.map encDF).length h'' ∨ X h'')) := by
    refine C_draft_Draft_file_File_All_1.of ?_
    unfold S_draft_Draft_file_File_All_1
    obtain ⟨a, m, c, rfl⟩ := Row.slice R
    obtain ⟨rfl, hrd⟩ := Row.rd (B := B) R entC_file_File_len (by omega)
    obtain ⟨g1, g2, g3⟩ := hG 0 h h0
    refine ⟨_, cellH_vec g1 rfl, fun e => (by cases e), fun _ => ⟨_, cellH_vec g1 rfl, _, rfl, .inl ⟨a, _, c, cellH_vec g2 rfl, ?_⟩⟩⟩
    refine ⟨fun i m' h' => ∃ j : Nat, j ≤ l.length ∧ i = j ∧ m' = l.length - j ∧ J j h', l.length, Fin.of ⟨0, by omega, rfl, by omega, h0⟩, ?_⟩
    rintro _ _ h13 ⟨j, hj, rfl, rfl, hJ⟩
    obtain ⟨g1, g2, g3⟩ := hG j h13 hJ
    refine ⟨fun hlt => ?_, fun hge => Fin.of ?_⟩
    · have hj' : j < l.length := by omega
      have hx := List.getElem?_eq_getElem hj'
      generalize l[j] = x at hx
      obtain ⟨A, e, _, q⟩ := hrd h13 g3 j _ hx
      refine ⟨A, e, by omega, hlt, x.1, x.2.1, x.2.2, q, fun k24 a24 b24 h25 e25 => ?_⟩
      obtain ⟨g25, l25, -⟩ := Heap.made a24 e25
      refine ⟨_, stores_whole g25 rfl (by simp) (by simp [isOne]) (by simp), ?_⟩
      generalize e26 : h25.set k24 _ = h26
      obtain ⟨g26, -, -⟩ := Heap.put e26
      refine ⟨_, cellH_vec g26 rfl, _, _, ⟨cellH_vec g26 rfl, cellH_vec g26 rfl, trivial⟩, ?_⟩
      have w : Wk B h13 h26 := by
        rw [← e26, e25, Heap.set_set]; exact Wk.new a24 b24
      have hc := hcall j h13 (encDF x) (by rw [List.getElem?_map, hx]; rfl) hJ
      refine CallV.mono ?_ (hc.weaken w)
      rintro v h27 ⟨h28, t1, h29, t2, hor⟩
      rcases hor with ⟨rfl, hJ'⟩ | ⟨rfl, hX⟩
      · refine ⟨true, rfl, fun _ => ⟨h29, t1.trans t2, l.length - (j + 1), by omega, j + 1, by omega, ?_, rfl, hJ'⟩, fun e => by cases e⟩
        rw [w64 (by omega) (by omega)]; omega
      · exact ⟨false, rfl, fun e => (by cases e), fun _ => ⟨h29, t1.trans t2, Fin.of (.inr hX)⟩⟩
    · have : j = l.length := by omega
      subst this
      refine Fin.of (.inl ?_)
      rw [List.length_map]
      exact hJ
  exact Spec.mono main fun v h' q => q.2
end
end Go.Proofs.YtgldgabefiialaaGreat.H
namespace Go.Proofs.YtgldgabefiialaaGreat.H
open Go
set_option linter.unusedVariables false
set_option maxRecDepth 100000
abbrev FileS := Bool × ByteArray
def slotF (x : FileS × Int) : List Value := [.bool x.1.1, .string x.1.2, .int .i64 x.2]
theorem slotF_len (x : FileS × Int) : (slotF x).length = 3 := rfl
theorem slotF_one (x : FileS × Int) : ∀ y ∈ slotF x, isOne y = true := fun y hy => by simp [slotF] at hy; rcases hy with rfl | rfl | rfl <;> rfl
theorem TK.slc_fslot : slcB PG TY.s_cell_slot_file_File = some (TY.cell_slot_file_File, 3, 32) := by kernel_rfl
theorem TK.zero_fslot : zeroB PG TY.cell_slot_file_File = some [.bool false, .string ByteArray.empty, .int .i64 0] := by kernel_rfl
theorem TK.sl_fslot : slT PG TY.s_cell_slot_file_File = true := by kernel_rfl
def FRow (r : Option (Nat × AObj)) (v : Value) (l : List (FileS × Int)) : Prop := Row r v TY.cell_slot_file_File 3 (l.flatMap slotF)
def frO (v : Value) : AObj := .vec TY.cell_Row_file_File (plains [v]) 1
def tomO (kR : Nat) : AObj := .vec TY.tome_Tome (plains [.pointer (some ⟨kR, 0, none⟩)]) 1
def fileAt (l : List (FileS × Int)) (i : Int) : FileS × Int := if 0 ≤ i then (l[i.toNat]?).getD ((false, ByteArray.empty), 0) else ((false, ByteArray.empty), 0)
theorem fileAt_in {l : List (FileS × Int)} {i : Int} (h0 : 0 ≤ i) (h1 : i.toNat < l.length) : fileAt l i = l[i.toNat] := by
  rw [fileAt, if_pos h0, List.getElem?_eq_getElem h1]; rfl
theorem fileAt_out {l : List (FileS × Int)} {i : Int} (hn : ¬ (0 ≤ i ∧ i < (l.length : Int))) : fileAt l i = ((false, ByteArray.empty), 0) := by
  unfold fileAt
  split
  · rw [List.getElem?_eq_none (by omega)]; rfl
  · rfl
section
variable {B : RO} {h0 h h' : Heap} {L : List (Option (Nat × AObj))} {r : Option (Nat × AObj)} {i kT kR : Nat} {v : Value} {l : List (FileS × Int)}
theorem fnew_wp {n : Int} {b : Bool} {s : ByteArray} {Q : Option Addr → Heap → Prop} (hn : n ≤ 1000)
    (hQ : ∀ k v r h', FRow r v (List.replicate n.toNat ((b, s), 0)) → Keep B h [some (k, frO v), r] h' → Q (some ⟨k, 0, none⟩) h') : C_cell_New_file_File B n b s h Q := by
  refine C_cell_New_file_File.of ?_
  unfold S_cell_New_file_File
  intro k5 a5 b5 h6 e6 k7 a7 b7 h8 e8
  have E := ((Keep.nil B h).made a5 b5 e6).made a7 b7 e8
  refine ⟨fun i m h' => ∃ (j : Nat) (v : Value) (r : Option (Nat × AObj)), (j : Int) ≤ max n 0 ∧ i = j ∧ m = n.toNat - j ∧ FRow r v (List.replicate j ((b, s), 0)) ∧ Keep B h [some (k5, .vec TY.file_File (plains [.bool b, .string s]) 2), some (k7, frO v), r] h', n.toNat, Fin.of ⟨0, _, none, by omega, rfl, by omega, Row.nil _ _, E.gap⟩, ?_⟩
  clear E e8 e6
  rintro _ _ h10 ⟨j, v, r, hj, rfl, rfl, R, E⟩
  refine ⟨fun hlt => ?_, fun hge => Fin.of ?_⟩
  · obtain ⟨a20, n21, c22, rfl⟩ := Row.slice R
    have hfl := flatMap_length slotF_len (List.replicate j ((b, s), (0 : Int)))
    rw [List.length_replicate] at hfl
    refine ⟨a20, n21, c22, E.cell 1 rfl rfl, _, _, ⟨E.cell 0 rfl rfl, E.cell 0 rfl rfl, trivial⟩, fun k28 a28 b28 h29 e29 => ?_⟩
    have E1 := E.made a28 b28 e29
    refine ⟨E1.cell 1 rfl rfl, ⟨E1.cell 0 rfl rfl, E1.cell 0 rfl rfl, trivial⟩, ?_⟩
    refine E.push1 2 rfl R TK.slc_fslot TK.zero_fslot rfl (by omega) (by omega) TK.sl_fslot rfl (by simp [isOne]) (by rw [hfl]; simp; omega) a28 b28 e29 fun a' m' c' r' h' R' E' => ?_
    obtain ⟨es, E2⟩ := E'.store 1 0 (.slice a' m' c') rfl rfl
    refine ⟨a', m', c', rfl, E'.cell 1 rfl rfl, ⟨E'.cell 0 rfl rfl, E'.cell 0 rfl rfl, trivial⟩, _, es, Fin.of ⟨n.toNat - (j + 1), by omega, j + 1, _, r', by omega, ?_, rfl, ?_, E2⟩⟩
    · rw [w64 (by omega) (by omega)]; omega
    · unfold FRow
      rw [List.replicate_succ', List.flatMap_append]
      exact R'
  · have : j = n.toNat := by omega
    subst this
    exact hQ _ _ _ _ R (E.sub2 1 2 rfl rfl)
structure FAt (L : List (Option (Nat × AObj))) (i : Nat) (kR : Nat) (v : Value) (r : Option (Nat × AObj)) : Prop where
  p : L[i]? = some (some (kR, frO v))
  q : L[i + 1]? = some r
theorem fis_wp {n : Int} {Q : Bool → Heap → Prop} (E : Keep B h0 L h) (A : FAt L i kR v r) (R : FRow r v l) (hQ : Q (decide (0 ≤ n ∧ n < (l.length : Int))) h) : C_cell_Row_file_File_is B (some ⟨kR, 0, none⟩) n h Q := by
  refine C_cell_Row_file_File_is.of ?_
  unfold S_cell_Row_file_File_is
  obtain ⟨a, m, c, rfl⟩ := Row.slice R
  obtain ⟨rfl, -⟩ := Row.rd (B := B) R slotF_len (by omega)
  refine ⟨fun e => (by cases e), fun _ => ⟨fun h1 => ⟨_, rfl, .inl ⟨a, _, c, E.cell i A.p rfl, Fin.of ?_⟩⟩, fun h1 => Fin.of ?_⟩⟩
  · have : decide (n < (l.length : Int)) = decide (0 ≤ n ∧ n < (l.length : Int)) := by rw [decide_eq_decide]; exact ⟨fun x => ⟨by omega, x⟩, fun x => x.2⟩
    rw [this]; exact hQ
  · rw [decide_eq_false (by omega)] at hQ; exact hQ
theorem fset_wp {n ver : Int} {b : Bool} {s : ByteArray} {Q : Bool → Heap → Prop} (E : Keep B h0 L h) (A : FAt L i kR v r) (R : FRow r v l)
    (hF : ¬ (0 ≤ n ∧ n < (l.length : Int)) → ∀ h', Keep B h0 L h' → Q false h') (hT : 0 ≤ n → n.toNat < l.length → ∀ r' h', FRow r' v (l.set n.toNat ((b, s), ver)) → Keep B h0 (L.set (i + 1) r') h' → Q true h') : C_cell_Row_file_File_Set B (some ⟨kR, 0, none⟩) n b s ver h Q := by
  refine C_cell_Row_file_File_Set.of ?_
  unfold S_cell_Row_file_File_Set
  intro k7 a7 b7 h8 e8
  have E1 := E.made a7 b7 e8
  let o7 : AObj := .vec TY.file_File (plains [.bool b, .string s]) 2
  have A1 : FAt (L ++ [some (k7, o7)]) i kR v r := ⟨up_app _ A.p, up_app _ A.q⟩
  have E1 : Keep B h0 (L ++ [some (k7, o7)]) h8 := E1
  refine fis_wp E1 A1 R ⟨fun hD => ?_, fun hD => Fin.of (hF (by simpa using hD) _ E1.pop)⟩
  rw [decide_eq_true_eq] at hD
  obtain ⟨a, m, c, rfl⟩ := Row.slice R
  obtain ⟨rfl, -⟩ := Row.rd (B := B) R slotF_len (by omega)
  obtain ⟨A18, h20, r', e1, st, R', E2⟩ := E1.rowSet (i + 1) A1.q R slotF_len (by omega) n.toNat (by omega) ((b, s), ver) (slotF_one _)
  have g := E1.last
  refine ⟨_, rfl, a, _, c, E1.cell i A1.p rfl, _, _, ⟨cellH_vec g rfl, cellH_vec g rfl, trivial⟩, A18, e1, hD.1, hD.2, h20, st, Fin.of (hT hD.1 (by omega) r' h20 R' ?_)⟩
  rw [List.set_append_left _ _ (List.getElem?_eq_some_iff.1 A.q).1] at E2
  exact E2.pop
theorem fget_wp {n : Int} {Q : Bool → ByteArray → Int → Heap → Prop} (E : Keep B h0 L h) (A : FAt L i kR v r) (R : FRow r v l)
    (hQ : ∀ h', Keep B h0 L h' → Q (fileAt l n).1.1 (fileAt l n).1.2 (fileAt l n).2 h') : C_cell_Row_file_File_Get B (some ⟨kR, 0, none⟩) n h Q := by
  refine C_cell_Row_file_File_Get.of ?_
  unfold S_cell_Row_file_File_Get
  intro k6 a6 b6 h7 e7
  have E1 := E.made a6 b6 e7
  have g := E1.last
  have A1 : FAt (L ++ [some (k6, AObj.vec TY.file_File (plains [.bool false, .string ByteArray.empty]) 2)]) i kR v r := ⟨up_app _ A.p, up_app _ A.q⟩
  refine fis_wp E1 A1 R ⟨fun hD => ?_, fun hD => ?_⟩
  · rw [decide_eq_true_eq] at hD
    obtain ⟨a, m, c, rfl⟩ := Row.slice R
    obtain ⟨rfl, hrd⟩ := Row.rd (B := B) R slotF_len (by omega)
    have hi : n.toNat < l.length := by omega
    obtain ⟨A27, e1, _, q1, q2, q3, _⟩ := hrd h7 (fun k o e => E1.at (i + 1) (by rw [A1.q, e])) n.toNat _ (List.getElem?_eq_getElem hi)
    have hf := hQ
    rw [fileAt_in hD.1 hi] at hf
    have q3' : cellH B h7 (Addr.add (Addr.add A27 (n.toNat * 3)) 2) = some (.int .i64 l[n.toNat].2) := q3
    refine ⟨_, rfl, a, _, c, E1.cell i A1.p rfl, A27, e1, hD.1, hD.2, _, _, ⟨q1, q2, trivial⟩, _, rfl, a, _, c, E1.cell i A1.p rfl, A27, e1, hD.1, hD.2, _, q3', ?_⟩
    refine ⟨_, stores_whole g rfl (by simp) (by simp [isOne]) (by simp), ?_⟩
    have E2 := E1.putLast (.vec TY.file_File (plains [.bool l[n.toNat].1.1, .string l[n.toNat].1.2]) 2)
    have A2 : FAt (L ++ [some (k6, AObj.vec TY.file_File (plains [.bool l[n.toNat].1.1, .string l[n.toNat].1.2]) 2)]) i kR (.slice a l.length c) r := ⟨up_app _ A.p, up_app _ A.q⟩
    obtain ⟨A', e1', _, t1, t2, t3, _⟩ := hrd _ (fun k o e => E2.at (i + 1) (by rw [A2.q, e])) n.toNat _ (List.getElem?_eq_getElem hi)
    rw [e1] at e1'
    cases e1'
    refine ⟨E2.cell i A2.p rfl, ⟨t1, t2, trivial⟩, E2.cell i A2.p rfl, t3, _, _, ⟨cellH_vec E2.last rfl, cellH_vec E2.last rfl, trivial⟩, Fin.of (hf _ E2.pop)⟩
  · rw [decide_eq_false_iff_not] at hD
    rw [fileAt_out hD] at hQ
    intro k10 a10 b10 h11 e11
    have E2 := E1.made a10 b10 e11
    have g2 := E2.last
    refine ⟨_, _, ⟨cellH_vec g2 rfl, cellH_vec g2 rfl, trivial⟩, ?_⟩
    have g6 : h11 k6 = some (.vec TY.file_File (plains [.bool false, .string ByteArray.empty]) 2) := E2.at L.length (by rw [List.append_assoc, List.getElem?_append_right (Nat.le_refl _), Nat.sub_self]; rfl)
    refine ⟨_, stores_whole g6 rfl (by simp) (by simp [isOne]) (by simp), ?_⟩
    have E3 : Keep B h0 L (h11.set k6 (.vec TY.file_File (plains [.bool false, .string ByteArray.empty]) 2)) := by
      rw [Heap.set_self _ _ _ g6]
      exact E2.pop.pop
    exact ⟨_, _, ⟨cellH_vec (Heap.set_same _ _ _) rfl, cellH_vec (Heap.set_same _ _ _) rfl, trivial⟩, Fin.of (hQ _ E3)⟩
structure TomeAt (L : List (Option (Nat × AObj))) (i kT kR : Nat) (v : Value) (r : Option (Nat × AObj)) : Prop where
  p : L[i]? = some (some (kT, tomO kR))
  f : FAt L (i + 1) kR v r
def tomE (kT kR : Nat) (v : Value) (r : Option (Nat × AObj)) : List (Option (Nat × AObj)) := [some (kT, tomO kR), some (kR, frO v), r]
def goodF (b : Bool) (s : ByteArray) : Bool := decide (s.size ≤ 32) && (b || decide (s = ByteArray.mk #[]))
theorem goodF_wp {b : Bool} {s : ByteArray} {Q : Bool → Heap → Prop} (hQ : ∀ h', Wk B h h' → Q (goodF b s) h') : C_file_Good B b s h Q := by
  refine C_file_Good.of ?_
  unfold S_file_Good
  intro k4 a4 b4 h5 e5
  have w : Wk B h h5 := by rw [e5]; exact Wk.new a4 b4
  have g : h5 k4 = some (.vec TY.file_File (plains [.bool b, .string s]) 2) := by rw [e5]; exact Heap.set_same _ _ _
  have hq := hQ h5 w
  unfold goodF at hq
  refine ⟨_, cellH_vec g rfl, fun h1 => ⟨_, cellH_vec g rfl, fun hb => Fin.of ?_, fun hb => ⟨_, cellH_vec g rfl, Fin.of ?_⟩⟩, fun h1 => Fin.of ?_⟩
  · subst hb
    rw [decide_eq_true (by omega)] at hq; exact hq
  · subst hb
    rw [decide_eq_true (by omega)] at hq; exact hq
  · rw [decide_eq_false (by omega)] at hq; exact hq
def setB (l : List (FileS × Int)) (n : Int) (b : Bool) (s : ByteArray) : Bool := goodF b s && decide (0 ≤ n ∧ n < (l.length : Int))
def setF (l : List (FileS × Int)) (n : Int) (b : Bool) (s : ByteArray) (ver : Int) : List (FileS × Int) := if setB l n b s = true then l.set n.toNat ((b, s), ver) else l
theorem setF_len (l : List (FileS × Int)) (n : Int) (b : Bool) (s : ByteArray) (ver : Int) : (setF l n b s ver).length = l.length := by unfold setF; split <;> simp
theorem tset_wp {n ver : Int} {b : Bool} {s : ByteArray} {Q : Bool → Heap → Prop} (E : Keep B h0 L h) (A : TomeAt L i kT kR v r) (R : FRow r v l)
    (hQ : ∀ r' h', FRow r' v (setF l n b s ver) → Keep B h0 (L.set (i + 2) r') h' → Q (setB l n b s) h') : C_tome_Tome_Set B (some ⟨kT, 0, none⟩) n b s ver h Q := by
  refine C_tome_Tome_Set.of ?_
  unfold S_tome_Tome_Set
  intro k7 a7 b7 h8 e8
  have E1 := E.made a7 b7 e8
  have g7 := E1.last
  have no : setB l n b s = false → ∀ h', Keep B h0 L h' → Q false h' := fun hn h' E' => by
    have h1 : setF l n b s ver = l := by rw [setF, hn]; rfl
    have h2 : L.set (i + 2) r = L := by
      obtain ⟨hl, rfl⟩ := List.getElem?_eq_some_iff.1 A.f.q
      exact List.set_getElem_self hl
    have := hQ r h' (by rw [h1]; exact R) (by rw [h2]; exact E')
    rw [hn] at this; exact this
  refine ⟨fun e => (by cases e), fun _ => ⟨_, _, ⟨cellH_vec g7 rfl, cellH_vec g7 rfl, trivial⟩, goodF_wp fun h18 w => ?_⟩⟩
  have E2 := E1.wk w
  have g := E2.last
  refine ⟨fun hg => ?_, fun hg => ?_⟩
  · have A2 : FAt (L ++ [some (k7, AObj.vec TY.file_File (plains [.bool b, .string s]) 2)]) (i + 1) kR v r := ⟨up_app _ A.f.p, up_app _ A.f.q⟩
    have hset : C_cell_Row_file_File_Set B (some ⟨kR, 0, none⟩) n b s ver h18 (fun b28 h27 => CellsAt B h27 ⟨k7, 0, none⟩ 0 [.bool b, .string s] ∧ Fin B h27 (Q b28)) := by
      refine fset_wp E2 A2 R (fun hn h' E' => ⟨⟨cellH_vec E'.last rfl, cellH_vec E'.last rfl, trivial⟩, Fin.of (no ?_ h' E'.pop)⟩) fun h1 h2 r' h' R' E' => ?_
      · rw [setB, decide_eq_false hn, Bool.and_false]
      · rw [List.set_append_left _ _ (List.getElem?_eq_some_iff.1 A.f.q).1] at E'
        have hb : setB l n b s = true := by rw [setB, hg, decide_eq_true ⟨h1, by omega⟩]; rfl
        have := hQ r' h' (by rw [setF, if_pos hb]; exact R') E'.pop
        rw [hb] at this
        exact ⟨⟨cellH_vec E'.last rfl, cellH_vec E'.last rfl, trivial⟩, Fin.of this⟩
    refine ⟨⟨cellH_vec g rfl, cellH_vec g rfl, trivial⟩, _, rfl, ⟨_, E2.cell i (up_app _ A.p) rfl, _, _, ⟨cellH_vec g rfl, cellH_vec g rfl, trivial⟩, hset⟩, ⟨_, _, ⟨cellH_vec g rfl, cellH_vec g rfl, trivial⟩, _, E2.cell i (up_app _ A.p) rfl, hset⟩⟩
  · have hn : setB l n b s = false := by rw [setB, hg]; rfl
    exact ⟨⟨cellH_vec g rfl, cellH_vec g rfl, trivial⟩, Fin.of (no hn _ E2.pop), Fin.of (no hn _ E2.pop)⟩
theorem tget_wp {n : Int} {Q : Bool → ByteArray → Int → Heap → Prop} (E : Keep B h0 L h) (A : TomeAt L i kT kR v r) (R : FRow r v l)
    (hQ : ∀ h', Keep B h0 L h' → Q (fileAt l n).1.1 (fileAt l n).1.2 (fileAt l n).2 h') : C_tome_Tome_Get B (some ⟨kT, 0, none⟩) n h Q := by
  refine C_tome_Tome_Get.of ?_
  unfold S_tome_Tome_Get
  intro k6 a6 b6 h7 e7
  have E1 := E.made a6 b6 e7
  refine ⟨fun e => (by cases e), fun _ => ⟨_, rfl, _, E1.cell i (up_app _ A.p) rfl, ?_⟩⟩
  refine fget_wp E1 ⟨up_app _ A.f.p, up_app _ A.f.q⟩ R fun h15 E2 => ?_
  refine ⟨_, stores_whole E2.last rfl (by simp) (by simp [isOne]) (by simp), ?_⟩
  have E3 := E2.putLast (.vec TY.file_File (plains [.bool (fileAt l n).1.1, .string (fileAt l n).1.2]) 2)
  exact ⟨_, _, ⟨cellH_vec E3.last rfl, cellH_vec E3.last rfl, trivial⟩, Fin.of (hQ _ E3.pop)⟩
theorem tnew_wp {Q : Option Addr → Heap → Prop} (hQ : ∀ kT kR v r h', FRow r v (List.replicate 6 ((false, ByteArray.empty), 0)) → Keep B h (tomE kT kR v r) h' → Q (some ⟨kT, 0, none⟩) h') : C_tome_New B h Q := by
  refine C_tome_New.of ?_
  unfold S_tome_New
  refine fnew_wp (by decide) fun kR v r h2 R E => ?_
  intro k4 a4 b4 h5 e5
  have E1 := E.made a4 b4 e5
  exact Fin.of (hQ k4 kR v r h5 R (E1.sub3 2 0 1 rfl rfl rfl))
end
end Go.Proofs.YtgldgabefiialaaGreat.H
namespace Go.Proofs.YtgldgabefiialaaGreat.H
open Go
set_option linter.unusedVariables false
set_option maxRecDepth 100000
theorem TK.slc_bytes : slcB PG TY.s_uint8 = some (TY.uint8, 1, 1) := by kernel_rfl
theorem TK.zero_byte : zeroB PG TY.uint8 = some [.int .u8 0] := by kernel_rfl
theorem TK.sl_bytes : slT PG TY.s_uint8 = true := by kernel_rfl
theorem TK.str : isStr PG TY.string = true := by kernel_rfl
section
variable {B : RO} {h : Heap}
end
end Go.Proofs.YtgldgabefiialaaGreat.H
namespace Go.Proofs.YtgldgabefiialaaGreat.H
open Go
set_option linter.unusedVariables false
set_option maxRecDepth 100000
theorem NilOK.one {y : Value} (h : NilOK y) : isOne y = true := by
  rcases h with ⟨g, a, b, rfl⟩ | ⟨l, a, b, rfl⟩ <;> rfl
section
variable {B : RO} {h0 h h' : Heap} {L : List (Option (Nat × AObj))} {r : Option (Nat × AObj)} {i kT kR k3 m c : Nat} {a : Option Addr} {v : Value} {l : List (FileS × Int)}
end
end Go.Proofs.YtgldgabefiialaaGreat.H
namespace Go.Proofs.YtgldgabefiialaaGreat.H
open Go
set_option linter.unusedVariables false
set_option maxRecDepth 100000
structure TomeOk (l : List (FileS × Int)) : Prop where
  n6 : l.length = 6
  good : ∀ x ∈ l, goodF x.1.1 x.1.2 = true
theorem TomeOk.size {l : List (FileS × Int)} (k : TomeOk l) : ∀ x ∈ l, x.1.2.size ≤ 32 := fun x hx => by
  have := k.good x hx
  unfold goodF at this
  simp only [Bool.and_eq_true, decide_eq_true_eq] at this
  exact this.1
theorem TomeOk.zero : TomeOk (List.replicate 6 ((false, ByteArray.empty), 0)) := ⟨rfl, fun x hx => by
  rw [List.mem_replicate] at hx
  rw [hx.2]; decide⟩
theorem TomeOk.set {l : List (FileS × Int)} (k : TomeOk l) (n : Int) (b : Bool) (s : ByteArray) (ver : Int) : TomeOk (setF l n b s ver) := by
  refine ⟨by rw [setF_len]; exact k.n6, fun x hx => ?_⟩
  unfold setF at hx
  split at hx
  · rename_i h
    unfold setB at h
    rw [Bool.and_eq_true] at h
    rcases List.mem_or_eq_of_mem_set hx with h1 | h1
    · exact k.good x h1
    · rw [h1]; exact h.1
  · exact k.good x hx
section
variable {B : RO} {h0 h h' : Heap} {L : List (Option (Nat × AObj))} {r : Option (Nat × AObj)} {i kT kR : Nat} {v : Value} {l : List (FileS × Int)}
end
end Go.Proofs.YtgldgabefiialaaGreat.H
namespace Go.Proofs.YtgldgabefiialaaGreat.H
open Go Go.RowKit
set_option linter.unusedVariables false
set_option maxRecDepth 100000
structure FSetR where
  i : Int
  b : Bool
  s : ByteArray
  v : Int
def FSetR.cells (x : FSetR) : List Value := [.int .i64 x.i, .bool x.b, .string x.s, .int .i64 x.v]
abbrev FL := List (FileS × Int)
def apF (l : FL) (x : FSetR) : FL := setF l x.i x.b x.s x.v
theorem TomeOk.foldl {l : FL} (k : TomeOk l) (sets : List FSetR) : TomeOk (sets.foldl apF l) := by
  induction sets generalizing l with
  | nil => exact k
  | cons x t ih => exact ih (k.set x.i x.b x.s x.v)
section
variable {B : RO} {h0 h h' : Heap} {a : Option Addr} {c : Nat} {list : List FSetR} {Q : Bool → Heap → Prop} {kA kA' kB kB' : Nat} {va vb : Value} {ra rb : Option (Nat × AObj)}
end
end Go.Proofs.YtgldgabefiialaaGreat.H
namespace Go.Proofs.YtgldgabefiialaaGreat.H
open Go
set_option linter.unusedVariables false
set_option maxRecDepth 100000
theorem TK.byteStr : byteStr PG TY.s_uint8 TY.string = true := by kernel_rfl
section
variable {B : RO} {h : Heap}
theorem one_string {k : Nat} {x : Int} {u : UInt8} {K : Value → Heap → Prop} (hk : h k = some (.vec TY.uint8 (plains [.int .u8 x]) 1)) (hx : x = ((u.toNat : Nat) : Int)) (hK : K (.string (ba [u])) h) :
    semH PG B (convert TY.s_uint8 TY.string (.slice (some ⟨k, 0, none⟩) 1 1)) h K := by
  subst hx
  refine semH_convB TK.byteStr (semH_bytesToString (e := TY.uint8) (bs := [u]) (.inr ⟨k, 1, 1, 1, [], rfl, hk, rfl, by omega, by omega⟩) hK)
structure Item where
  kind : Int
  n : Int
  s : ByteArray
def Item.cells (x : Item) : List Value := [.int .i64 x.kind, .int .i64 x.n, .string x.s]
def Item.ok (x : Item) : Prop := -9223372036854775808 ≤ x.n ∧ x.n ≤ 9223372036854775807
def Item.bytes (x : Item) : List UInt8 :=
  if x.kind = 0 then natI x.n else if x.kind = 1 then natB (zig x.n) else if x.kind = 2 then bl x.s else if x.kind = 3 then natB x.s.size ++ bl x.s else []
end
end Go.Proofs.YtgldgabefiialaaGreat.H
namespace Go.Proofs.YtgldgabefiialaaGreat.H
open Go Go.RowKit
set_option linter.unusedVariables false
set_option maxRecDepth 100000
def fileC (x : FileS × Int) : List Value := [.bool x.1.1, .string x.1.2]
theorem fileC_len (x : FileS × Int) : (fileC x).length = 2 := rfl
def filesC (l : FL) : List Value := l.flatMap fileC
theorem filesC_len (l : FL) : (filesC l).length = l.length * 2 := flatMap_length fileC_len l
section
variable {B : RO} {h0 h h' : Heap} {L : List (Option (Nat × AObj))} {r : Option (Nat × AObj)} {i kT kR k3 : Nat} {a : Option Addr} {v : Value} {l : FL}
end
end Go.Proofs.YtgldgabefiialaaGreat.H
namespace Go.Proofs.YtgldgabefiialaaGreat.H
open Go Go.RowKit
set_option linter.unusedVariables false
set_option maxRecDepth 100000
theorem Addr.add2 (A : Addr) (m n : Nat) : (A.add m).add n = A.add (m + n) := by
  unfold Addr.add
  by_cases hm : m = 0
  · subst hm; simp
  · by_cases hn : n = 0
    · subst hn; simp
    · simp [hm, hn, Nat.add_assoc]
theorem eqL_refl (b : Bool) (s : ByteArray) : eqL [Value.bool b, Value.string s] [Value.bool b, Value.string s] = true := by
  have e : (s == s) = true := by cases s with | mk d => exact beq_self_eq_true d
  simp [eqL, leafEq, e]
theorem eqL_file_eq {b b' : Bool} {s s' : ByteArray} (h : eqL [Value.bool b, Value.string s] [Value.bool b', Value.string s'] = true) : (b, s) = (b', s') := by
  simp only [eqL, leafEq, Bool.and_eq_true, Bool.and_true] at h
  obtain ⟨h1, h2⟩ := h
  have e1 : b = b' := by simpa using h1
  have e2 : s = s' := by
    cases s with
    | mk d => cases s' with
      | mk d' =>
        have h3 : (d == d') = true := h2
        rw [eq_of_beq h3]
  rw [e1, e2]
def shtO (kf : Nat) : AObj := .vec TY.sheet_Sheet (plains [.pointer (some ⟨kf, 0, none⟩)]) 1
def fO (f : FileS) : AObj := .vec TY.file_File (plains [.bool f.1, .string f.2]) 2
structure ShI where
  kT : Nat
  kR : Nat
  vt : Value
  rt : Option (Nat × AObj)
  ks : Nat
  kf : Nat
def ShI.m (x : ShI) (vd : Value) (rd : Option (Nat × AObj)) : List (Option (Nat × AObj)) := [some (x.kT, tomO x.kR), some (x.kR, frO x.vt), x.rt, some (x.ks, shtO x.kf), some (x.kf, drO_file_File vd), rd]
def getS (l : FL) (d : DFL) (n : Int) : FileS × Bool := match atD d n with
  | some f => (f, true)
  | none => ((fileAt l n).1, false)
theorem getS_some {l : FL} {d : DFL} {n : Int} {f : FileS} (h : atD d n = some f) : getS l d n = (f, true) := by rw [getS, h]
theorem getS_none {l : FL} {d : DFL} {n : Int} (h : atD d n = none) : getS l d n = ((fileAt l n).1, false) := by rw [getS, h]
def putS (l : FL) (d : DFL) (n : Int) (f : FileS) : DFL := if (getS l d n).1 = f then d else insD d n f
theorem getS_ins (l : FL) (d : DFL) (n m : Int) (f : FileS) : getS l (insD d n f) m = if m = n then (f, true) else getS l d m := by
  by_cases h : m = n
  · rw [if_pos h]
    exact getS_some (by rw [atD_ins, if_pos h])
  · rw [if_neg h]
    unfold getS
    rw [atD_ins, if_neg h]
section
variable {B : RO} {h0 h h' : Heap} {L : List (Option (Nat × AObj))} {r rd : Option (Nat × AObj)} {i k : Nat} {a : Option Addr} {m c : Nat} {v vd : Value} {l : FL} {d : DFL} {n : Int} {x : ShI} {f : FileS}
theorem get_file_File_wp {Q : Bool → ByteArray → Bool → Heap → Prop} (E : Keep B h0 L h) (A : DAt_file_File L i k v r) (R : DRow_file_File r v d) (s : SortD d) (hl : d.length ≤ 1000000)
    (hQ : ∀ h', Keep B h0 L h' → Q ((atD d n).getD (false, ByteArray.empty)).1 ((atD d n).getD (false, ByteArray.empty)).2 (atD d n).isSome h') : C_draft_Draft_file_File_Get B (some ⟨k, 0, none⟩) n h Q := by
  refine C_draft_Draft_file_File_Get.of ?_
  unfold S_draft_Draft_file_File_Get
  intro k6 a6 b6 h7 e7 k8 a8 b8 h9 e9
  have E1 := (E.start.nM a6 b6 e7).nM a8 b8 e9
  refine ⟨fun e => (by cases e), fun _ => find_file_File_wp (i := i) E1 ⟨up_app _ A.p, up_app _ A.q⟩ R s hl fun p K => ⟨fun hf => ?_, fun hf => ?_⟩⟩
  · obtain ⟨y, hy, rfl⟩ := foundD_some hf
    have hpl := (List.getElem?_eq_some_iff.1 hy).1
    rw [atD_old K hy rfl] at hQ
    obtain ⟨a, m, c, rfl⟩ := Row.slice R
    obtain ⟨rfl, hrd⟩ := Row.rd (B := B) R entC_file_File_len (by omega)
    obtain ⟨A', e1, _, e4⟩ := hrd h9 (fun k o e => E1.at (i + 1) (by rw [up_app _ A.q, e])) p y hy
    obtain ⟨f1, f2, f3, _⟩ := e4
    refine ⟨_, rfl, .inl ⟨a, _, c, E1.cell i (up_app _ A.p) rfl, A', e1, by omega, by omega, y.2.1, y.2.2, ⟨?_, ?_, trivial⟩, ?_⟩⟩
    · rw [Int.toNat_natCast]; exact f2
    · rw [Int.toNat_natCast, Addr.add2]; exact f3
    · refine ⟨_, stores_whole (E1.gM 0 rfl) rfl (by simp) (by simp [isOne]) (by simp), ?_⟩
      have E2 := E1.pM (o' := fO y.2) 0 rfl
      exact ⟨_, _, ⟨E2.cM 0 rfl (i := 0) rfl, E2.cM 0 rfl (i := 1) rfl, trivial⟩, Fin.of (hQ _ E2.zM)⟩
  · rw [atD_new s K hf] at hQ
    refine ⟨_, _, ⟨E1.cM 1 rfl (i := 0) rfl, E1.cM 1 rfl (i := 1) rfl, trivial⟩, _, stores_whole (E1.gM 0 rfl) rfl (by simp) (by simp [isOne]) (by simp), ?_⟩
    have E2 := E1.pM (o' := fO (false, ByteArray.empty)) 0 rfl
    exact ⟨_, _, ⟨E2.cM 0 rfl (i := 0) rfl, E2.cM 0 rfl (i := 1) rfl, trivial⟩, Fin.of (hQ _ E2.zM)⟩
theorem sget_wp {Q : Bool → ByteArray → Bool → Heap → Prop} (E : Keep B h0 (L ++ x.m vd rd) h) (R : FRow x.rt x.vt l) (Rd : DRow_file_File rd vd d) (s : SortD d) (hd : d.length ≤ 1000)
    (hQ : ∀ h', Keep B h0 (L ++ x.m vd rd) h' → Q (getS l d n).1.1 (getS l d n).1.2 (getS l d n).2 h') : C_sheet_Sheet_Get B (some ⟨x.ks, 0, none⟩) (some ⟨x.kT, 0, none⟩) n h Q := by
  refine C_sheet_Sheet_Get.of ?_
  unfold S_sheet_Sheet_Get
  intro k7 a7 b7 h8 e8
  have E1 := E.nM a7 b7 e8
  refine ⟨fun e => (by cases e), fun _ => ⟨_, rfl, _, E1.cM 3 rfl (i := 0) rfl, ?_⟩⟩
  refine get_file_File_wp (i := L.length + 4) E1 ⟨upM 4 rfl, upM 5 rfl⟩ Rd s (by omega) fun h27 E2 => ?_
  cases hat : atD d n with
  | some f =>
    rw [getS_some hat] at hQ
    refine ⟨fun _ k34 a34 b34 h35 e35 => ?_, fun e => by cases e⟩
    have E3 := E2.nM a34 b34 e35
    refine ⟨_, stores_whole (E3.gM 7 rfl) rfl (by simp) (by simp [isOne]) (by simp), ?_⟩
    have E4 := E3.pM (o' := fO f) 7 rfl
    refine ⟨_, _, ⟨E4.cM 7 rfl (i := 0) rfl, E4.cM 7 rfl (i := 1) rfl, trivial⟩, _, stores_whole (E4.gM 6 rfl) rfl (by simp) (by simp [isOne]) (by simp), ?_⟩
    have E5 := E4.pM (o' := fO f) 6 rfl
    exact ⟨_, _, ⟨E5.cM 6 rfl (i := 0) rfl, E5.cM 6 rfl (i := 1) rfl, trivial⟩, Fin.of (hQ _ (E5.tM 6))⟩
  | none =>
    rw [getS_none hat] at hQ
    refine ⟨fun e => (by cases e), fun _ k31 a31 b31 h32 e32 => ?_⟩
    have E3 := E2.nM a31 b31 e32
    refine ⟨_, stores_whole (E3.gM 7 rfl) rfl (by simp) (by simp [isOne]) (by simp), Fin.of ?_⟩
    have E4 := (E3.pM (o' := fO (false, ByteArray.empty)) 7 rfl).tM 7
    unfold S_sheet_Sheet_Get_J1
    refine tget_wp (i := L.length) E4 ⟨upM 0 rfl, ⟨upM 1 rfl, upM 2 rfl⟩⟩ R fun h11 E5 => ?_
    intro k15 a15 b15 h16 e16
    have E6 := E5.nM a15 b15 e16
    refine ⟨_, stores_whole (E6.gM 7 rfl) rfl (by simp) (by simp [isOne]) (by simp), ?_⟩
    have E7 := E6.pM (o' := fO (fileAt l n).1) 7 rfl
    refine ⟨_, _, ⟨E7.cM 7 rfl (i := 0) rfl, E7.cM 7 rfl (i := 1) rfl, trivial⟩, _, stores_whole (E7.gM 6 rfl) rfl (by simp) (by simp [isOne]) (by simp), ?_⟩
    have E8 := E7.pM (o' := fO (fileAt l n).1) 6 rfl
    exact ⟨_, _, ⟨E8.cM 6 rfl (i := 0) rfl, E8.cM 6 rfl (i := 1) rfl, trivial⟩, Fin.of (hQ _ (E8.tM 6))⟩
theorem sput_wp {Q : Bool → Heap → Prop} (E : Keep B h0 (L ++ x.m vd rd) h) (R : FRow x.rt x.vt l) (Rd : DRow_file_File rd vd d) (s : SortD d) (hd : d.length ≤ 1000) (hn : 0 ≤ n ∧ n < 6)
    (hQ : ∀ vd' rd' h', DRow_file_File rd' vd' (putS l d n f) → Keep B h0 (L ++ x.m vd' rd') h' → Q true h') : C_sheet_Sheet_put B (some ⟨x.ks, 0, none⟩) (some ⟨x.kT, 0, none⟩) n f.1 f.2 h Q := by
  refine C_sheet_Sheet_put.of ?_
  unfold S_sheet_Sheet_put
  intro k7 a7 b7 h8 e8
  have E1 : Keep B h0 ((some (k7, fO f) :: L) ++ x.m vd rd) h8 := by
    have := E.made a7 b7 e8
    refine this.remap (fun j => if j = 0 then (L ++ x.m vd rd).length else j - 1) (fun j y hy => ?_) (fun i j hi hj e => ?_)
    · cases j with
      | zero =>
        simp only [List.cons_append, List.getElem?_cons_zero] at hy
        simp only [if_true]
        rw [List.getElem?_append_right (Nat.le_refl _), Nat.sub_self]; exact hy
      | succ j =>
        simp only [List.cons_append, List.getElem?_cons_succ] at hy
        simp only [Nat.add_one_ne_zero, if_false, Nat.add_sub_cancel]
        exact up_app _ hy
    · simp only [List.length_append, List.length_cons] at hi hj
      have e : (if i = 0 then (L ++ x.m vd rd).length else i - 1) = (if j = 0 then (L ++ x.m vd rd).length else j - 1) := e
      rw [List.length_append] at e
      split at e <;> split at e <;> omega
  refine ⟨fun e => (by cases e), fun _ => ⟨fun hlt => by omega, fun _ => ⟨fun hge => by omega, fun _ => Fin.of ?_⟩⟩⟩
  unfold S_sheet_Sheet_put_J1
  refine sget_wp E1 R Rd s hd fun h11 E2 => ?_
  intro k15 a15 b15 h16 e16
  have E3 := E2.nM a15 b15 e16
  refine ⟨_, stores_whole (E3.gM 6 rfl) rfl (by simp) (by simp [isOne]) (by simp), ?_⟩
  have E4 := E3.pM (o' := fO (getS l d n).1) 6 rfl
  refine ⟨_, _, ⟨E4.cM 6 rfl (i := 0) rfl, E4.cM 6 rfl (i := 1) rfl, trivial⟩, _, _, ⟨E4.cell 0 rfl (j := 0) rfl, E4.cell 0 rfl (j := 1) rfl, trivial⟩, fun he => ?_, fun hne => ?_⟩
  · have hf : (getS l d n).1 = f := eqL_file_eq he
    unfold putS at hQ
    rw [if_pos hf] at hQ
    refine Fin.of (hQ vd rd _ Rd ?_)
    have E5 : Keep B h0 (some (k7, fO f) :: (L ++ x.m vd rd)) _ := E4.tM 6
    exact E5.remap (fun j => j + 1) (fun j y hy => by simpa using hy) (fun i j _ _ e => by simpa using e)
  · have hf : ¬ (getS l d n).1 = f := fun e => hne (by rw [← e]; exact eqL_refl _ _)
    unfold putS at hQ
    rw [if_neg hf] at hQ
    refine ⟨_, rfl, _, E4.cM 3 rfl (i := 0) rfl, _, _, ⟨E4.cell 0 rfl (j := 0) rfl, E4.cell 0 rfl (j := 1) rfl, trivial⟩, ?_⟩
    refine put_file_File_wp (i := (some (k7, fO f) :: L).length + 4) E4 ⟨upM 4 rfl, upM 5 rfl⟩ Rd s (by omega) fun v' r' h65 R' E5 => ?_
    rw [setM, show (some (k7, fO f) :: L).length + 4 + 1 = (some (k7, fO f) :: L).length + 5 from rfl, setM] at E5
    refine ⟨E5.cM 3 rfl (i := 0) rfl, ⟨E5.cell 0 rfl (j := 0) rfl, E5.cell 0 rfl (j := 1) rfl, trivial⟩, Fin.of (hQ v' r' _ R' ?_)⟩
    have E6 : Keep B h0 (some (k7, fO f) :: (L ++ x.m v' r')) _ := E5.tM 6
    exact E6.remap (fun j => j + 1) (fun j y hy => by simpa using hy) (fun i j _ _ e => by simpa using e)
end
end Go.Proofs.YtgldgabefiialaaGreat.H
namespace Go.Proofs.YtgldgabefiialaaGreat.H
open Go Go.RowKit
set_option linter.unusedVariables false
set_option maxRecDepth 100000
section
variable {B : RO} {h0 h h' : Heap} {L : List (Option (Nat × AObj))} {r rd : Option (Nat × AObj)} {v vd : Value} {l z : FL} {d : DFL} {n : Int} {x : ShI} {f : FileS} {from' tj : Int}
theorem make_wp {b : Bool} {s : ByteArray} {Q : Bool → ByteArray → Heap → Prop} (hQ : ∀ h', Wk B h h' → Q true s h') : C_file_Make B b s h Q := by
  refine C_file_Make.of ?_
  unfold S_file_Make
  intro k5 a5 b5 h6 e6 k7 a7 b7 h8 e8
  have E := ((Keep.nil B h).made a5 b5 e6).made a7 b7 e8
  refine ⟨_, E.cell 0 rfl rfl, _, stores_whole E.last rfl (by simp) (by simp [isOne]) (by simp), ?_⟩
  have E1 := E.putLast (fO (true, s))
  exact ⟨_, _, ⟨cellH_vec E1.last rfl, cellH_vec E1.last rfl, trivial⟩, Fin.of (hQ _ E1.w)⟩
theorem is14_wp {Q : Bool → Heap → Prop} (hQ : Q (decide (0 ≤ n ∧ n ≤ 5)) h) : C_countermandref14_Is B n h Q := by
  refine C_countermandref14_Is.of ?_
  unfold S_countermandref14_Is
  refine ⟨fun h1 => Fin.of ?_, fun h1 => Fin.of ?_⟩
  · have : decide (0 ≤ n ∧ n ≤ 5) = decide (n ≤ 5) := by simp; omega
    rw [this] at hQ; exact hQ
  · rw [decide_eq_false (by omega)] at hQ; exact hQ
end
end Go.Proofs.YtgldgabefiialaaGreat.H
namespace Go.Proofs.YtgldgabefiialaaGreat.H
open Go Go.RowKit
set_option linter.unusedVariables false
set_option maxRecDepth 100000
theorem semH_convStr {P : Program} {B : RO} {h : Heap} {src dst e : TypeId} {s : ByteArray} {K : Value → Heap → Prop} (h1 : P.underlying src = some .string) (h2 : P.underlying dst = some (.slice e)) (h3 : P.underlying e = some (.int .u8)) (he : e = 5)
    (hk : ∀ k c nn js, h k = none → B k = none → s.size ≤ c → c ≤ nn → K (.slice (some ⟨k, 0, none⟩) s.size c) (h.set k (.vec e (plains ((bl s).map byteV ++ js)) nn))) : semH P B (convert src dst (.string s)) h K := by
  unfold convert
  rw [semH_und h1, semH_und h2]
  simp only
  rw [semH_und h3]
  show semH P B (Conv.stringToBytes e s) h K
  unfold Conv.stringToBytes
  refine semH_choose rfl fun q => ?_
  have hcut : s.size ≤ (Question.appendCap s.size 0 e).cut q := by simp [Question.cut]
  generalize (Question.appendCap s.size 0 e).cut q = c at hcut
  refine semH_newRow fun b hb1 hb2 => ?_
  have e1 : ((s.data.map fun b => (Value.int .u8 b.toNat)) ++ Array.replicate (c - s.size) (Value.int .u8 0)).toList = (bl s).map byteV ++ List.replicate (c - s.size) (.int .u8 0) := by
    simp [bl, byteV]
  have e2 : ((s.data.map fun b => (Value.int .u8 b.toNat)) ++ Array.replicate (c - s.size) (Value.int .u8 0)).size = c := by
    simp only [Array.size_append, Array.size_map, Array.size_replicate]
    have : s.data.size = s.size := rfl
    omega
  rw [e1, e2, semH_bind]
  unfold markStringish
  rw [semH_bind]
  refine ⟨some (e, c), by simp [shapeH, Heap.set_same], ?_⟩
  refine ⟨⟨e, _, c, Heap.set_same _ _ _, Nat.le_refl _, he⟩, by omega, ?_⟩
  exact hk b c c _ hb1 hb2 hcut (Nat.le_refl _)
theorem TK.und_str : PG.underlying TY.string = some .string := by kernel_rfl
theorem TK.und_bytes : PG.underlying TY.s_uint8 = some (.slice TY.uint8) := by kernel_rfl
theorem TK.und_u8 : PG.underlying TY.uint8 = some (.int .u8) := by kernel_rfl
def padT (n : Nat) (l : List UInt8) : List UInt8 := l ++ List.replicate (n - l.length) 0
theorem padT_len (n : Nat) (l : List UInt8) : (padT n l).length = max l.length n := by simp [padT]; omega
theorem padT_self {n : Nat} {l : List UInt8} (h : n ≤ l.length) : padT n l = l := by
  unfold padT; rw [show n - l.length = 0 by omega]; simp
theorem padT_succ {n : Nat} {l : List UInt8} (h : l.length ≤ n) : padT n l ++ [0] = padT (n + 1) l := by
  unfold padT; rw [show n + 1 - l.length = n - l.length + 1 by omega, List.replicate_succ', List.append_assoc]
theorem padT_get {n i : Nat} {l : List UInt8} (h : i < max l.length n) : (padT n l)[i]? = some ((l[i]?).getD 0) := by
  unfold padT
  by_cases hi : i < l.length
  · rw [List.getElem?_append_left hi, List.getElem?_eq_getElem hi]; rfl
  · rw [List.getElem?_append_right (by omega), List.getElem?_replicate, if_pos (by omega), List.getElem?_eq_none (by omega)]; rfl
def putT (l : List UInt8) (k : Nat) (c : UInt8) : List UInt8 := (padT (k + 1) l).set k c
def putF (f : FileS) (at' : Int) (c : UInt8) : FileS := if 0 ≤ at' ∧ at' < 32 then (true, ba (putT (bl f.2) at'.toNat c)) else f
def cutT (l : List UInt8) (n : Nat) : List UInt8 := (padT n l).take n
def cutF (f : FileS) (n : Int) : FileS := if f.1 = true ∧ 0 ≤ n ∧ n ≤ 32 then (true, ba (cutT (bl f.2) n.toNat)) else f
theorem cutT_len (l : List UInt8) (n : Nat) : (cutT l n).length = n := by unfold cutT; rw [List.length_take, padT_len]; omega
theorem putT_len (l : List UInt8) (k : Nat) (c : UInt8) : (putT l k c).length = max l.length (k + 1) := by unfold putT; rw [List.length_set, padT_len]
def byteOf (l : List UInt8) (i : Nat) : UInt8 := (l[i]?).getD 0
theorem putT_get {l : List UInt8} {k i : Nat} {c : UInt8} (h : i < max l.length (k + 1)) : (putT l k c)[i]? = some (if i = k then c else byteOf l i) := by
  unfold putT
  by_cases e : i = k
  · subst e
    rw [if_pos rfl, List.getElem?_set_self (by rw [padT_len]; exact h)]
  · rw [if_neg e, List.getElem?_set_ne (fun x => e x.symm), padT_get h]; rfl
theorem cutT_get {l : List UInt8} {n i : Nat} (h : i < n) : (cutT l n)[i]? = some (byteOf l i) := by
  unfold cutT
  rw [List.getElem?_take, if_pos h, padT_get (by omega)]; rfl
theorem map_flat (l : List UInt8) : l.map byteV = l.flatMap fun c => [byteV c] := by induction l with | nil => rfl | cons c l ih => simp [ih]
section
variable {B : RO} {h h0 : Heap} {L : List (Option (Nat × AObj))} {b : Bool} {s : ByteArray}
def fiO (f : FileS) : AObj := .vec TY.file_File (plains [.bool f.1, .string f.2]) 2
def frfO (f : FileS) : AObj := .vec TY.countermandref09_File (plains [.bool f.1, .string f.2]) 2
theorem fput_wp {at' v : Int} {c : UInt8} (hv : v = ((c.toNat : Nat) : Int)) (hs : s.size ≤ 1000000) {Q : Bool → ByteArray → Heap → Prop} (hQ : ∀ h', Wk B h h' → Q (putF (b, s) at' c).1 (putF (b, s) at' c).2 h') : C_file_Put B b s at' v h Q := by
  refine C_file_Put.of ?_
  unfold S_file_Put
  intro k7 a7 b7 h8 e8 k9 a9 b9 h10 e10
  have E := ((Keep.nil B h).made a7 b7 e8).made a9 b9 e10
  have E : Keep B h [some (k7, fiO (b, s)), some (k9, fiO (false, ByteArray.empty))] h10 := E
  have done : ¬ (0 ≤ at' ∧ at' < 32) → ∃ b45 : Bool, ∃ s46 : ByteArray, CellsAt B h10 ⟨k7, 0, none⟩ 0 [(.bool b45), (.string s46)] ∧ ∃ h47 : Heap, StoresAt ⟨k9, 0, none⟩ h10 0 [(.bool b45), (.string s46)] h47 ∧
      ∃ b48 : Bool, ∃ s49 : ByteArray, CellsAt B h47 ⟨k9, 0, none⟩ 0 [(.bool b48), (.string s49)] ∧ Fin B h47 (Q (b48) s49) := fun hn => by
    unfold putF at hQ
    rw [if_neg hn] at hQ
    refine ⟨b, s, ⟨E.cell 0 rfl (j := 0) rfl, E.cell 0 rfl (j := 1) rfl, trivial⟩, _, stores_whole (E.at 1 rfl) rfl (by simp) (by simp [isOne]) (by simp), ?_⟩
    have E1 := E.put (o' := fiO (b, s)) 1 rfl
    exact ⟨_, _, ⟨E1.cell 1 rfl (j := 0) rfl, E1.cell 1 rfl (j := 1) rfl, trivial⟩, Fin.of (hQ _ E1.w)⟩
  refine ⟨fun hlt => done (by omega), fun hge => ⟨fun h32 => done (by omega), fun hlt => Fin.of ?_⟩⟩
  clear done
  have hin : 0 ≤ at' ∧ at' < 32 := by omega
  obtain ⟨k, rfl⟩ := Int.eq_ofNat_of_zero_le hin.1
  unfold putF at hQ
  rw [if_pos hin, Int.toNat_natCast] at hQ
  unfold S_file_Put_J1
  refine ⟨s, E.cell 0 rfl (j := 1) rfl, semH_convStr TK.und_str TK.und_bytes TK.und_u8 rfl fun kr c0 nn js hk1 hk2 hc1 hc2 => ⟨_, _, _, rfl, ?_⟩⟩
  have E1 := E.new (o := .vec TY.uint8 (plains ((bl s).map byteV ++ js)) nn) hk1 hk2
  have R1 : Row (some (kr, .vec TY.uint8 (plains ((bl s).map byteV ++ js)) nn)) (.slice (some ⟨kr, 0, none⟩) s.size c0) TY.uint8 1 ((bl s).map byteV) := .inr ⟨kr, s.size, c0, nn, js, rfl, rfl, by simp [bl_length], hc1, by omega⟩
  refine ⟨fun a n c m h' => ∃ r l, Row r (.slice a n c) TY.uint8 1 (l.map byteV) ∧ l.length = n ∧ l = padT n (bl s) ∧ s.size ≤ n ∧ n ≤ max s.size (k + 1) ∧ m = k + 1 - n ∧ Keep B h [some (k7, fiO (b, s)), some (k9, fiO (false, ByteArray.empty)), r] h', k + 1 - s.size, Fin.of ⟨_, bl s, R1, bl_length s, (padT_self (by rw [bl_length]; omega)).symm, by omega, by omega, rfl, E1⟩, ?_⟩
  clear E1 R1 E
  rintro a n c1 _ h34 ⟨r, l, R, hl, hp, hn1, hn2, rfl, E⟩
  refine ⟨fun hle k39 hk1 hk2 h40 e40 => ?_, fun hgt => Fin.of ?_⟩
  · refine E.push1 2 rfl R TK.slc_bytes TK.zero_byte rfl (by omega) (by omega) TK.sl_bytes (ys := [.int .u8 0]) rfl (by simp [isOne]) (by simp; omega) hk1 hk2 e40 fun a' m' c' r' h'' R' E' => ⟨_, _, _, rfl, Fin.of ?_⟩
    have e1 : m' = n + 1 := by
      have := R'.len
      simp only [List.length_append, List.length_map, List.length_cons, List.length_nil] at this
      omega
    subst e1
    refine ⟨k + 1 - (n + 1), by omega, r', l ++ [0], ?_, by simp [hl], by rw [← padT_succ (by rw [bl_length]; omega), ← hp], by omega, by omega, rfl, E'⟩
    rw [List.map_append]; exact R'
  · have hkn : k < n := by omega
    have hn3 : n = max s.size (k + 1) := by omega
    unfold S_file_Put_J2
    rw [map_flat] at R
    obtain ⟨A, h25, r', ea, st, R', E2⟩ := E.rowSet 2 rfl R (fun _ => rfl) (by omega) k (by omega) c (by simp [byteV, isOne])
    refine ⟨A, ea, by omega, by omega, h25, ?_, ?_⟩
    · obtain ⟨_, w, e1, e2⟩ := st
      obtain rfl : h25 = w := e2
      rw [Int.toNat_natCast, hv]; exact e1
    · rw [← map_flat] at R'
      have e3 : l.set k c = putT (bl s) k c := by
        unfold putT
        rw [hp, hn3]
        by_cases e4 : s.size ≤ k + 1
        · rw [Nat.max_eq_right e4]
        · rw [Nat.max_eq_left (by omega), padT_self (by rw [bl_length]; omega), padT_self (by rw [bl_length]; omega)]
      rw [e3] at R'
      refine semH_convB TK.byteStr (semH_bytesToString (E2.sl 2 rfl R') ⟨_, rfl, _, stores_whole (E2.at 1 rfl) rfl (by simp) (by simp [isOne]) (by simp), ?_⟩)
      have E3 := E2.put (o' := fiO (true, ba (putT (bl s) k c))) 1 rfl
      exact ⟨_, _, ⟨E3.cell 1 rfl (j := 0) rfl, E3.cell 1 rfl (j := 1) rfl, trivial⟩, Fin.of (hQ _ E3.w)⟩
end
end Go.Proofs.YtgldgabefiialaaGreat.H
namespace Go.Proofs.YtgldgabefiialaaGreat.H
open Go
set_option linter.unusedVariables false
set_option maxRecDepth 100000
theorem TK.slc_slot_int : slcB PG TY.s_cell_slot_int = some (TY.cell_slot_int, 2, 16) := by kernel_rfl
theorem TK.zero_slot_int : zeroB PG TY.cell_slot_int = some [.int .i64 0, .int .i64 0] := by kernel_rfl
theorem TK.sl_slot_int : slT PG TY.s_cell_slot_int = true := by kernel_rfl
def slotC_int (x : Int × Int) : List Value := [.int .i64 x.1, .int .i64 x.2]
theorem slotC_int_len (x : Int × Int) : (slotC_int x).length = 2 := rfl
def rowO_int (l : List (Int × Int)) : AObj := .vec TY.cell_Row_int [.own TY.cell_slot_int 2 (l.flatMap slotC_int)] 1
def RowP_int (h : Heap) (b : Nat) (a : Option Addr) (m c : Nat) (l : List (Int × Int)) : Prop := FP h b 0 TY.cell_slot_int 2 (l.flatMap slotC_int) a m c
def RowV_int (h : Heap) (b : Nat) (l : List (Int × Int)) : Prop := FV h b 0 TY.cell_slot_int 2 (l.flatMap slotC_int)
theorem rowO_int_v {h : Heap} {b : Nat} {l : List (Int × Int)} (hb : h b = some (rowO_int l)) : RowV_int h b l := .inl ⟨_, _, _, hb, rfl⟩
theorem RowP_int.v {h : Heap} {b m c : Nat} {a : Option Addr} {l : List (Int × Int)} (R : RowP_int h b a m c l) : RowV_int h b l := FP.fv R
def cellAt_int (l : List (Int × Int)) (i : Int) : Int × Int := if 0 ≤ i then (l[i.toNat]?).getD (0, 0) else (0, 0)
section
variable {B : RO} {h : Heap} {b : Nat} {a : Option Addr} {m c : Nat} {l : List (Int × Int)}
theorem Opened.row_int {v : Value} {h1 : Heap} (ho : Opened B h b TY.cell_Row_int [.own TY.cell_slot_int 2 (l.flatMap slotC_int)] 1 0 TY.cell_slot_int 2 (l.flatMap slotC_int) v h1) : ∃ a m c, v = .slice a m c ∧ RowP_int h1 b a m c l := by
  obtain ⟨a, m, c, rfl⟩ := ho.slice
  exact ⟨a, m, c, rfl, ⟨_, _, _, ho.blk, rfl⟩, ho.row⟩
theorem RowP_int.len (R : RowP_int h b a m c l) : m = l.length := (R.2.reads (B := fun _ => none) slotC_int_len (by omega)).1
theorem RowP_int.at (R : RowP_int h b a m c l) : ∀ i x, l[i]? = some x → ∃ A, a = some A ∧ CellsAt B h (A.add (i * 2)) 0 (slotC_int x) := fun i x hx =>
  let ⟨A, e, _, q⟩ := (R.2.reads (B := B) slotC_int_len (by omega)).2 i x hx
  ⟨A, e, q⟩
theorem cellAt_int_in {i : Int} (h0 : 0 ≤ i) (h1 : i.toNat < l.length) : cellAt_int l i = l[i.toNat] := by
  rw [cellAt_int, if_pos h0, List.getElem?_eq_getElem h1]; rfl
theorem cellAt_int_out {i : Int} (hn : ¬ (0 ≤ i ∧ i < (l.length : Int))) : cellAt_int l i = (0, 0) := by
  unfold cellAt_int
  split
  · rw [List.getElem?_eq_none (by omega)]; rfl
  · rfl
theorem is_p_int {i : Int} {Q : Bool → Heap → Prop} (R : RowP_int h b a m c l) (hQ : Q (decide (0 ≤ i ∧ i < (l.length : Int))) h) : C_cell_Row_int_is B (some ⟨b, 0, none⟩) i h Q := by
  refine C_cell_Row_int_is.of ?_
  unfold S_cell_Row_int_is
  have hm := R.len
  refine ⟨(fun e => by cases e), fun _ => ⟨fun h0 => ⟨_, rfl, .inl ⟨a, m, c, R.1.cell, Fin.of ?_⟩⟩, fun h0 => Fin.of ?_⟩⟩
  · have : decide (i < (m : Int)) = decide (0 ≤ i ∧ i < (l.length : Int)) := by
      rw [decide_eq_decide, hm]; exact ⟨fun x => ⟨by omega, x⟩, fun x => x.2⟩
    rw [this]; exact hQ
  · rw [decide_eq_false (by omega)] at hQ; exact hQ
theorem get_p_int {i : Int} {Q : Int → Int → Heap → Prop} (R : RowP_int h b a m c l) (hQ : Q (cellAt_int l i).1 (cellAt_int l i).2 h) : C_cell_Row_int_Get B (some ⟨b, 0, none⟩) i h Q := by
  refine C_cell_Row_int_Get.of ?_
  unfold S_cell_Row_int_Get
  have hm := R.len
  refine is_p_int R ⟨fun hT => ?_, fun hF => Fin.of ?_⟩
  · rw [decide_eq_true_eq] at hT
    have hi : i.toNat < l.length := by omega
    rw [cellAt_int_in hT.1 hi] at hQ
    obtain ⟨A, e, q⟩ := R.at (B := B) i.toNat _ (List.getElem?_eq_getElem hi)
    refine ⟨_, rfl, a, m, c, R.1.cell, A, e, hT.1, by omega, _, q.1, _, rfl, a, m, c, R.1.cell, A, e, hT.1, by omega, _, q.2.1, Fin.of hQ⟩
  · rw [decide_eq_false_iff_not] at hF
    rw [cellAt_int_out hF] at hQ
    exact hQ
theorem get_wp_int {i : Int} {Q : Int → Int → Heap → Prop} (hv : RowV_int h b l) (hQ : Q (cellAt_int l i).1 (cellAt_int l i).2 h) : C_cell_Row_int_Get B (some ⟨b, 0, none⟩) i h Q := by
  refine FV.spec hv fun a m c h1 sh => ?_
  exact Spec.fin (Spec.mono (get_p_int (Q := fun x y h' => Fin B h' (Q x y)) sh.1 (Fin.ent sh.2.1 (Fin.of hQ))) fun v h' ⟨x, y, e, q⟩ => q.imp fun h'' q' => ⟨x, y, e, q'⟩)
theorem version_wp_int {i : Int} {Q : Int → Heap → Prop} (hb : RowV_int h b l) (hQ : Q (cellAt_int l i).2 h) : C_cell_Row_int_Version B (some ⟨b, 0, none⟩) i h Q := by
  refine C_cell_Row_int_Version.of ?_
  unfold S_cell_Row_int_Version
  exact get_wp_int hb (Fin.of hQ)
theorem is_wp_int {i : Int} {Q : Bool → Heap → Prop} (hb : RowV_int h b l) (hQ : Q (decide (0 ≤ i ∧ i < (l.length : Int))) h) : C_cell_Row_int_is B (some ⟨b, 0, none⟩) i h Q := by
  refine C_cell_Row_int_is.of ?_
  unfold S_cell_Row_int_is
  refine ⟨(fun e => by cases e), fun _ => ⟨fun h0 => ⟨_, rfl, FV.ld hb fun a m c h1 sh => Fin.ent sh.2.1 (Fin.of ?_)⟩, fun h0 => Fin.of ?_⟩⟩
  · have hm := RowP_int.len sh.1
    have : decide (i < (m : Int)) = decide (0 ≤ i ∧ i < (l.length : Int)) := by
      rw [decide_eq_decide, hm]; exact ⟨fun x => ⟨by omega, x⟩, fun x => x.2⟩
    rw [this]; exact hQ
  · rw [decide_eq_false (by omega)] at hQ; exact hQ
theorem flatMap_set {α : Type} {cells : α → List Value} (x : α) : ∀ (l : List α) (i : Nat) (hi : i < l.length), (l.set i x).flatMap cells = (l.take i).flatMap cells ++ cells x ++ (l.drop (i + 1)).flatMap cells
  | [], i, hi => by simp at hi
  | y :: l, 0, _ => by simp
  | y :: l, i + 1, hi => by
    simp only [List.set_cons_succ, List.flatMap_cons, List.take_succ_cons, List.drop_succ_cons]
    rw [flatMap_set x l i (by simpa using hi)]
    simp [List.append_assoc]
theorem flatMap_split {α : Type} {cells : α → List Value} (l : List α) (i : Nat) (hi : i < l.length) : l.flatMap cells = (l.take i).flatMap cells ++ (cells l[i] ++ (l.drop (i + 1)).flatMap cells) := by
  conv => lhs; rw [← List.take_append_drop i l, List.drop_eq_getElem_cons hi]
  rw [List.flatMap_append, List.flatMap_cons]
theorem set_wp_int {i : Int} {x : Int} {v : Int} {Q : Bool → Heap → Prop} (hb : h b = some (rowO_int l))
    (hT : 0 ≤ i → i.toNat < l.length → Q true (h.set b (rowO_int (l.set i.toNat (x, v))))) (hF : ¬ (0 ≤ i ∧ i < (l.length : Int)) → Q false h) : C_cell_Row_int_Set B (some ⟨b, 0, none⟩) i x v h Q := by
  refine C_cell_Row_int_Set.of ?_
  unfold S_cell_Row_int_Set
  refine is_wp_int (rowO_int_v hb) ⟨fun hD => ?_, fun hD => Fin.of (hF (by simpa using hD))⟩
  rw [decide_eq_true_eq] at hD
  have hi : i.toNat < l.length := by omega
  refine ⟨_, rfl, .inr ⟨_, _, _, _, _, _, rfl, hb, rfl, fun a m c h1 ho => ?_⟩⟩
  obtain ⟨a', m', c', e, R⟩ := ho.row_int
  cases e
  have hm := R.len
  have hbk := ho.blk
  rcases R.2 with ⟨e1, e2⟩ | ⟨k, m2, c2, nn, js, e1, e2, e3, e4, e5⟩
  · have := flatMap_length slotC_int_len l
    rw [e2] at this; simp at this; omega
  · cases e1
    have hlen := flatMap_length slotC_int_len (l.take i.toNat)
    rw [List.length_take, Nat.min_eq_left (by omega)] at hlen
    rw [flatMap_split l _ hi, List.append_assoc, List.append_assoc] at e2
    have hall := flatMap_length slotC_int_len l
    obtain ⟨h', s1, _, s3⟩ := StoresAt.over (slotC_int (x, v)) h1 (i.toNat * 2) 0 _ _ (by simp [slotC_int, isOne]) e2 (by rw [hlen]; omega) (by rw [slotC_int_len]; omega)
    have s3 := s3 (by simp [slotC_int])
    have hadd : Addr.add ⟨k, 0, none⟩ (i.toNat * 2) = ⟨k, i.toNat * 2, none⟩ := by
      unfold Addr.add; split
      · rename_i hz; rw [hz]
      · simp
    refine ⟨⟨k, 0, none⟩, rfl, hD.1, by omega, h', by rw [hadd]; exact s1, ?_⟩
    have hdrop : (slotC_int l[i.toNat] ++ ((l.drop (i.toNat + 1)).flatMap slotC_int ++ js)).drop (slotC_int (x, v)).length = (l.drop (i.toNat + 1)).flatMap slotC_int ++ js := by
      rw [slotC_int_len, ← slotC_int_len l[i.toNat], List.drop_left]
    rw [hdrop, ← List.append_assoc, ← flatMap_set (cells := slotC_int) (x, v) l _ hi] at s3
    have hkb : k ≠ b := (ho.new k _ _ rfl).2
    have hset : ((l.set i.toNat (x, v)).flatMap slotC_int).length = (l.flatMap slotC_int).length := by
      rw [flatMap_length slotC_int_len, flatMap_length slotC_int_len, List.length_set]
    have hcl := Ent.close_row (B := B) (h0 := h) (h := h') (b := b) (n := 1) (i := 0) (t := TY.cell_Row_int) (e := TY.cell_slot_int) (sz := 2) (fs := plains [Value.slice (some ⟨k, 0, none⟩) m c]) (v := .slice (some ⟨k, 0, none⟩) m c) (xs := (l.set i.toNat (x, v)).flatMap slotC_int)
      (by
        intro c' o hc' hh
        rw [s3, Heap.set_ne _ _ _ _ (fun e => by
          have := (ho.new k _ _ rfl).1
          rw [e, this] at hh; cases hh)]
        exact ho.sub c' o hc' hh)
      (by rw [s3, Heap.set_ne _ _ _ _ (Ne.symm hkb)]; exact hbk)
      rfl
      (.inr ⟨k, m, c, nn, js, rfl, by rw [s3, Heap.set_same], by rw [hset]; exact e3, e4, e5⟩)
      (fun k' m' c' e => ho.new k' m' c' e)
    exact Fin.ent hcl (Fin.of (hT hD.1 hi))
theorem new_wp_int {n : Int} {x : Int} {Q : Option Addr → Heap → Prop} (hn : n ≤ 1000000) (hQ : ∀ k, h k = none → B k = none → Q (some ⟨k, 0, none⟩) (h.set k (rowO_int (List.replicate n.toNat (x, 0))))) : C_cell_New_int B n x h Q := by
  refine C_cell_New_int.of ?_
  unfold S_cell_New_int
  intro k a1 b1 h5 e5
  obtain ⟨g5, -, -⟩ := Heap.made a1 e5
  have hcl : Ent B h5 (h.set k (rowO_int [])) := by
    have := Ent.close_nil (B := B) (e := TY.cell_slot_int) (sz := 2) (i := 0) g5 rfl
    rw [e5, Heap.set_set] at this
    rw [e5]
    exact this
  refine ⟨fun i m h' => ∃ j : Nat, (j : Int) ≤ max n 0 ∧ i = j ∧ m = n.toNat - j ∧ h' = h.set k (rowO_int (List.replicate j (x, 0))), n.toNat, Fin.ent hcl (Fin.of ⟨0, by omega, rfl, by omega, rfl⟩), ?_⟩
  rintro _ _ _ ⟨j, hj, rfl, rfl, rfl⟩
  refine ⟨fun hlt => ?_, fun hge => ?_⟩
  · have hl := flatMap_length slotC_int_len (List.replicate j (x, (0 : Int)))
    rw [List.length_replicate] at hl
    refine app_own (len := 1) (ys := slotC_int (x, 0)) TK.slc_slot_int TK.zero_slot_int rfl (by omega) (by omega) TK.sl_slot_int (Heap.set_same _ _ _) rfl rfl (by simp [slotC_int, isOne]) (by rw [hl, slotC_int_len]; omega) ?_
    intro a' n' c' h3 h4 s1 s2
    refine ⟨a', n', c', rfl, h4, s1, Fin.ent s2 (Fin.of ⟨n.toNat - (j + 1), by omega, j + 1, by omega, ?_, rfl, ?_⟩)⟩
    · rw [w64 (by omega) (by omega)]; omega
    · rw [Heap.set_set]
      unfold rowO_int
      rw [List.replicate_succ', List.flatMap_append]
      simp
  · have : j = n.toNat := by omega
    subst this
    exact Fin.of (hQ k a1 b1)
end
end Go.Proofs.YtgldgabefiialaaGreat.H
namespace Go.Proofs.YtgldgabefiialaaGreat.H
open Go
set_option linter.unusedVariables false
set_option maxRecDepth 100000
theorem plains_mid {α : Type} (f : α → Value) (a b : List Value) (l : List α) (i : Nat) (x : α) (hx : l[i]? = some x) : (plains (a ++ (l.map f ++ b)))[a.length + i]? = some (.plain (f x)) := by
  obtain ⟨hi, rfl⟩ := List.getElem?_eq_some_iff.1 hx
  simp only [plains, List.getElem?_map]
  rw [List.getElem?_append_right (by omega), show a.length + i - a.length = i by omega, List.getElem?_append_left (by simpa using hi), List.getElem?_map, hx]
  rfl
theorem plains_mid_set {α : Type} (f : α → Value) (a b : List Value) (l : List α) (i : Nat) (x : α) (hi : i < l.length) : (plains (a ++ (l.map f ++ b))).set (a.length + i) (.plain (f x)) = plains (a ++ ((l.set i x).map f ++ b)) := by
  unfold plains
  rw [← List.map_set, List.set_append_right _ _ (by omega), show a.length + i - a.length = i by omega, List.set_append_left _ _ (by simpa using hi), List.map_set]
theorem byteAt_bound (s : ByteArray) (i : Nat) : 0 ≤ byteAt s i ∧ byteAt s i < 256 := by
  unfold byteAt
  split
  · rename_i h
    have := (s[i]).toNat_lt
    omega
  · omega
def feedC (ts : List ByteArray) (kR : Nat) : List Value := ts.map Value.string ++ [.pointer (some ⟨kR, 0, none⟩)]
def feedO (ts : List ByteArray) (kR : Nat) : AObj := .vec TY.feed_Feed (plains (feedC ts kR)) 4
def textAt (ts : List ByteArray) (i : Int) : ByteArray := if 0 ≤ i ∧ i < 3 then (ts[i.toNat]?).getD (ByteArray.mk #[]) else ByteArray.mk #[]
def arrE (ts : List ByteArray) (i : Int) (s : ByteArray) : Int := if 0 ≤ i ∧ i < 3 then (if (textAt ts i).size + s.size > 64 then 6 else 0) else 1
def arrT (ts : List ByteArray) (i : Int) (s : ByteArray) : List ByteArray := if arrE ts i s = 0 then ts.set i.toNat (textAt ts i ++ s) else ts
def takeB (ts : List ByteArray) (l : List (Int × Int)) (i place : Int) : Bool := decide (0 ≤ i ∧ i < 3 ∧ (cellAt_int l i).1 ≤ place ∧ place ≤ (textAt ts i).size)
def takeL (ts : List ByteArray) (l : List (Int × Int)) (i place v : Int) : List (Int × Int) := if takeB ts l i place = true then l.set i.toNat (place, v) else l
def atOf (ts : List ByteArray) (i place : Int) : Int := if 0 ≤ i ∧ i < 3 ∧ 0 ≤ place ∧ place < (textAt ts i).size then byteAt (textAt ts i) place.toNat else -1
structure FeedOk (ts : List ByteArray) (l : List (Int × Int)) : Prop where
  t3 : ts.length = 3
  l3 : l.length = 3
  size : ∀ i, (textAt ts i).size ≤ 64
  place : ∀ i, 0 ≤ (cellAt_int l i).1 ∧ (cellAt_int l i).1 ≤ (textAt ts i).size
theorem textAt_in {ts : List ByteArray} {i : Int} (h3 : ts.length = 3) (h0 : 0 ≤ i) (h1 : i < 3) : ts[i.toNat]? = some (textAt ts i) := by
  rw [textAt, if_pos ⟨h0, h1⟩, List.getElem?_eq_getElem (by omega)]; rfl
theorem textAt_set {ts : List ByteArray} {i : Int} (h3 : ts.length = 3) (h0 : 0 ≤ i) (h1 : i < 3) (s : ByteArray) (j : Int) : textAt (ts.set i.toNat s) j = if j = i then s else textAt ts j := by
  unfold textAt
  by_cases hj : 0 ≤ j ∧ j < 3
  · rw [if_pos hj, if_pos hj]
    by_cases he : j = i
    · subst he
      rw [if_pos rfl, List.getElem?_set_self (by omega)]; rfl
    · rw [if_neg he, List.getElem?_set_ne (by omega)]
  · rw [if_neg hj, if_neg hj, if_neg (fun he => hj (by omega))]
theorem cellAt_int_set {l : List (Int × Int)} {i : Int} (h0 : 0 ≤ i) (h1 : i < l.length) (x : Int × Int) (j : Int) : cellAt_int (l.set i.toNat x) j = if j = i then x else cellAt_int l j := by
  unfold cellAt_int
  by_cases hj : 0 ≤ j
  · rw [if_pos hj, if_pos hj]
    by_cases he : j = i
    · subst he
      rw [if_pos rfl, List.getElem?_set_self (by omega)]; rfl
    · rw [if_neg he, List.getElem?_set_ne (by omega)]
  · rw [if_neg hj, if_neg hj, if_neg (fun he => hj (by omega))]
theorem FeedOk.arrive {ts : List ByteArray} {l : List (Int × Int)} (k : FeedOk ts l) (i : Int) (s : ByteArray) : FeedOk (arrT ts i s) l := by
  unfold arrT
  split
  · rename_i h
    have hi : 0 ≤ i ∧ i < 3 := by
      unfold arrE at h; split at h
      · assumption
      · cases h
    have hs : (textAt ts i).size + s.size ≤ 64 := by
      unfold arrE at h; rw [if_pos hi] at h; split at h
      · cases h
      · omega
    refine ⟨by rw [List.length_set]; exact k.t3, k.l3, fun j => ?_, fun j => ?_⟩
    · rw [textAt_set k.t3 hi.1 hi.2]; split
      · rw [ByteArray.size_append]; exact hs
      · exact k.size j
    · have := k.place j
      rw [textAt_set k.t3 hi.1 hi.2]; split
      · rename_i e; subst e; rw [ByteArray.size_append]; omega
      · exact this
  · exact k
theorem FeedOk.take {ts : List ByteArray} {l : List (Int × Int)} (k : FeedOk ts l) (i place v : Int) : FeedOk ts (takeL ts l i place v) := by
  unfold takeL
  split
  · rename_i h
    unfold takeB at h
    rw [decide_eq_true_eq] at h
    obtain ⟨h0, h1, h2, h3⟩ := h
    have l3 := k.l3
    refine ⟨k.t3, by rw [List.length_set]; exact k.l3, k.size, fun j => ?_⟩
    rw [cellAt_int_set h0 (by omega)]
    have := k.place i
    split
    · rename_i e; subst e; exact ⟨by omega, h3⟩
    · exact k.place j
  · exact k
section
variable {B : RO} {h : Heap} {kF kR kM : Nat} {ts : List ByteArray} {l l' : List (Int × Int)}
theorem feed_text (hf : h kF = some (feedO ts kR)) (h3 : ts.length = 3) {i : Int} (h0 : 0 ≤ i) (h1 : i < 3) : cellH B h (Addr.add ⟨kF, 0, none⟩ (i.toNat * 1)) = some (.string (textAt ts i)) := by
  rw [addr_more, Nat.mul_one]
  exact cellH_vec hf (plains_mid Value.string [] _ ts i.toNat _ (textAt_in h3 h0 h1))
theorem feed_ptr (hf : h kF = some (feedO ts kR)) (h3 : ts.length = 3) : cellH B h (Addr.add ⟨kF, 0, none⟩ 3) = some (.pointer (some ⟨kR, 0, none⟩)) := by
  rw [addr_more, Nat.zero_add]
  refine cellH_vec hf ?_
  have := plains_mid (fun x : Option Addr => Value.pointer x) (ts.map Value.string) [] [some ⟨kR, 0, none⟩] 0 _ rfl
  rw [List.length_map, h3] at this
  exact this
theorem feed_is_wp {i : Int} {p : Addr} {Q : Bool → Heap → Prop} (hQ : Q (decide (0 ≤ i ∧ i < 3)) h) : C_feed_Feed_is B (some p) i h Q := by
  refine C_feed_Feed_is.of ?_
  unfold S_feed_Feed_is
  refine ⟨fun e => (by cases e), fun _ => ⟨fun h0 => Fin.of ?_, fun h0 => Fin.of ?_⟩⟩
  · have : decide (i < 3) = decide (0 ≤ i ∧ i < 3) := by rw [decide_eq_decide]; exact ⟨fun x => ⟨by omega, x⟩, fun x => x.2⟩
    rw [this]; exact hQ
  · rw [decide_eq_false (by omega)] at hQ; exact hQ
theorem feedC_set (ts : List ByteArray) (kR i : Nat) (x : ByteArray) (hi : i < ts.length) : (plains (feedC ts kR)).set i (.plain (.string x)) = plains (feedC (ts.set i x) kR) := by
  have := plains_mid_set Value.string [] [.pointer (some ⟨kR, 0, none⟩)] ts i x hi
  simp only [List.length_nil, Nat.zero_add, List.nil_append] at this
  exact this
theorem feed_put (hf : h kF = some (feedO ts kR)) (h3 : ts.length = 3) {i : Int} (h0 : 0 ≤ i) (h1 : i < 3) (x : ByteArray) : storeH h (Addr.add ⟨kF, 0, none⟩ (i.toNat * 1)) (.string x) = some (h.set kF (feedO (ts.set i.toNat x) kR)) := by
  have hg : (plains (feedC ts kR))[i.toNat]? = some (.plain (.string (textAt ts i))) := by
    have := plains_mid Value.string [] [.pointer (some ⟨kR, 0, none⟩)] ts i.toNat _ (textAt_in h3 h0 h1)
    simp only [List.length_nil, Nat.zero_add, List.nil_append] at this
    exact this
  have hst := storeH_vec (v := .string x) hf hg
  rw [feedC_set ts kR i.toNat x (by omega)] at hst
  rw [addr_more, Nat.mul_one, Nat.zero_add]
  exact hst
theorem feed_arrive_wp {i : Int} {s : ByteArray} {Q : Int → Heap → Prop} (k : FeedOk ts l) (hf : h kF = some (feedO ts kR)) (hs : s.size ≤ 1000000000) (hQ : Q (arrE ts i s) (h.set kF (feedO (arrT ts i s) kR))) : C_feed_Feed_Arrive B (some ⟨kF, 0, none⟩) i s h Q := by
  refine C_feed_Feed_Arrive.of ?_
  unfold S_feed_Feed_Arrive
  refine ⟨fun e => (by cases e), fun _ => feed_is_wp ⟨fun hT => ?_, fun hF => Fin.of ?_⟩⟩
  · rw [decide_eq_true_eq] at hT
    have ht := k.size i
    refine ⟨_, rfl, hT.1, hT.2, _, feed_text hf k.t3 hT.1 hT.2, ?_⟩
    rw [w64 (by omega) (by omega)]
    refine ⟨fun hgt => Fin.of ?_, fun hle => Fin.of ?_⟩
    · have e : arrE ts i s = 6 := by rw [arrE, if_pos hT, if_pos (by omega)]
      rw [arrT, e, if_neg (by decide), Heap.set_self _ _ _ hf] at hQ
      exact hQ
    · unfold S_feed_Feed_Arrive_J1
      have e : arrE ts i s = 0 := by rw [arrE, if_pos hT, if_neg (by omega)]
      rw [arrT, e, if_pos rfl] at hQ
      exact ⟨_, rfl, hT.1, hT.2, _, feed_text hf k.t3 hT.1 hT.2, by omega, _, rfl, hT.1, hT.2, _, feed_put hf k.t3 hT.1 hT.2 _, Fin.of hQ⟩
  · rw [decide_eq_false_iff_not] at hF
    have e : arrE ts i s = 1 := by rw [arrE, if_neg hF]
    rw [arrT, e, if_neg (by decide), Heap.set_self _ _ _ hf] at hQ
    exact hQ
theorem feed_place_wp {i : Int} {Q : Int → Int → Heap → Prop} (h3 : ts.length = 3) (hf : h kF = some (feedO ts kR)) (hr : h kR = some (rowO_int l)) (hQ : Q (cellAt_int l i).1 (cellAt_int l i).2 h) : C_feed_Feed_Place B (some ⟨kF, 0, none⟩) i h Q := by
  refine C_feed_Feed_Place.of ?_
  unfold S_feed_Feed_Place
  exact ⟨fun e => (by cases e), fun _ => ⟨_, rfl, _, feed_ptr hf h3, get_wp_int (rowO_int_v hr) (Fin.of hQ)⟩⟩
theorem feed_text_wp {i : Int} {Q : ByteArray → Heap → Prop} (h3 : ts.length = 3) (hf : h kF = some (feedO ts kR)) (hQ : Q (textAt ts i) h) : C_feed_Feed_Text B (some ⟨kF, 0, none⟩) i h Q := by
  refine C_feed_Feed_Text.of ?_
  unfold S_feed_Feed_Text
  refine feed_is_wp ⟨fun hT => ?_, fun hF => Fin.of ?_⟩
  · rw [decide_eq_true_eq] at hT
    exact ⟨_, rfl, hT.1, hT.2, _, feed_text hf h3 hT.1 hT.2, Fin.of hQ⟩
  · rw [decide_eq_false_iff_not] at hF
    rw [textAt, if_neg hF] at hQ; exact hQ
theorem feed_at_wp {i place : Int} {Q : Int → Heap → Prop} (h3 : ts.length = 3) (hf : h kF = some (feedO ts kR)) (hQ : Q (atOf ts i place) h) : C_feed_Feed_At B (some ⟨kF, 0, none⟩) i place h Q := by
  refine C_feed_Feed_At.of ?_
  unfold S_feed_Feed_At
  refine feed_is_wp ⟨fun hT => ⟨fun hp => Fin.of ?_, fun hp => ?_⟩, fun hF => Fin.of ?_⟩
  · rw [atOf, if_neg (by omega)] at hQ; exact hQ
  · rw [decide_eq_true_eq] at hT
    refine ⟨_, rfl, hT.1, hT.2, _, feed_text hf h3 hT.1 hT.2, fun hg => Fin.of ?_, fun hg => Fin.of ?_⟩
    · rw [atOf, if_neg (by omega)] at hQ; exact hQ
    · unfold S_feed_Feed_At_J1
      refine ⟨_, rfl, hT.1, hT.2, _, feed_text hf h3 hT.1 hT.2, by omega, by omega, Fin.of ?_⟩
      rw [atOf, if_pos ⟨hT.1, hT.2, by omega, by omega⟩] at hQ
      have := byteAt_bound (textAt ts i) place.toNat
      rw [w64 (by omega) (by omega)]; exact hQ
  · rw [decide_eq_false_iff_not] at hF
    rw [atOf, if_neg (by omega)] at hQ; exact hQ
theorem feed_take_wp {i place v : Int} {Q : Bool → Heap → Prop} (k : FeedOk ts l) (hf : h kF = some (feedO ts kR)) (hr : h kR = some (rowO_int l)) (hQ : Q (takeB ts l i place) (h.set kR (rowO_int (takeL ts l i place v)))) : C_feed_Feed_Take B (some ⟨kF, 0, none⟩) i place v h Q := by
  refine C_feed_Feed_Take.of ?_
  unfold S_feed_Feed_Take
  have no : ¬ (0 ≤ i ∧ i < 3 ∧ (cellAt_int l i).1 ≤ place ∧ place ≤ (textAt ts i).size) → Q false h := fun hn => by
    have e : takeB ts l i place = false := by rw [takeB, decide_eq_false hn]
    rw [takeL, e, if_neg (by decide), Heap.set_self _ _ _ hr] at hQ
    exact hQ
  refine feed_place_wp k.t3 hf hr (feed_is_wp ⟨fun hT => ⟨fun hp => Fin.of (no (by omega)), fun hp => ?_⟩, fun hF => Fin.of (no ?_)⟩)
  · rw [decide_eq_true_eq] at hT
    refine ⟨_, rfl, hT.1, hT.2, _, feed_text hf k.t3 hT.1 hT.2, fun hg => Fin.of (no (by omega)), fun hg => Fin.of ?_⟩
    unfold S_feed_Feed_Take_J1
    have e : takeB ts l i place = true := by rw [takeB, decide_eq_true_eq]; omega
    have l3 := k.l3
    rw [takeL, e, if_pos rfl] at hQ
    exact ⟨_, rfl, _, feed_ptr hf k.t3, set_wp_int hr (fun _ _ => Fin.of hQ) (fun hn => absurd (show 0 ≤ i ∧ i < (l.length : Int) by omega) hn)⟩
  · rw [decide_eq_false_iff_not] at hF
    omega
def ts0 : List ByteArray := [ByteArray.empty, ByteArray.empty, ByteArray.empty]
def fl0 : List (Int × Int) := [(0, 0), (0, 0), (0, 0)]
theorem FeedOk.zero : FeedOk ts0 fl0 := by
  have key : ∀ i : Int, textAt ts0 i = ByteArray.empty ∧ (cellAt_int fl0 i) = (0, 0) := fun i => by
    by_cases h : 0 ≤ i ∧ i < 3
    · have : i = 0 ∨ i = 1 ∨ i = 2 := by omega
      rcases this with rfl | rfl | rfl <;> exact ⟨rfl, rfl⟩
    · refine ⟨by rw [textAt, if_neg h]; rfl, ?_⟩
      unfold cellAt_int
      split
      · rw [List.getElem?_eq_none (by simp [fl0]; omega)]; rfl
      · rfl
  exact ⟨rfl, rfl, fun i => by rw [(key i).1]; decide, fun i => by rw [(key i).1, (key i).2]; decide⟩
theorem feed_new_wp {Q : Option Addr → Heap → Prop} (hQ : ∀ kR kF h1 h2, h kR = none → B kR = none → h1 = h.set kR (rowO_int fl0) → h1 kF = none → B kF = none → h2 = h1.set kF (feedO ts0 kR) → Q (some ⟨kF, 0, none⟩) h2) : C_feed_New B h Q := by
  refine C_feed_New.of ?_
  unfold S_feed_New
  refine new_wp_int (by decide) fun kR a1 b1 k4 a4 b4 h5 e5 => Fin.of (hQ kR k4 _ h5 a1 b1 rfl a4 b4 e5)
end
end Go.Proofs.YtgldgabefiialaaGreat.H
namespace Go.Proofs.YtgldgabefiialaaGreat.H
open Go Go.RowKit
set_option linter.unusedVariables false
set_option maxRecDepth 100000
structure StI where
  kd : Nat
  vd : Value
  rd : Option (Nat × AObj)
  ks : Nat
  kf : Nat
  vf : Value
  rf : Option (Nat × AObj)
  kc : Nat
structure StV where
  d : List (Int × Int)
  f : List (Int × (Bool × ByteArray))
  c0 : Int
  c1 : Int
  c2 : Int
def StV.z : StV := ⟨[], [], 0, 0, 0⟩
def shO (kf : Nat) : AObj := .vec TY.sheet_Sheet (plains [.pointer (some ⟨kf, 0, none⟩)]) 1
def curO (s : StV) : AObj := .vec TY.cursor_Cursor (plains [.int .i64 s.c0, .int .i64 s.c1, .int .i64 s.c2]) 3
def StI.e (x : StI) (s : StV) : List (Option (Nat × AObj)) := [some (x.kd, drO_int x.vd), x.rd, some (x.ks, shO x.kf), some (x.kf, drO_file_File x.vf), x.rf, some (x.kc, curO s)]
structure StI.Ok (x : StI) (s : StV) : Prop where
  d : DRow_int x.rd x.vd s.d
  f : DRow_file_File x.rf x.vf s.f
structure StAt (L : List (Option (Nat × AObj))) (i : Nat) (x : StI) (s : StV) : Prop where
  d : DAt_int L i x.kd x.vd x.rd
  sh : L[i + 2]? = some (some (x.ks, shO x.kf))
  f : DAt_file_File L (i + 3) x.kf x.vf x.rf
  c : L[i + 5]? = some (some (x.kc, curO s))
theorem StAt.app {L M : List (Option (Nat × AObj))} {i : Nat} {x : StI} {s : StV} (A : StAt L i x s) : StAt (L ++ M) i x s :=
  ⟨⟨up_app _ A.d.p, up_app _ A.d.q⟩, up_app _ A.sh, ⟨up_app _ A.f.p, up_app _ A.f.q⟩, up_app _ A.c⟩
structure Reg4 where
  a : Int
  b : Int
  c : Int
  d : Int
structure MarkR where
  x : StI
  g : Reg4
  m : Reg4
  place : Int
def MarkR.cells (m : MarkR) : List Value := [.pointer (some ⟨m.x.kd, 0, none⟩), .pointer (some ⟨m.x.ks, 0, none⟩), .pointer (some ⟨m.x.kc, 0, none⟩), .int .i64 m.g.a, .int .i64 m.g.b, .int .i64 m.g.c, .int .i64 m.g.d, .int .i64 m.m.a, .int .i64 m.m.b, .int .i64 m.m.c, .int .i64 m.m.d, .int .i64 m.place]
theorem MarkR.len (m : MarkR) : m.cells.length = 12 := rfl
theorem MarkR.one (m : MarkR) : ∀ y ∈ m.cells, isOne y = true := fun y hy => by
  simp only [MarkR.cells, List.mem_cons, List.not_mem_nil, or_false] at hy
  rcases hy with rfl | rfl | rfl | rfl | rfl | rfl | rfl | rfl | rfl | rfl | rfl | rfl <;> rfl
theorem TK.slc_mark : slcB PG TY.s_mark_Mark = some (TY.mark_Mark, 12, 96) := by kernel_rfl
theorem TK.zero_mark : zeroB PG TY.mark_Mark = some [.pointer none, .pointer none, .pointer none, .int .i64 0, .int .i64 0, .int .i64 0, .int .i64 0, .int .i64 0, .int .i64 0, .int .i64 0, .int .i64 0, .int .i64 0] := by kernel_rfl
theorem TK.sl_mark : slT PG TY.s_mark_Mark = true := by kernel_rfl
def skO (v : Value) : AObj := .vec TY.mark_Stack (plains [v]) 1
def MRow (r : Option (Nat × AObj)) (v : Value) (l : List MarkR) : Prop := Row r v TY.mark_Mark 12 (l.flatMap MarkR.cells)
structure SkAt (L : List (Option (Nat × AObj))) (i k : Nat) (v : Value) (r : Option (Nat × AObj)) : Prop where
  p : L[i]? = some (some (k, skO v))
  q : L[i + 1]? = some r
section
variable {B : RO} {h0 h h' : Heap} {L : List (Option (Nat × AObj))} {r : Option (Nat × AObj)} {i j k : Nat} {a : Option Addr} {m c : Nat} {v : Value} {l : List MarkR} {x : StI} {s : StV} {g mm : Reg4} {place : Int}
theorem sheet_new_wp {Q : Option Addr → Heap → Prop} (hQ : ∀ ks kf h', Keep B h [some (ks, shO kf), some (kf, drO_file_File (.slice none 0 0)), none] h' → Q (some ⟨ks, 0, none⟩) h') : C_sheet_New B h Q := by
  refine C_sheet_New.of ?_
  unfold S_sheet_New
  intro k2 a2 b2 h3 e3 k4 a4 b4 h5 e5
  have E := ((Keep.nil B h).made a2 b2 e3).made a4 b4 e5
  exact Fin.of (hQ k4 k2 h5 (E.picks [1, 0, 9] (by decide)))
theorem sheet_copy_wp {Q : Option Addr → Heap → Prop} (E : Keep B h0 L h) (A : StAt L i x s) (O : x.Ok s) (hf : s.f.length ≤ 100000) (hQ : ∀ ks kf vf rf h', DRow_file_File rf vf s.f → Keep B h0 (L ++ [some (ks, shO kf), some (kf, drO_file_File vf), rf]) h' → Q (some ⟨ks, 0, none⟩) h') : C_sheet_Sheet_Copy B (some ⟨x.ks, 0, none⟩) h Q := by
  refine C_sheet_Sheet_Copy.of ?_
  unfold S_sheet_Sheet_Copy
  refine ⟨fun e => (by cases e), fun _ => ⟨_, rfl, _, E.cell (i + 2) A.sh rfl, copy_file_File_wp E A.f O.f hf fun k' v' r' h7 R E1 => ?_⟩⟩
  intro k9 a9 b9 h10 e10
  have E2 := E1.made a9 b9 e10
  refine Fin.of (hQ k9 k' v' r' h10 R ?_)
  have E3 := Keep.rot3 E2
  exact E3
theorem cursor_copy_wp {Q : Option Addr → Heap → Prop} (E : Keep B h0 L h) (A : StAt L i x s) (hQ : ∀ kc h', Keep B h0 (L ++ [some (kc, curO s)]) h' → Q (some ⟨kc, 0, none⟩) h') : C_cursor_Cursor_Copy B (some ⟨x.kc, 0, none⟩) h Q := by
  refine C_cursor_Cursor_Copy.of ?_
  unfold S_cursor_Cursor_Copy
  refine ⟨fun e => (by cases e), fun _ => ⟨_, rfl, _, _, _, ⟨E.cell (i + 5) A.c rfl, E.cell (i + 5) A.c rfl, E.cell (i + 5) A.c rfl, trivial⟩, fun k9 a9 b9 h10 e10 => ?_⟩⟩
  have E1 := E.made a9 b9 e10
  refine ⟨_, stores_whole E1.last rfl (by simp) (by simp [isOne]) (by simp), ?_⟩
  have E2 := E1.putLast (curO s)
  exact Fin.of (hQ k9 _ E2)
theorem fresh_wp {Q : Option Addr → Option Addr → Option Addr → Int → Int → Int → Int → Heap → Prop} (hQ : ∀ x h', StI.Ok x StV.z → Keep B h (x.e StV.z) h' → Q (some ⟨x.kd, 0, none⟩) (some ⟨x.ks, 0, none⟩) (some ⟨x.kc, 0, none⟩) g.a g.b g.c g.d h') : C_mark_Fresh B g.a g.b g.c g.d h Q := by
  refine C_mark_Fresh.of ?_
  unfold S_mark_Fresh
  intro k12 a12 b12 h13 e13 k14 a14 b14 h15 e15
  have E := ((Keep.nil B h).made a12 b12 e13).made a14 b14 e15
  have c12 : ∀ {M : List (Option (Nat × AObj))} {h1 : Heap}, Keep B h ([] ++ [some (k12, AObj.vec TY.api_Regs (plains [.int .i64 g.a, .int .i64 g.b, .int .i64 g.c, .int .i64 g.d]) 4)] ++ M) h1 → CellsAt B h1 ⟨k12, 0, none⟩ 0 [.int .i64 g.a, .int .i64 g.b, .int .i64 g.c, .int .i64 g.d] := fun {M h1} E1 => ⟨E1.cell 0 rfl rfl, E1.cell 0 rfl rfl, E1.cell 0 rfl rfl, E1.cell 0 rfl rfl, trivial⟩
  have fin : ∀ {kd ks kf kc : Nat} {h1 : Heap}, Keep B h [some (k14, .vec TY.mark_State (plains [.pointer none, .pointer none, .pointer none, .int .i64 0, .int .i64 0, .int .i64 0, .int .i64 0]) 7), some (kd, drO_int (.slice none 0 0)), some (ks, shO kf), some (kf, drO_file_File (.slice none 0 0)), some (kc, curO StV.z)] h1 → ∃ h2, StoresAt ⟨k14, 0, none⟩ h1 0 [.pointer (some ⟨kd, 0, none⟩), .pointer (some ⟨ks, 0, none⟩), .pointer (some ⟨kc, 0, none⟩), .int .i64 g.a, .int .i64 g.b, .int .i64 g.c, .int .i64 g.d] h2 ∧ ∃ p33 : Option Addr, ∃ p34 : Option Addr, ∃ p35 : Option Addr, ∃ i36 : Int, ∃ i37 : Int, ∃ i38 : Int, ∃ i39 : Int, CellsAt B h2 ⟨k14, 0, none⟩ 0 [(Value.pointer p33), (Value.pointer p34), (Value.pointer p35), (Value.int .i64 (i36)), (Value.int .i64 (i37)), (Value.int .i64 (i38)), (Value.int .i64 (i39))] ∧ Fin B h2 (Q p33 p34 p35 (i36) (i37) (i38) (i39)) := fun {kd ks kf kc h1} E1 => by
    refine ⟨_, stores_whole (E1.at 0 rfl) rfl (by simp) (by simp [isOne]) (by simp), ?_⟩
    have E2 := E1.put (o' := .vec TY.mark_State (plains [.pointer (some ⟨kd, 0, none⟩), .pointer (some ⟨ks, 0, none⟩), .pointer (some ⟨kc, 0, none⟩), .int .i64 g.a, .int .i64 g.b, .int .i64 g.c, .int .i64 g.d]) 7) 0 rfl
    refine ⟨_, _, _, _, _, _, _, ⟨E2.cell 0 rfl rfl, E2.cell 0 rfl rfl, E2.cell 0 rfl rfl, E2.cell 0 rfl rfl, E2.cell 0 rfl rfl, E2.cell 0 rfl rfl, E2.cell 0 rfl rfl, trivial⟩, Fin.of ?_⟩
    exact hQ ⟨kd, .slice none 0 0, none, ks, kf, .slice none 0 0, none, kc⟩ _ ⟨Row.nil _ _, Row.nil _ _⟩ (E2.picks [1, 9, 2, 3, 10, 4] (by decide))
  refine ⟨_, _, _, _, c12 E, fun k23 a23 b23 h24 e24 => ?_, ?_, fun k85 a85 b85 h86 e86 => ?_⟩
  · have E1 := E.made a23 b23 e24
    refine ⟨⟨E1.cell 0 rfl rfl, E1.cell 0 rfl rfl, E1.cell 0 rfl rfl, E1.cell 0 rfl rfl, trivial⟩, sheet_new_wp fun ks kf h26 E2 => ?_, fun k40 a40 b40 h41 e41 => ?_⟩
    · have E3 := E1.append E2
      refine ⟨⟨E3.cell 0 rfl rfl, E3.cell 0 rfl rfl, E3.cell 0 rfl rfl, E3.cell 0 rfl rfl, trivial⟩, fun k29 a29 b29 h30 e30 => ?_⟩
      have E4 := E3.made a29 b29 e30
      exact ⟨⟨E4.cell 0 rfl rfl, E4.cell 0 rfl rfl, E4.cell 0 rfl rfl, E4.cell 0 rfl rfl, trivial⟩, fin (E4.picks [1, 2, 3, 4, 6] (by decide))⟩
    · have E3 := E1.made a40 b40 e41
      refine ⟨⟨E3.cell 0 rfl rfl, E3.cell 0 rfl rfl, E3.cell 0 rfl rfl, E3.cell 0 rfl rfl, trivial⟩, sheet_new_wp fun ks kf h26 E2 => ?_⟩
      have E4 := E3.append E2
      exact ⟨⟨E4.cell 0 rfl rfl, E4.cell 0 rfl rfl, E4.cell 0 rfl rfl, E4.cell 0 rfl rfl, trivial⟩, fin (E4.picks [1, 2, 4, 5, 3] (by decide))⟩
  · refine sheet_new_wp fun ks kf h54 E2 => ?_
    have E3 := E.append E2
    refine ⟨⟨E3.cell 0 rfl rfl, E3.cell 0 rfl rfl, E3.cell 0 rfl rfl, E3.cell 0 rfl rfl, trivial⟩, fun k57 a57 b57 h58 e58 => ?_, fun k71 a71 b71 h72 e72 => ?_⟩
    · have E4 := E3.made a57 b57 e58
      refine ⟨⟨E4.cell 0 rfl rfl, E4.cell 0 rfl rfl, E4.cell 0 rfl rfl, E4.cell 0 rfl rfl, trivial⟩, fun k60 a60 b60 h61 e61 => ?_⟩
      have E5 := E4.made a60 b60 e61
      exact ⟨⟨E5.cell 0 rfl rfl, E5.cell 0 rfl rfl, E5.cell 0 rfl rfl, E5.cell 0 rfl rfl, trivial⟩, fin (E5.picks [1, 5, 2, 3, 6] (by decide))⟩
    · have E4 := E3.made a71 b71 e72
      refine ⟨⟨E4.cell 0 rfl rfl, E4.cell 0 rfl rfl, E4.cell 0 rfl rfl, E4.cell 0 rfl rfl, trivial⟩, fun k74 a74 b74 h75 e75 => ?_⟩
      have E5 := E4.made a74 b74 e75
      exact ⟨⟨E5.cell 0 rfl rfl, E5.cell 0 rfl rfl, E5.cell 0 rfl rfl, E5.cell 0 rfl rfl, trivial⟩, fin (E5.picks [1, 6, 2, 3, 5] (by decide))⟩
  · have E1 := E.made a85 b85 e86
    refine ⟨⟨E1.cell 0 rfl rfl, E1.cell 0 rfl rfl, E1.cell 0 rfl rfl, E1.cell 0 rfl rfl, trivial⟩, fun k88 a88 b88 h89 e89 => ?_, sheet_new_wp fun ks kf h102 E2 => ?_⟩
    · have E3 := E1.made a88 b88 e89
      refine ⟨⟨E3.cell 0 rfl rfl, E3.cell 0 rfl rfl, E3.cell 0 rfl rfl, E3.cell 0 rfl rfl, trivial⟩, sheet_new_wp fun ks kf h91 E2 => ?_⟩
      have E4 := E3.append E2
      exact ⟨⟨E4.cell 0 rfl rfl, E4.cell 0 rfl rfl, E4.cell 0 rfl rfl, E4.cell 0 rfl rfl, trivial⟩, fin (E4.picks [1, 3, 4, 5, 2] (by decide))⟩
    · have E3 := E1.append E2
      refine ⟨⟨E3.cell 0 rfl rfl, E3.cell 0 rfl rfl, E3.cell 0 rfl rfl, E3.cell 0 rfl rfl, trivial⟩, fun k105 a105 b105 h106 e106 => ?_⟩
      have E4 := E3.made a105 b105 e106
      exact ⟨⟨E4.cell 0 rfl rfl, E4.cell 0 rfl rfl, E4.cell 0 rfl rfl, E4.cell 0 rfl rfl, trivial⟩, fin (E4.picks [1, 6, 3, 4, 2] (by decide))⟩
theorem state_copy_wp {Q : Option Addr → Option Addr → Option Addr → Int → Int → Int → Int → Heap → Prop} (E : Keep B h0 L h) (A : StAt L i x s) (O : x.Ok s) (hd : s.d.length ≤ 100000) (hf : s.f.length ≤ 100000) (hQ : ∀ x' h', StI.Ok x' s → Keep B h0 (L ++ x'.e s) h' → Q (some ⟨x'.kd, 0, none⟩) (some ⟨x'.ks, 0, none⟩) (some ⟨x'.kc, 0, none⟩) g.a g.b g.c g.d h') : C_mark_State_Copy B (some ⟨x.kd, 0, none⟩) (some ⟨x.ks, 0, none⟩) (some ⟨x.kc, 0, none⟩) g.a g.b g.c g.d h Q := by
  refine C_mark_State_Copy.of ?_
  unfold S_mark_State_Copy
  intro k15 a15 b15 h16 e16 k17 a17 b17 h18 e18
  have E1 := (E.made a15 b15 e16).made a17 b17 e18
  have g15 : ∀ {M : List (Option (Nat × AObj))} {h1 : Heap}, Keep B h0 (L ++ [some (k15, AObj.vec TY.mark_State (plains [.pointer (some ⟨x.kd, 0, none⟩), .pointer (some ⟨x.ks, 0, none⟩), .pointer (some ⟨x.kc, 0, none⟩), .int .i64 g.a, .int .i64 g.b, .int .i64 g.c, .int .i64 g.d]) 7)] ++ M) h1 → h1 k15 = some (AObj.vec TY.mark_State (plains [.pointer (some ⟨x.kd, 0, none⟩), .pointer (some ⟨x.ks, 0, none⟩), .pointer (some ⟨x.kc, 0, none⟩), .int .i64 g.a, .int .i64 g.b, .int .i64 g.c, .int .i64 g.d]) 7) := fun {M h1} E2 => E2.at L.length (up_app _ (by rw [List.getElem?_append_right (Nat.le_refl _), Nat.sub_self]; rfl))
  have c15 : ∀ {h1 : Heap}, h1 k15 = some (AObj.vec TY.mark_State (plains [.pointer (some ⟨x.kd, 0, none⟩), .pointer (some ⟨x.ks, 0, none⟩), .pointer (some ⟨x.kc, 0, none⟩), .int .i64 g.a, .int .i64 g.b, .int .i64 g.c, .int .i64 g.d]) 7) → cellH B h1 ⟨k15, 0, none⟩ = some (Value.pointer (some ⟨x.kd, 0, none⟩)) ∧ cellH B h1 ⟨k15, 1, none⟩ = some (Value.pointer (some ⟨x.ks, 0, none⟩)) ∧ cellH B h1 ⟨k15, 2, none⟩ = some (Value.pointer (some ⟨x.kc, 0, none⟩)) ∧ CellsAt B h1 ⟨k15, 3, none⟩ 0 [(Value.int .i64 (g.a)), (Value.int .i64 (g.b)), (Value.int .i64 (g.c)), (Value.int .i64 (g.d))] := fun g0 => ⟨cellH_vec g0 rfl, cellH_vec g0 rfl, cellH_vec g0 rfl, cellH_vec g0 rfl, cellH_vec g0 rfl, cellH_vec g0 rfl, cellH_vec g0 rfl, trivial⟩
  obtain ⟨q1, q2, q3, q4⟩ := c15 (g15 E1)
  refine ⟨_, q1, _, q2, _, q3, _, _, _, _, q4, ?_⟩
  have A1 := (A.app (M := [some (k15, AObj.vec TY.mark_State (plains [.pointer (some ⟨x.kd, 0, none⟩), .pointer (some ⟨x.ks, 0, none⟩), .pointer (some ⟨x.kc, 0, none⟩), .int .i64 g.a, .int .i64 g.b, .int .i64 g.c, .int .i64 g.d]) 7)])).app (M := [some (k17, AObj.vec TY.mark_State (plains [.pointer none, .pointer none, .pointer none, .int .i64 0, .int .i64 0, .int .i64 0, .int .i64 0]) 7)])
  refine copy_int_wp E1 A1.d O.d hd fun kd vd rd h34 Rd E2 => ?_
  rw [List.append_assoc] at E2
  obtain ⟨q1, q2, q3, q4⟩ := c15 (g15 E2)
  refine ⟨q1, q2, q3, q4, ?_⟩
  rw [← List.append_assoc] at E2
  refine sheet_copy_wp E2 (A1.app (M := drE_int kd vd rd)) O hf fun ks kf vf rf h40 Rf E3 => ?_
  have E3' := E3
  rw [List.append_assoc, List.append_assoc] at E3'
  obtain ⟨q1, q2, q3, q4⟩ := c15 (g15 E3')
  refine ⟨q1, q2, q3, q4, ?_⟩
  refine cursor_copy_wp E3 ((A1.app (M := drE_int kd vd rd)).app (M := [some (ks, shO kf), some (kf, drO_file_File vf), rf])) fun kc h46 E4 => ?_
  have E4' := E4
  rw [List.append_assoc, List.append_assoc, List.append_assoc] at E4'
  obtain ⟨q1, q2, q3, q4⟩ := c15 (g15 E4')
  refine ⟨q1, q2, q3, q4, ?_⟩
  have hi17 : (L ++ [some (k15, AObj.vec TY.mark_State (plains [.pointer (some ⟨x.kd, 0, none⟩), .pointer (some ⟨x.ks, 0, none⟩), .pointer (some ⟨x.kc, 0, none⟩), .int .i64 g.a, .int .i64 g.b, .int .i64 g.c, .int .i64 g.d]) 7)] ++ [some (k17, AObj.vec TY.mark_State (plains [.pointer none, .pointer none, .pointer none, .int .i64 0, .int .i64 0, .int .i64 0, .int .i64 0]) 7)] ++ drE_int kd vd rd ++ [some (ks, shO kf), some (kf, drO_file_File vf), rf] ++ [some (kc, curO s)])[L.length + 1]? = some (some (k17, AObj.vec TY.mark_State (plains [.pointer none, .pointer none, .pointer none, .int .i64 0, .int .i64 0, .int .i64 0, .int .i64 0]) 7)) := by
    refine up_app _ (up_app _ (up_app _ ?_))
    rw [List.append_assoc, List.getElem?_append_right (by omega), show L.length + 1 - L.length = 1 by omega]; rfl
  refine ⟨_, stores_whole (E4.at _ hi17) rfl (by simp) (by simp [isOne]) (by simp), ?_⟩
  have E5 := E4.put (o' := .vec TY.mark_State (plains [.pointer (some ⟨kd, 0, none⟩), .pointer (some ⟨ks, 0, none⟩), .pointer (some ⟨kc, 0, none⟩), .int .i64 g.a, .int .i64 g.b, .int .i64 g.c, .int .i64 g.d]) 7) (L.length + 1) hi17
  have g17 := E5.at (L.length + 1) (by rw [List.getElem?_set_self (List.getElem?_eq_some_iff.1 hi17).1])
  refine ⟨_, _, _, _, _, _, _, ⟨cellH_vec g17 rfl, cellH_vec g17 rfl, cellH_vec g17 rfl, cellH_vec g17 rfl, cellH_vec g17 rfl, cellH_vec g17 rfl, cellH_vec g17 rfl, trivial⟩, Fin.of ?_⟩
  refine hQ ⟨kd, vd, rd, ks, kf, vf, rf, kc⟩ _ ⟨Rd, Rf⟩ ?_
  have e5 : (L ++ [some (k15, AObj.vec TY.mark_State (plains [.pointer (some ⟨x.kd, 0, none⟩), .pointer (some ⟨x.ks, 0, none⟩), .pointer (some ⟨x.kc, 0, none⟩), .int .i64 g.a, .int .i64 g.b, .int .i64 g.c, .int .i64 g.d]) 7)] ++ [some (k17, AObj.vec TY.mark_State (plains [.pointer none, .pointer none, .pointer none, .int .i64 0, .int .i64 0, .int .i64 0, .int .i64 0]) 7)] ++ drE_int kd vd rd ++ [some (ks, shO kf), some (kf, drO_file_File vf), rf] ++ [some (kc, curO s)]).set (L.length + 1) (some (k17, .vec TY.mark_State (plains [.pointer (some ⟨kd, 0, none⟩), .pointer (some ⟨ks, 0, none⟩), .pointer (some ⟨kc, 0, none⟩), .int .i64 g.a, .int .i64 g.b, .int .i64 g.c, .int .i64 g.d]) 7)) = L ++ ([some (k15, AObj.vec TY.mark_State (plains [.pointer (some ⟨x.kd, 0, none⟩), .pointer (some ⟨x.ks, 0, none⟩), .pointer (some ⟨x.kc, 0, none⟩), .int .i64 g.a, .int .i64 g.b, .int .i64 g.c, .int .i64 g.d]) 7), some (k17, .vec TY.mark_State (plains [.pointer (some ⟨kd, 0, none⟩), .pointer (some ⟨ks, 0, none⟩), .pointer (some ⟨kc, 0, none⟩), .int .i64 g.a, .int .i64 g.b, .int .i64 g.c, .int .i64 g.d]) 7)] ++ StI.e ⟨kd, vd, rd, ks, kf, vf, rf, kc⟩ s) := by
    simp only [List.append_assoc]
    rw [List.set_append_right _ _ (by omega), show L.length + 1 - L.length = 1 by omega]
    rfl
  rw [e5] at E5
  exact E5.dropMid
theorem MRow.len (R : MRow r (.slice a m c) l) : m = l.length := (Row.rd (B := fun _ => none) R MarkR.len (by omega)).1
theorem push_wp {Q : Bool → Heap → Prop} (E : Keep B h0 L h) (A : SkAt L i k v r) (R : MRow r v l) (hl : l.length ≤ 10000) (S : StAt L j x s) (O : x.Ok s) (hd : s.d.length ≤ 100000) (hf : s.f.length ≤ 100000)
    (hQ : ∀ x' v' r' h', StI.Ok x' s → MRow r' v' (l ++ [⟨x', g, mm, place⟩]) → Keep B h0 ((L.set i (some (k, skO v'))).set (i + 1) r' ++ x'.e s) h' → Q true h') : C_mark_Stack_Push B (some ⟨k, 0, none⟩) (some ⟨x.kd, 0, none⟩) (some ⟨x.ks, 0, none⟩) (some ⟨x.kc, 0, none⟩) g.a g.b g.c g.d mm.a mm.b mm.c mm.d place h Q := by
  refine C_mark_Stack_Push.of ?_
  unfold S_mark_Stack_Push
  have hil : i < L.length := (List.getElem?_eq_some_iff.1 A.p).1
  have hil1 : i + 1 < L.length := (List.getElem?_eq_some_iff.1 A.q).1
  intro k15 a15 b15 h16 e16
  have E1 := E.made a15 b15 e16
  have g1 := E1.last
  obtain ⟨a, m, c, rfl⟩ := Row.slice R
  obtain rfl := MRow.len R
  have hfl := flatMap_length MarkR.len l
  refine ⟨fun e => (by cases e), fun _ => ⟨_, _, _, _, _, _, _, ⟨cellH_vec g1 rfl, cellH_vec g1 rfl, cellH_vec g1 rfl, cellH_vec g1 rfl, cellH_vec g1 rfl, cellH_vec g1 rfl, cellH_vec g1 rfl, trivial⟩, ?_⟩⟩
  refine state_copy_wp (g := g) E1 S.app O hd hf fun x' h25 O' E2 => ?_
  have mid : ∀ (y : Option (Nat × AObj)) (M : List (Option (Nat × AObj))), (L ++ [y] ++ M)[L.length]? = some y := fun y M => up_app _ (by rw [List.getElem?_append_right (Nat.le_refl _), Nat.sub_self]; rfl)
  have midset : ∀ (y z : Option (Nat × AObj)) (M : List (Option (Nat × AObj))), (L ++ [y] ++ M).set L.length z = L ++ [z] ++ M := fun y z M => by
    rw [List.append_assoc, List.set_append_right _ _ (Nat.le_refl _), Nat.sub_self, List.append_assoc]; rfl
  obtain ⟨h33, s1, -, s3⟩ := StoresAt.over (k := k15) (nn := 12) (t := TY.mark_Mark) [.pointer (some ⟨x'.kd, 0, none⟩), .pointer (some ⟨x'.ks, 0, none⟩), .pointer (some ⟨x'.kc, 0, none⟩), .int .i64 g.a, .int .i64 g.b, .int .i64 g.c, .int .i64 g.d] h25 0 0 [] (MarkR.cells ⟨x, g, mm, place⟩) (by simp [isOne]) (E2.at L.length (mid _ _)) rfl (by simp)
  have s4 := s3 (by simp)
  refine ⟨h33, s1, _, rfl, a, l.length, c, ?_⟩
  have E3 := E2.put (o' := .vec TY.mark_Mark (plains (MarkR.cells ⟨x', g, mm, place⟩)) 12) L.length (mid _ _)
  rw [midset] at E3
  have e3 : h33 = h25.set k15 (.vec TY.mark_Mark (plains (MarkR.cells ⟨x', g, mm, place⟩)) 12) := s4
  rw [← e3] at E3
  have gp : ∀ {M : List (Option (Nat × AObj))} {h1 : Heap}, Keep B h0 (L ++ M) h1 → cellH B h1 ⟨k, 0, none⟩ = some (.slice a l.length c) := fun {M h1} E4 => E4.cell i (up_app _ A.p) rfl
  have gc : ∀ {M : List (Option (Nat × AObj))} {h1 : Heap}, Keep B h0 (L ++ [some (k15, .vec TY.mark_Mark (plains (MarkR.cells ⟨x', g, mm, place⟩)) 12)] ++ M) h1 → CellsAt B h1 ⟨k15, 0, none⟩ 0 (MarkR.cells ⟨x', g, mm, place⟩) := fun {M h1} E4 => CellsAt.of_vec (MarkR.cells ⟨x', g, mm, place⟩) 0 (E4.at L.length (mid _ _)) fun j y hj => by rw [plains_get, Nat.zero_add, hj]; rfl
  have E3a := E3
  rw [List.append_assoc] at E3a
  refine ⟨gp E3a, _, _, _, _, _, _, _, _, _, _, _, _, gc E3, fun k57 a57 b57 h58 e58 => ?_⟩
  have E4 := E3.made a57 b57 e58
  have E4a := E4
  rw [List.append_assoc, List.append_assoc] at E4a
  have E4b := E4
  rw [List.append_assoc (L ++ _)] at E4b
  refine ⟨gp E4a, gc E4b, ?_⟩
  have g57 := E4.last
  refine E4.pushS (i + 1) (n := 1) (ys := MarkR.cells ⟨x', g, mm, place⟩) (up_app _ (up_app _ (up_app _ A.q))) R TK.slc_mark TK.zero_mark rfl (by omega) (by omega) TK.sl_mark ⟨rfl, MarkR.one _, .inl ⟨_, _, rfl, CellsAt.of_vec (MarkR.cells ⟨x', g, mm, place⟩) 0 g57 fun j y hj => by show (plains (MarkR.cells ⟨x', g, mm, place⟩))[_]? = _; rw [plains_get, Nat.zero_add, hj]; rfl⟩⟩ (by rw [hfl, MarkR.len]; omega) fun a' m' c' r' h61 R' E5 => ?_
  have hset : ∀ (N : List (Option (Nat × AObj))) (y : Option (Nat × AObj)), (L ++ N).set (i + 1) y = L.set (i + 1) y ++ N := fun N y => List.set_append_left _ _ hil1
  rw [List.append_assoc, List.append_assoc, hset] at E5
  have hp5 : (L.set (i + 1) r' ++ ([some (k15, .vec TY.mark_Mark (plains (MarkR.cells ⟨x', g, mm, place⟩)) 12)] ++ (x'.e s ++ [some (k57, .vec TY.mark_Mark (plains (MarkR.cells ⟨x', g, mm, place⟩)) 12)])))[i]? = some (some (k, skO (.slice a l.length c))) := up_app _ (by rw [List.getElem?_set_ne (by omega)]; exact A.p)
  refine ⟨_, _, _, rfl, E5.cell i hp5 rfl, ?_, _, rfl, ?_⟩
  · have g6 := E5.at L.length (k := k15) (o := .vec TY.mark_Mark (plains (MarkR.cells ⟨x', g, mm, place⟩)) 12) (by rw [List.getElem?_append_right (Nat.le_of_eq (List.length_set ..)), List.length_set, Nat.sub_self]; rfl)
    exact CellsAt.of_vec (MarkR.cells ⟨x', g, mm, place⟩) 0 g6 fun j y hj => by rw [plains_get, Nat.zero_add, hj]; rfl
  · obtain ⟨es, E6⟩ := E5.store i 0 (.slice a' m' c') hp5 rfl
    refine ⟨_, es, Fin.of (hQ x' (.slice a' m' c') r' _ O' ?_ ?_)⟩
    · unfold MRow; rw [List.flatMap_append]; exact R'
    · rw [List.set_append_left _ _ (by rw [List.length_set]; omega), List.set_comm _ _ (by omega)] at E6
      rw [← List.append_assoc, ← List.append_assoc] at E6
      have E7 := Keep.pop E6
      rw [List.append_assoc] at E7
      exact E7.dropMid
end
end Go.Proofs.YtgldgabefiialaaGreat.H
namespace Go.Proofs.YtgldgabefiialaaGreat.H
open Go Go.RowKit
set_option linter.unusedVariables false
set_option maxRecDepth 100000
def intC (n : Int) : List Value := [.int .i64 n]
theorem intC_len (n : Int) : (intC n).length = 1 := rfl
def dallF (k3 : Nat) : Value := Value.func (.func FN.draft_Draft_int_All_1) #[] #[(Value.pointer (some ⟨k3, 0, none⟩))]
def encD (x : Int × Int) : List Value := [.int .i64 x.1, .int .i64 x.2]
def dG (k3 k : Nat) (v : Value) (r : Option (Nat × AObj)) (h : Heap) : Prop :=
  h k3 = some (.vec TY.p_draft_Draft_int [.plain (.pointer (some ⟨k, 0, none⟩))] 1) ∧ h k = some (drO_int v) ∧ ∀ k o, r = some (k, o) → h k = some o
theorem dG_ins {k3 kk : Nat} {v : Value} {r : Option (Nat × AObj)} : Ins (dG k3 kk v r) := by
  rintro h k o hk ⟨g1, g2, g3⟩
  exact ⟨Heap.get_new hk g1, Heap.get_new hk g2, fun k' o' e => Heap.get_new hk (g3 k' o' e)⟩
section
variable {B : RO} {h0 h h' : Heap} {L : List (Option (Nat × AObj))} {r : Option (Nat × AObj)} {i k k3 : Nat} {a : Option Addr} {m c : Nat} {v : Value} {l : List (Int × Int)} {n : Int}
theorem dall_wp {p : Option Addr} {Q : Value → Heap → Prop} (hQ : ∀ k, h k = none → B k = none → Q (dallF k) (h.set k (.vec TY.p_draft_Draft_int [.plain (.pointer p)] 1))) : C_draft_Draft_int_All B p h Q := by
  refine C_draft_Draft_int_All.of ?_
  unfold S_draft_Draft_int_All
  intro k a1 b1 h4 e4
  subst e4
  exact Fin.of (hQ k a1 b1)
theorem dall_iter (R : DRow_int r v l) (hlen : l.length ≤ 100000) : Iter PG B (dallF k3) (l.map encD) (dG k3 k v r) := by
  refine ⟨_, _, _, rfl, TG.draft_Draft_int_All_1, fun y J X h hy hG h0 hcall => ?_⟩
  have main : C_draft_Draft_int_All_1 B y ⟨k3, 0, none⟩ h (fun h' => Fin B h' (fun h'' => J (l.map encD).length h'' ∨ X h'')) := by
    refine C_draft_Draft_int_All_1.of ?_
    unfold S_draft_Draft_int_All_1
    obtain ⟨a, m, c, rfl⟩ := Row.slice R
    obtain ⟨rfl, hrd⟩ := Row.rd (B := B) R entC_int_len (by omega)
    obtain ⟨g1, g2, g3⟩ := hG 0 h h0
    refine ⟨_, cellH_vec g1 rfl, fun e => (by cases e), fun _ => ⟨_, cellH_vec g1 rfl, _, rfl, .inl ⟨a, _, c, cellH_vec g2 rfl, ?_⟩⟩⟩
    refine ⟨fun i m' h' => ∃ j : Nat, j ≤ l.length ∧ i = j ∧ m' = l.length - j ∧ J j h', l.length, Fin.of ⟨0, by omega, rfl, by omega, h0⟩, ?_⟩
    rintro _ _ h13 ⟨j, hj, rfl, rfl, hJ⟩
    obtain ⟨g1, g2, g3⟩ := hG j h13 hJ
    refine ⟨fun hlt => ?_, fun hge => Fin.of ?_⟩
    · have hj' : j < l.length := by omega
      have hx := List.getElem?_eq_getElem hj'
      generalize l[j] = x at hx
      obtain ⟨A, e, _, q⟩ := hrd h13 g3 j _ hx
      refine ⟨A, e, by omega, hlt, x.1, x.2, q, fun k24 a24 b24 h25 e25 => ?_⟩
      obtain ⟨g25, l25, -⟩ := Heap.made a24 e25
      refine ⟨_, stores_whole g25 rfl (by simp) (by simp [isOne]) (by simp), ?_⟩
      generalize e26 : h25.set k24 _ = h26
      obtain ⟨g26, -, -⟩ := Heap.put e26
      refine ⟨_, cellH_vec g26 rfl, _, cellH_vec g26 rfl, ?_⟩
      have w : Wk B h13 h26 := by
        rw [← e26, e25, Heap.set_set]; exact Wk.new a24 b24
      have hc := hcall j h13 (encD x) (by rw [List.getElem?_map, hx]; rfl) hJ
      refine CallV.mono ?_ (hc.weaken w)
      rintro v h27 ⟨h28, t1, h29, t2, hor⟩
      rcases hor with ⟨rfl, hJ'⟩ | ⟨rfl, hX⟩
      · refine ⟨true, rfl, fun _ => ⟨h29, t1.trans t2, l.length - (j + 1), by omega, j + 1, by omega, ?_, rfl, hJ'⟩, fun e => by cases e⟩
        rw [w64 (by omega) (by omega)]; omega
      · exact ⟨false, rfl, fun e => (by cases e), fun _ => ⟨h29, t1.trans t2, Fin.of (.inr hX)⟩⟩
    · have : j = l.length := by omega
      subst this
      refine Fin.of (.inl ?_)
      rw [List.length_map]
      exact hJ
  exact Spec.mono main fun v h' q => q.2
end
end Go.Proofs.YtgldgabefiialaaGreat.H
namespace Go.Proofs.YtgldgabefiialaaGreat.H
open Go Go.RowKit
set_option linter.unusedVariables false
set_option maxRecDepth 100000
def zeroM : List Value := [.pointer none, .pointer none, .pointer none, .int .i64 0, .int .i64 0, .int .i64 0, .int .i64 0, .int .i64 0, .int .i64 0, .int .i64 0, .int .i64 0, .int .i64 0]
section
variable {B : RO} {h0 h h' : Heap} {L : List (Option (Nat × AObj))} {r : Option (Nat × AObj)} {i j k : Nat} {a : Option Addr} {m c : Nat} {v : Value} {l : List MarkR} {z : MarkR}
theorem delete_wp {Q : Option Addr → Nat → Nat → Heap → Prop} (E : Keep B h0 L h) (hq : L[i]? = some r) (R : MRow r (.slice a (l.length + 1) c) (l ++ [z])) (hl : l.length ≤ 10000)
    (hQ : ∀ r' h', MRow r' (.slice a l.length c) l → Keep B h0 (L.set i r') h' → Q a l.length c h') : C_slices_Delete_s_mark_Mark_mark_Mark B a (l.length + 1) c (l.length : Nat) ((l.length + 1 : Nat)) h Q := by
  refine C_slices_Delete_s_mark_Mark_mark_Mark.of ?_
  unfold S_slices_Delete_s_mark_Mark_mark_Mark
  have hcap := Row.cap R
  have hfl := flatMap_length MarkR.len l
  have hil := (List.getElem?_eq_some_iff.1 hq).1
  have Rc := Row.cut R (n := l.length) (by omega)
  have hfa : (l ++ [z]).flatMap MarkR.cells = l.flatMap MarkR.cells ++ z.cells := by rw [List.flatMap_append]; simp
  refine ⟨by omega, by omega, by omega, by omega, fun e => by omega, fun _ => ⟨by omega, by omega, by omega, by omega, by omega, by omega, ?_⟩⟩
  simp only [Int.toNat_natCast, Int.toNat_zero, Nat.sub_zero, optAddZ, Nat.sub_self]
  have tf := slT_facts TK.sl_mark
  have hsrc : ∀ A' : Option Addr, Src B h (.slice A' 0 (c - (l.length + 1))) 12 0 [] := fun A' => by
    refine ⟨rfl, by simp, ?_⟩
    cases A' with
    | none => exact .inr (.inl ⟨_, rfl, rfl⟩)
    | some A => exact .inl ⟨A, _, rfl, trivial⟩
  refine semH_append (n := 0) (ys := []) TK.slc_mark TK.zero_mark rfl (by omega) (by omega) tf.1 tf.2 (E.sl i hq Rc) (hsrc _) (by rw [hfa, ← hfl, List.take_left, hfl]; simp; omega) fun v' h'' ap => ?_
  rcases ap with ⟨_, rfl, rfl⟩ | ⟨k', m', n', c', nn, js, hn, _, _, _, h2, _⟩
  · rcases R with ⟨_, e1, e2⟩ | ⟨kr, m', c', nn, js, rfl, e1, e3, e4, e5⟩
    · rw [hfa] at e2; simp [MarkR.cells] at e2
    · cases e1
      refine ⟨_, _, _, rfl, by omega, by omega, by omega, ?_⟩
      have ne : ¬ c = l.length := by omega
      simp only [if_neg ne, Option.map_some, addr_more, Nat.zero_add, show l.length + 1 - l.length = 1 by omega]
      have h5 : (l.length + 1) * 12 ≤ nn := Nat.le_trans (Nat.mul_le_mul_right _ e4) e5
      obtain ⟨h26, st, E2⟩ := E.storesV i (k := kr) (nn := nn) (t := TY.mark_Mark) (fs := l.flatMap MarkR.cells) (gs := z.cells ++ js) (by rw [hq, hfa, List.append_assoc]) zeroM (by simp [zeroM, isOne]) (l.length * 12) hfl (by simp [zeroM]; omega)
      refine semH_clearSl TK.slc_mark TK.zero_mark (by omega) (zeroCells_one _).symm st ⟨rfl, Fin.of (hQ _ _ (.inr ⟨kr, l.length, c, nn, zeroM ++ (z.cells ++ js).drop zeroM.length, ?_, rfl, hfl.symm, by omega, e5⟩) E2)⟩
      rw [← List.append_assoc]
  · have : n' = 0 := by simp at h2; omega
    exact absurd this hn
theorem pop_wp {Q : Option Addr → Option Addr → Option Addr → Int → Int → Int → Int → Int → Int → Int → Int → Int → Bool → Heap → Prop} (E : Keep B h0 L h) (A : SkAt L i k v r) (R : MRow r v l) (hl : l.length ≤ 10000)
    (h0' : l = [] → ∀ h', Keep B h0 L h' → Q none none none 0 0 0 0 0 0 0 0 0 false h')
    (hQ : ∀ l' z v' r' h', l = l' ++ [z] → MRow r' v' l' → Keep B h0 ((L.set i (some (k, skO v'))).set (i + 1) r') h' → Q (some ⟨z.x.kd, 0, none⟩) (some ⟨z.x.ks, 0, none⟩) (some ⟨z.x.kc, 0, none⟩) z.g.a z.g.b z.g.c z.g.d z.m.a z.m.b z.m.c z.m.d z.place true h') : C_mark_Stack_Pop B (some ⟨k, 0, none⟩) h Q := by
  refine C_mark_Stack_Pop.of ?_
  unfold S_mark_Stack_Pop
  have hil : i < L.length := (List.getElem?_eq_some_iff.1 A.p).1
  have hil1 : i + 1 < L.length := (List.getElem?_eq_some_iff.1 A.q).1
  intro k15 a15 b15 h16 e16
  have E1 : Keep B h0 (L ++ [some (k15, .vec TY.mark_Mark (plains zeroM) 12)]) h16 := E.made a15 b15 e16
  obtain ⟨a, m, c, rfl⟩ := Row.slice R
  obtain rfl := MRow.len R
  refine ⟨fun e => (by cases e), fun _ => ⟨_, rfl, .inl ⟨a, _, c, E1.cell i (up_app _ A.p) rfl, fun hz => ?_, fun hnz => Fin.of ?_⟩⟩⟩
  · refine ⟨_, stores_whole (us := zeroM) E1.last rfl (by simp) (by simp [isOne]) (by simp), ?_⟩
    have E2 := E1.putLast (.vec TY.mark_Mark (plains zeroM) 12)
    have g := E2.last
    exact ⟨_, _, _, _, _, _, _, _, _, _, _, _, ⟨cellH_vec g rfl, cellH_vec g rfl, cellH_vec g rfl, cellH_vec g rfl, cellH_vec g rfl, cellH_vec g rfl, cellH_vec g rfl, cellH_vec g rfl, cellH_vec g rfl, cellH_vec g rfl, cellH_vec g rfl, cellH_vec g rfl, trivial⟩, Fin.of (h0' (List.length_eq_zero_iff.1 (by omega)) _ E2.pop)⟩
  · unfold S_mark_Stack_Pop_J1
    obtain ⟨l', z, rfl⟩ : ∃ l' z, l = l' ++ [z] := ⟨l.dropLast, l.getLast (fun e => by rw [e] at hnz; simp at hnz), (List.dropLast_concat_getLast _).symm⟩
    have hll : (l' ++ [z]).length = l'.length + 1 := by simp
    have hw1 : IntKind.wrap .i64 ((((l' ++ [z]).length : Nat) : Int) - 1) = ((l'.length : Nat) : Int) := by rw [w64 (by omega) (by omega)]; omega
    have hw2 : IntKind.wrap .i64 (((l'.length : Nat) : Int) + 1) = ((l'.length + 1 : Nat) : Int) := by rw [w64 (by omega) (by omega)]; omega
    obtain ⟨-, hrd⟩ := Row.rd (B := B) R MarkR.len (by omega)
    obtain ⟨A', e1, _, e4⟩ := hrd h16 (fun k o e => E1.at (i + 1) (by rw [up_app _ A.q, e])) l'.length z (by simp)
    refine ⟨_, rfl, .inl ⟨a, _, c, E1.cell i (up_app _ A.p) rfl, _, rfl, .inl ⟨a, _, c, E1.cell i (up_app _ A.p) rfl, A', e1, ?_⟩⟩⟩
    rw [hw1, hw2]
    refine ⟨by omega, by omega, _, _, _, _, _, _, _, _, _, _, _, _, e4, fun k45 a45 b45 h46 e46 => ?_⟩
    have E2 : Keep B h0 (L ++ [some (k15, .vec TY.mark_Mark (plains zeroM) 12)] ++ [some (k45, .vec TY.mark_Mark (plains zeroM) 12)]) h46 := E1.made a45 b45 e46
    refine ⟨_, stores_whole (us := zeroM) E2.last rfl (by simp) (by simp [isOne]) (by simp), ?_⟩
    have E3 := E2.putLast (.vec TY.mark_Mark (plains z.cells) 12)
    refine ⟨_, rfl, .inl ⟨a, (l' ++ [z]).length, c, E3.cell i (up_app _ (up_app _ A.p)) rfl, ?_⟩⟩
    rw [hll] at R hl ⊢
    refine delete_wp (i := i + 1) E3 (up_app _ (up_app _ A.q)) R (by omega) fun r' h54 R' E4 => ?_
    rw [List.append_assoc, List.set_append_left _ _ hil1] at E4
    have hp : (L.set (i + 1) r' ++ ([some (k15, .vec TY.mark_Mark (plains zeroM) 12)] ++ [some (k45, .vec TY.mark_Mark (plains z.cells) 12)]))[i]? = some (some (k, skO (.slice a (l' ++ [z]).length c))) := up_app _ (by rw [List.getElem?_set_ne (by omega)]; exact A.p)
    obtain ⟨es, E5⟩ := E4.store i 0 (.slice a l'.length c) hp rfl
    refine ⟨_, rfl, _, es, ?_⟩
    rw [List.set_append_left _ _ (by rw [List.length_set]; omega), List.set_comm _ _ (by omega), ← List.append_assoc] at E5
    have g45 := E5.last
    refine ⟨_, _, _, _, _, _, _, _, _, _, _, _, ⟨cellH_vec g45 rfl, cellH_vec g45 rfl, cellH_vec g45 rfl, cellH_vec g45 rfl, cellH_vec g45 rfl, cellH_vec g45 rfl, cellH_vec g45 rfl, cellH_vec g45 rfl, cellH_vec g45 rfl, cellH_vec g45 rfl, cellH_vec g45 rfl, cellH_vec g45 rfl, trivial⟩, ?_⟩
    have E6 := E5.swapLast.pop
    have E7 := E5.pop
    have g15 := E7.last
    refine ⟨_, stores_whole (us := zeroM) g15 rfl (by simp) (by simp [isOne]) (by simp), ?_⟩
    have E8 := E7.putLast (.vec TY.mark_Mark (plains z.cells) 12)
    have g := E8.last
    exact ⟨_, _, _, _, _, _, _, _, _, _, _, _, ⟨cellH_vec g rfl, cellH_vec g rfl, cellH_vec g rfl, cellH_vec g rfl, cellH_vec g rfl, cellH_vec g rfl, cellH_vec g rfl, cellH_vec g rfl, cellH_vec g rfl, cellH_vec g rfl, cellH_vec g rfl, cellH_vec g rfl, trivial⟩, Fin.of (hQ l' z _ r' _ rfl R' E8.pop)⟩
end
end Go.Proofs.YtgldgabefiialaaGreat.H
namespace Go.Proofs.YtgldgabefiialaaGreat.H
open Go
set_option linter.unusedVariables false
set_option maxRecDepth 100000
def OpenC (x : Int × Int) : List Value := [.int .i64 x.1, .int .i64 x.2]
theorem OpenC_len (x : Int × Int) : (OpenC x).length = 2 := rfl
def OutC (x : Int × Int) : List Value := [.int .i64 x.1, .int .u8 x.2]
theorem OutC_len (x : Int × Int) : (OutC x).length = 2 := rfl
def NoteC (x : Int) : List Value := [.int .i64 x]
theorem NoteC_len (x : Int) : (NoteC x).length = 1 := rfl
def negD (x : Int × Int) : Int × Int := (x.1, IntKind.wrap .i64 (0 - x.2))
def undoL (l : List (Int × Int)) : List (Int × Int) := l.reverse.map negD
def actO (v0 v1 v2 v3 : Value) : AObj := .vec TY.acts_Acts (plains [v0, v1, v2, v3]) 4
theorem TK.slc_opens : slcB PG TY.s_acts_Open = some (TY.acts_Open, 2, 16) := by kernel_rfl
theorem TK.zero_open : zeroB PG TY.acts_Open = some [.int .i64 0, .int .i64 0] := by kernel_rfl
theorem TK.sl_opens : slT PG TY.s_acts_Open = true := by kernel_rfl
def bwOf (l : List (Int × Int)) : List (Int × Int × Int) := (l.zipIdx.map fun p => ((p.2 : Int), p.1)).reverse
def bwC (x : Int × Int × Int) : List Value := [.int .i64 x.1, .agg #[.int .i64 x.2.1, .int .i64 x.2.2]]
theorem bwOf_len (l : List (Int × Int)) : (bwOf l).length = l.length := by simp [bwOf]
theorem bwOf_get (l : List (Int × Int)) (q : Nat) (hq : q < l.length) : (bwOf l)[q]? = some (((l.length - 1 - q : Nat) : Int), l[l.length - 1 - q]) := by
  unfold bwOf
  rw [List.getElem?_reverse (by simpa using hq), List.getElem?_map, List.length_map, List.length_zipIdx, List.getElem?_zipIdx]
  rw [List.getElem?_eq_getElem (by omega)]
  simp
def bwF (k5 : Nat) : Value := Value.func (.func FN.slices_Backward_s_acts_Open_acts_Open_1) #[] #[(Value.pointer (some ⟨k5, 0, none⟩))]
section
variable {B : RO} {h0 h h' : Heap} {L : List (Option (Nat × AObj))} {r : Option (Nat × AObj)} {a : Option Addr} {m c k : Nat} {l : List (Int × Int)}
theorem bw_wp {Q : Value → Heap → Prop} (hQ : ∀ k, h k = none → B k = none → Q (bwF k) (h.set k (.vec TY.s_acts_Open [.plain (.slice a m c)] 1))) : C_slices_Backward_s_acts_Open_acts_Open B a m c h Q := by
  refine C_slices_Backward_s_acts_Open_acts_Open.of ?_
  unfold S_slices_Backward_s_acts_Open_acts_Open
  intro k a1 b1 h4 e4
  subst e4
  exact Fin.of (hQ k a1 b1)
def bwG (k5 : Nat) (r : Option (Nat × AObj)) (a : Option Addr) (m c : Nat) (h : Heap) : Prop := h k5 = some (.vec TY.s_acts_Open [.plain (.slice a m c)] 1) ∧ ∀ k o, r = some (k, o) → h k = some o
theorem bw_ins {k5 : Nat} : Ins (bwG k5 r a m c) := by
  rintro h k o hk ⟨g1, g2⟩
  exact ⟨Heap.get_new hk g1, fun k' o' e => Heap.get_new hk (g2 k' o' e)⟩
theorem bw_iter {k5 : Nat} (hlen : l.length ≤ 1000000000) (hrd : RowRd B r a 2 OpenC l) : Iter PG B (bwF k5) ((bwOf l).map bwC) (bwG k5 r a l.length c) := by
  refine ⟨_, _, _, rfl, TG.slices_Backward_s_acts_Open_acts_Open_1, fun y J X h hy hG h0 hcall => ?_⟩
  have main : C_slices_Backward_s_acts_Open_acts_Open_1 B y ⟨k5, 0, none⟩ h (fun h' => Fin B h' (fun h'' => J ((bwOf l).map bwC).length h'' ∨ X h'')) := by
    refine C_slices_Backward_s_acts_Open_acts_Open_1.of ?_
    unfold S_slices_Backward_s_acts_Open_acts_Open_1
    obtain ⟨g1, g2⟩ := hG 0 h h0
    refine .inl ⟨a, l.length, c, cellH_vec g1 rfl, ?_⟩
    refine ⟨fun i m' h' => ∃ j : Nat, j ≤ l.length ∧ i = (l.length : Int) - 1 - j ∧ m' = l.length - j ∧ J j h', l.length, Fin.of ⟨0, by omega, ?_, by omega, h0⟩, ?_⟩
    · rw [w64 (by omega) (by omega)]; omega
    rintro _ _ h8 ⟨j, hj, rfl, rfl, hJ⟩
    obtain ⟨g1, g2⟩ := hG j h8 hJ
    refine ⟨fun hge => ?_, fun hlt => Fin.of ?_⟩
    · have hj' : j < l.length := by omega
      have e1 : (l.length : Int) - 1 - j = ((l.length - 1 - j : Nat) : Int) := by omega
      rw [e1]
      obtain ⟨A, e, _, q⟩ := hrd h8 g2 (l.length - 1 - j) _ (List.getElem?_eq_getElem (by omega))
      refine .inl ⟨a, l.length, c, cellH_vec g1 rfl, A, e, by omega, by omega, l[l.length - 1 - j].1, l[l.length - 1 - j].2, q, ?_⟩
      have hc := hcall j h8 (bwC (((l.length - 1 - j : Nat) : Int), l[l.length - 1 - j])) (by
        rw [List.getElem?_map, bwOf_get l j hj']; rfl) hJ
      refine CallV.mono ?_ hc
      rintro v h27 ⟨h28, t1, hor⟩
      rcases hor with ⟨rfl, hJ'⟩ | ⟨rfl, hX⟩
      · refine ⟨true, rfl, fun _ => ⟨h28, t1, l.length - (j + 1), by omega, j + 1, by omega, ?_, rfl, hJ'⟩, fun e => by cases e⟩
        rw [w64 (by omega) (by omega)]; omega
      · exact ⟨false, rfl, fun e => (by cases e), fun _ => ⟨h28, t1, Fin.of (.inr hX)⟩⟩
    · have : j = l.length := by omega
      subst this
      refine Fin.of (.inl ?_)
      rw [List.length_map, bwOf_len]
      exact hJ
  exact Spec.mono main fun v h' q => q.2
theorem undo_wp {Q : Option Addr → Nat → Nat → Heap → Prop} (hlen : l.length ≤ 100000) (hrd : RowRd B r a 2 OpenC l) (hr : ∀ k o, r = some (k, o) → h k = some o)
    (hQ : ∀ a' m' c' r' h', Row r' (.slice a' m' c') TY.acts_Open 2 ((undoL l).flatMap OpenC) → Keep B h [r'] h' → Q a' m' c' h') : C_acts_undo B a l.length c h Q := by
  refine C_acts_undo.of ?_
  unfold S_acts_undo
  intro k7 a7 b7 h8 e8
  have E := (Keep.nil B h).made a7 b7 e8
  refine bw_wp fun k5 a5 b5 => ?_
  have E1 := E.new (o := .vec TY.s_acts_Open [.plain (.slice a l.length c)] 1) a5 b5
  have it := bw_iter (B := B) (k5 := k5) (c := c) (l := l) (by omega) hrd
  refine ⟨bwOf l, bwG k5 r a l.length c, fun q h' => ∃ v r', Row r' v TY.acts_Open 2 (((l.reverse.take q).map negD).flatMap OpenC) ∧ Keep B h [some (k7, .vec TY.s_acts_Open (plains [v]) 1), some (k5, .vec TY.s_acts_Open [.plain (.slice a l.length c)] 1), r'] h', it, bw_ins, ?_, Fin.of ⟨_, none, Row.nil _ _, E1.gap⟩, ?_, ?_⟩
  · rintro q h' ⟨v, r', R, E⟩
    exact ⟨E.at 1 rfl, fun k o e => E.le _ _ (hr k o e)⟩
  · rintro q h15 i i12 i13 hg ⟨v, r', R, E⟩
    have hq : q < l.length := by have := (List.getElem?_eq_some_iff.1 hg).1; rw [bwOf_len] at this; exact this
    rw [bwOf_get l q hq] at hg
    simp only [Option.some.injEq, Prod.mk.injEq] at hg
    obtain ⟨_, hx⟩ := hg
    intro k19 a19 b19 h20 e20
    have E2 := E.made a19 b19 e20
    refine ⟨_, stores_whole (E2.at 3 rfl) rfl (by simp) (by simp [isOne]) (by simp), ?_⟩
    have E3 := E2.put (o' := .vec TY.acts_Open (plains [.int .i64 i12, .int .i64 i13]) 2) 3 rfl
    obtain ⟨a22, n23, c24, rfl⟩ := R.slice
    refine .inl ⟨a22, n23, c24, E3.cell 0 rfl rfl, _, E3.cell 3 rfl rfl, _, E3.cell 3 rfl rfl, fun k28 a28 b28 h29 e29 => ?_⟩
    have hlx := flatMap_length OpenC_len ((l.reverse.take q).map negD)
    have hlq : ((l.reverse.take q).map negD).length = q := by rw [List.length_map, List.length_take, List.length_reverse]; omega
    refine E3.push1 2 rfl R TK.slc_opens TK.zero_open rfl (by omega) (by omega) TK.sl_opens rfl (by simp [isOne]) (by rw [hlx, hlq]; simp; omega) a28 b28 e29 fun a' m' c' r'' h30 R' E4 => ?_
    obtain ⟨es, E5⟩ := E4.store 0 0 (.slice a' m' c') rfl rfl
    refine ⟨a', m', c', rfl, _, es, Fin.of ⟨_, r'', ?_, E5.take 3⟩⟩
    have hxe : (l.reverse.take (q + 1)).map negD = (l.reverse.take q).map negD ++ [negD (i12, i13)] := by
      rw [List.take_succ_eq_append_getElem (by rw [List.length_reverse]; omega), List.map_append, List.getElem_reverse]
      have : l[l.length - 1 - q] = (i12, i13) := by rw [hx]
      simp only [this]
      rfl
    rw [hxe, List.flatMap_append]
    exact R'
  · rintro h15 ⟨v, r', R, E⟩
    obtain ⟨a', m', c', rfl⟩ := R.slice
    refine .inl ⟨a', m', c', E.cell 0 rfl rfl, Fin.of (hQ _ _ _ r' _ ?_ (E.pick 2 rfl))⟩
    rw [bwOf_len, ← List.length_reverse, List.take_length] at R
    exact R
theorem minX (m : Nat) (i : Int) : (if (m : Int) < (if (0 : Int) > i then (0 : Int) else i) then (m : Int) else (if (0 : Int) > i then (0 : Int) else i)) = ((min m i.toNat : Nat) : Int) := by
  split <;> split <;> omega
theorem first_open_wp {i : Int} {Q : Option Addr → Nat → Nat → Heap → Prop} (hmc : m ≤ c) (hQ : Q a (min m i.toNat) (min m i.toNat) h) : C_acts_first_acts_Open B a m c i h Q := by
  refine C_acts_first_acts_Open.of ?_
  unfold S_acts_first_acts_Open
  rw [minX, Int.toNat_natCast]
  refine ⟨by omega, Int.le_refl _, by omega, Fin.of ?_⟩
  have e : (if min m i.toNat = 0 then a else Option.map (fun x => Addr.add x (0 * 2)) a) = a := by
    split
    · rfl
    · cases a <;> rfl
  exact e.symm ▸ hQ
theorem first_out_wp {i : Int} {Q : Option Addr → Nat → Nat → Heap → Prop} (hmc : m ≤ c) (hQ : Q a (min m i.toNat) (min m i.toNat) h) : C_acts_first_acts_Out B a m c i h Q := by
  refine C_acts_first_acts_Out.of ?_
  unfold S_acts_first_acts_Out
  rw [minX, Int.toNat_natCast]
  refine ⟨by omega, Int.le_refl _, by omega, Fin.of ?_⟩
  have e : (if min m i.toNat = 0 then a else Option.map (fun x => Addr.add x (0 * 2)) a) = a := by
    split
    · rfl
    · cases a <;> rfl
  exact e.symm ▸ hQ
theorem first_int_wp {i : Int} {Q : Option Addr → Nat → Nat → Heap → Prop} (hmc : m ≤ c) (hQ : Q a (min m i.toNat) (min m i.toNat) h) : C_acts_first_int B a m c i h Q := by
  refine C_acts_first_int.of ?_
  unfold S_acts_first_int
  rw [minX, Int.toNat_natCast]
  refine ⟨by omega, Int.le_refl _, by omega, Fin.of ?_⟩
  have e : (if min m i.toNat = 0 then a else Option.map (fun x => Addr.add x (0 * 1)) a) = a := by
    split
    · rfl
    · cases a <;> rfl
  exact e.symm ▸ hQ
theorem marks_wp {i : Nat} {a0 a1 a2 a3 : Option Addr} {m0 m1 m2 m3 c0 c1 c2 c3 : Nat} {Q : Int → Int → Int → Int → Heap → Prop} (E : Keep B h0 L h) (hi : L[i]? = some (some (k, actO (.slice a0 m0 c0) (.slice a1 m1 c1) (.slice a2 m2 c2) (.slice a3 m3 c3))))
    (hQ : ∀ h', Keep B h0 L h' → Q m0 m1 m2 m3 h') : C_acts_Acts_Mark B (some ⟨k, 0, none⟩) h Q := by
  refine C_acts_Acts_Mark.of ?_
  unfold S_acts_Acts_Mark
  intro k6 a6 b6 h7 e7
  have E1 := E.made a6 b6 e7
  have E1' : Keep B h0 L h7 := E1.pop
  refine ⟨fun e => (by cases e), fun _ => ⟨_, rfl, a0, m0, c0, E1'.cell i hi rfl, _, rfl, a1, m1, c1, ?_, _, rfl, a2, m2, c2, ?_, _, rfl, a3, m3, c3, ?_, ?_⟩⟩
  · rw [addr_more]; exact E1'.cell i hi rfl
  · rw [addr_more]; exact E1'.cell i hi rfl
  · rw [addr_more]; exact E1'.cell i hi rfl
  refine ⟨_, stores_whole E1.last rfl (by simp) (by simp [isOne]) (by simp), ?_⟩
  have E2 := E1.putLast (.vec TY.acts_Mark (plains [.int .i64 (m0 : Nat), .int .i64 (m1 : Nat), .int .i64 (m2 : Nat), .int .i64 (m3 : Nat)]) 4)
  refine ⟨_, _, _, _, ⟨cellH_vec (Heap.set_same _ _ _) rfl, cellH_vec (Heap.set_same _ _ _) rfl, cellH_vec (Heap.set_same _ _ _) rfl, cellH_vec (Heap.set_same _ _ _) rfl, trivial⟩, Fin.of (hQ _ E2.pop)⟩
def cutV (a : Option Addr) (m : Nat) (i : Int) : Value := .slice a (min m i.toNat) (min m i.toNat)
theorem back_wp {i q : Nat} {a0 a1 a2 a3 : Option Addr} {m0 m1 m2 m3 c0 c1 c2 c3 : Nat} {i0 i1 i2 i3 : Int} {Q : Option Addr → Nat → Nat → Heap → Prop} (E : Keep B h0 L h) (hi : L[i]? = some (some (k, actO (.slice a0 m0 c0) (.slice a1 m1 c1) (.slice a2 m2 c2) (.slice a3 m3 c3)))) (hq : L[q]? = some r) (hne : q ≠ i)
    (d0 : m0 ≤ c0) (d1 : m1 ≤ c1) (d2 : m2 ≤ c2) (R : Row r (.slice a3 m3 c3) TY.acts_Open 2 (l.flatMap OpenC)) (hlen : l.length ≤ 100000)
    (hQ : ∀ a' m' c' r' h', Row r' (.slice a' m' c') TY.acts_Open 2 ((undoL (l.drop (min m3 i3.toNat))).flatMap OpenC) → Keep B h0 ((L ++ [r']).set i (some (k, actO (cutV a0 m0 i0) (cutV a1 m1 i1) (cutV a2 m2 i2) (cutV a3 m3 i3)))) h' → Q a' m' c' h') : C_acts_Acts_Back B (some ⟨k, 0, none⟩) i0 i1 i2 i3 h Q := by
  refine C_acts_Acts_Back.of ?_
  unfold S_acts_Acts_Back
  intro k9 a9 b9 h10 e10
  have E1 := E.made a9 b9 e10
  have il : i < L.length := (List.getElem?_eq_some_iff.1 hi).1
  have ql : q < L.length := (List.getElem?_eq_some_iff.1 hq).1
  have up : ∀ {j : Nat} {x : Option (Nat × AObj)} (y : List (Option (Nat × AObj))), L[j]? = some x → (L ++ y)[j]? = some x := fun y hj => by rw [List.getElem?_append_left (List.getElem?_eq_some_iff.1 hj).1]; exact hj
  have d3 := R.cap
  have hk9 : ∀ {L' : List (Option (Nat × AObj))}, L'.length = L.length → (L' ++ [some (k9, AObj.vec TY.acts_Mark (plains [.int .i64 i0, .int .i64 i1, .int .i64 i2, .int .i64 i3]) 4)])[L.length]? = some (some (k9, .vec TY.acts_Mark (plains [.int .i64 i0, .int .i64 i1, .int .i64 i2, .int .i64 i3]) 4)) := fun hl => by rw [← hl]; simp
  refine ⟨fun e => (by cases e), fun _ => ⟨_, rfl, a0, m0, c0, E1.cell i (up _ hi) rfl, by decide, by decide, _, E1.cell L.length (hk9 rfl) rfl, first_out_wp d0 ⟨E1.cell i (up _ hi) rfl, E1.cell L.length (hk9 rfl) rfl, _, rfl, ?_⟩⟩⟩
  obtain ⟨e2, E2⟩ := E1.store i 0 (cutV a0 m0 i0) (up _ hi) rfl
  rw [List.set_append_left _ _ il] at E2
  have g2 : (L.set i (some (k, actO (cutV a0 m0 i0) (.slice a1 m1 c1) (.slice a2 m2 c2) (.slice a3 m3 c3))))[i]? = some (some (k, actO (cutV a0 m0 i0) (.slice a1 m1 c1) (.slice a2 m2 c2) (.slice a3 m3 c3))) := by rw [List.getElem?_set_self il]
  have up2 : ∀ {j : Nat} {x : Option (Nat × AObj)} {L' : List (Option (Nat × AObj))} (y : List (Option (Nat × AObj))), L'[j]? = some x → (L' ++ y)[j]? = some x := fun y hj => by rw [List.getElem?_append_left (List.getElem?_eq_some_iff.1 hj).1]; exact hj
  refine ⟨_, e2, _, rfl, a1, m1, c1, (by rw [addr_more]; exact E2.cell i (up2 _ g2) rfl), by decide, by decide, _, E2.cell L.length (hk9 (by simp)) rfl, first_out_wp d1 ⟨(by rw [addr_more]; exact E2.cell i (up2 _ g2) rfl), E2.cell L.length (hk9 (by simp)) rfl, _, rfl, ?_⟩⟩
  obtain ⟨e3, E3⟩ := E2.store i 1 (cutV a1 m1 i1) (up2 _ g2) rfl
  rw [List.set_append_left _ _ (by simpa using il), List.set_set] at E3
  have g3 : (L.set i (some (k, actO (cutV a0 m0 i0) (cutV a1 m1 i1) (.slice a2 m2 c2) (.slice a3 m3 c3))))[i]? = some (some (k, actO (cutV a0 m0 i0) (cutV a1 m1 i1) (.slice a2 m2 c2) (.slice a3 m3 c3))) := by rw [List.getElem?_set_self il]
  refine ⟨_, (by rw [addr_more]; exact e3), _, rfl, a2, m2, c2, (by rw [addr_more]; exact E3.cell i (up2 _ g3) rfl), by decide, by decide, _, E3.cell L.length (hk9 (by simp)) rfl, first_int_wp d2 ⟨(by rw [addr_more]; exact E3.cell i (up2 _ g3) rfl), E3.cell L.length (hk9 (by simp)) rfl, _, rfl, ?_⟩⟩
  obtain ⟨e4, E4⟩ := E3.store i 2 (cutV a2 m2 i2) (up2 _ g3) rfl
  rw [List.set_append_left _ _ (by simpa using il), List.set_set] at E4
  have g4 : (L.set i (some (k, actO (cutV a0 m0 i0) (cutV a1 m1 i1) (cutV a2 m2 i2) (.slice a3 m3 c3))))[i]? = some (some (k, actO (cutV a0 m0 i0) (cutV a1 m1 i1) (cutV a2 m2 i2) (.slice a3 m3 c3))) := by rw [List.getElem?_set_self il]
  refine ⟨_, (by rw [addr_more]; exact e4), _, rfl, a3, m3, c3, (by rw [addr_more]; exact E4.cell i (up2 _ g4) rfl), by decide, by decide, _, E4.cell L.length (hk9 (by simp)) rfl, first_open_wp d3 ⟨(by rw [addr_more]; exact E4.cell i (up2 _ g4) rfl), E4.cell L.length (hk9 (by simp)) rfl, _, rfl, ?_⟩⟩
  rw [addr_more]
  refine .inl ⟨a3, m3, c3, E4.cell i (up2 _ g4) rfl, by omega, by omega, by omega, ?_⟩
  obtain ⟨hm, -⟩ := R.rd (B := B) OpenC_len (by omega)
  have E5 := E4.popL
  have hq5 : (L.set i (some (k, actO (cutV a0 m0 i0) (cutV a1 m1 i1) (cutV a2 m2 i2) (.slice a3 m3 c3))))[q]? = some r := by rw [List.getElem?_set_ne (Ne.symm hne)]; exact hq
  have hrd := R.rd_drop (B := B) OpenC_len (by omega) (min m3 i3.toNat)
  have hlen' : Int.toNat ((m3 : Nat) : Int) - Int.toNat ((min m3 i3.toNat : Nat) : Int) = (l.drop (min m3 i3.toNat)).length := by rw [List.length_drop, Int.toNat_natCast, Int.toNat_natCast]; omega
  rw [hlen']
  refine undo_wp (by rw [List.length_drop]; omega) hrd (fun k o e => E5.at q (hq5.trans (congrArg some e))) fun a' m' c' r' h' R' E' => ?_
  have E6 := E5.append E'
  obtain ⟨e7, E7⟩ := E6.store i 3 (cutV a3 m3 i3) (up2 _ g4) rfl
  rw [List.set_append_left _ _ (by simpa using il), List.set_set] at E7
  refine ⟨_, rfl, _, (by rw [addr_more]; exact e7), Fin.of (hQ _ _ _ _ _ R' ?_)⟩
  rw [List.set_append_left _ _ il]
  exact E7
end
end Go.Proofs.YtgldgabefiialaaGreat.H
namespace Go.Proofs.YtgldgabefiialaaGreat.H
open Go
set_option linter.unusedVariables false
set_option maxRecDepth 100000
theorem list_set_same {α : Type} {L : List α} {j : Nat} {x : α} (h : L[j]? = some x) : L.set j x = L := by
  obtain ⟨hl, rfl⟩ := List.getElem?_eq_some_iff.1 h
  exact List.set_getElem_self hl
structure ActS where
  outs : List (Int × Int)
  later : List (Int × Int)
  notes : List Int
  opens : List (Int × Int)
structure ActV where
  v0 : Value
  v1 : Value
  v2 : Value
  v3 : Value
  r0 : Option (Nat × AObj)
  r1 : Option (Nat × AObj)
  r2 : Option (Nat × AObj)
  r3 : Option (Nat × AObj)
def ActV.o (x : ActV) : AObj := actO x.v0 x.v1 x.v2 x.v3
def ActV.e (x : ActV) (k : Nat) : List (Option (Nat × AObj)) := [some (k, x.o), x.r0, x.r1, x.r2, x.r3]
def ActV.z : ActV := ⟨.slice none 0 0, .slice none 0 0, .slice none 0 0, .slice none 0 0, none, none, none, none⟩
def ActS.z : ActS := ⟨[], [], [], []⟩
structure ARows (s : ActS) (x : ActV) : Prop where
  w0 : Row x.r0 x.v0 TY.acts_Out 2 (s.outs.flatMap OutC)
  w1 : Row x.r1 x.v1 TY.acts_Out 2 (s.later.flatMap OutC)
  w2 : Row x.r2 x.v2 TY.int 1 (s.notes.flatMap NoteC)
  w3 : Row x.r3 x.v3 TY.acts_Open 2 (s.opens.flatMap OpenC)
  l0 : s.outs.length ≤ 10000
  l1 : s.later.length ≤ 10000
  l2 : s.notes.length ≤ 10000
  l3 : s.opens.length ≤ 10000
theorem ARows.z : ARows ActS.z ActV.z := ⟨Row.nil _ _, Row.nil _ _, Row.nil _ _, Row.nil _ _, by simp [ActS.z], by simp [ActS.z], by simp [ActS.z], by simp [ActS.z]⟩
structure ActAt (L : List (Option (Nat × AObj))) (i k : Nat) (x : ActV) : Prop where
  p : L[i]? = some (some (k, x.o))
  q0 : L[i + 1]? = some x.r0
  q1 : L[i + 2]? = some x.r1
  q2 : L[i + 3]? = some x.r2
  q3 : L[i + 4]? = some x.r3
def setA (L : List (Option (Nat × AObj))) (i k : Nat) (x : ActV) : List (Option (Nat × AObj)) := ((((L.set i (some (k, x.o))).set (i + 1) x.r0).set (i + 2) x.r1).set (i + 3) x.r2).set (i + 4) x.r3
section
variable {B : RO} {h0 h h' : Heap} {L : List (Option (Nat × AObj))} {i k : Nat} {x : ActV} {s : ActS}
end
end Go.Proofs.YtgldgabefiialaaGreat.H
namespace Go.Proofs.YtgldgabefiialaaGreat.H
open Go Go.RowKit
set_option linter.unusedVariables false
set_option maxRecDepth 100000
def cutA (s : ActS) (i0 i1 i2 i3 : Int) : ActS := ⟨s.outs.take (min s.outs.length i0.toNat), s.later.take (min s.later.length i1.toNat), s.notes.take (min s.notes.length i2.toNat), s.opens.take (min s.opens.length i3.toNat)⟩
section
variable {B : RO} {h0 h h' : Heap} {L : List (Option (Nat × AObj))} {i k : Nat} {x : ActV} {s : ActS}
theorem ARows.sl (W : ARows s x) : ∃ a0 c0 a1 c1 a2 c2 a3 c3, x.v0 = .slice a0 s.outs.length c0 ∧ x.v1 = .slice a1 s.later.length c1 ∧ x.v2 = .slice a2 s.notes.length c2 ∧ x.v3 = .slice a3 s.opens.length c3 ∧ s.outs.length ≤ c0 ∧ s.later.length ≤ c1 ∧ s.notes.length ≤ c2 ∧ s.opens.length ≤ c3 := by
  obtain ⟨a0, m0, c0, e0⟩ := W.w0.slice
  obtain ⟨a1, m1, c1, e1⟩ := W.w1.slice
  obtain ⟨a2, m2, c2, e2⟩ := W.w2.slice
  obtain ⟨a3, m3, c3, e3⟩ := W.w3.slice
  have R0 := W.w0; rw [e0] at R0
  have R1 := W.w1; rw [e1] at R1
  have R2 := W.w2; rw [e2] at R2
  have R3 := W.w3; rw [e3] at R3
  obtain ⟨rfl, -⟩ := R0.rd (B := fun _ => none) OutC_len (by omega)
  obtain ⟨rfl, -⟩ := R1.rd (B := fun _ => none) OutC_len (by omega)
  obtain ⟨rfl, -⟩ := R2.rd (B := fun _ => none) NoteC_len (by omega)
  obtain ⟨rfl, -⟩ := R3.rd (B := fun _ => none) OpenC_len (by omega)
  exact ⟨a0, c0, a1, c1, a2, c2, a3, c3, e0, e1, e2, e3, R0.cap, R1.cap, R2.cap, R3.cap⟩
theorem marksA_wp {Q : Int → Int → Int → Int → Heap → Prop} (E : Keep B h0 L h) (A : ActAt L i k x) (W : ARows s x) (hQ : ∀ h', Keep B h0 L h' → Q s.outs.length s.later.length s.notes.length s.opens.length h') : C_acts_Acts_Mark B (some ⟨k, 0, none⟩) h Q := by
  obtain ⟨a0, c0, a1, c1, a2, c2, a3, c3, e0, e1, e2, e3, -⟩ := W.sl
  have hp := A.p
  unfold ActV.o at hp
  rw [e0, e1, e2, e3] at hp
  exact marks_wp E hp hQ
theorem backA_wp {i0 i1 i2 i3 : Int} {Q : Option Addr → Nat → Nat → Heap → Prop} (E : Keep B h0 L h) (A : ActAt L i k x) (W : ARows s x)
    (hQ : ∀ a' m' c' r' x' h', Row r' (.slice a' m' c') TY.acts_Open 2 ((undoL (s.opens.drop (min s.opens.length i3.toNat))).flatMap OpenC) → ARows (cutA s i0 i1 i2 i3) x' → Keep B h0 (setA L i k x' ++ [r']) h' → Q a' m' c' h') : C_acts_Acts_Back B (some ⟨k, 0, none⟩) i0 i1 i2 i3 h Q := by
  obtain ⟨a0, c0, a1, c1, a2, c2, a3, c3, e0, e1, e2, e3, d0, d1, d2, d3⟩ := W.sl
  have hp := A.p
  unfold ActV.o at hp
  rw [e0, e1, e2, e3] at hp
  have R0 := W.w0; rw [e0] at R0
  have R1 := W.w1; rw [e1] at R1
  have R2 := W.w2; rw [e2] at R2
  have R3 := W.w3; rw [e3] at R3
  refine back_wp E hp A.q3 (by omega) d0 d1 d2 R3 (by have := W.l3; omega) fun a' m' c' r' h' R' E' => ?_
  have il : i < L.length := (List.getElem?_eq_some_iff.1 A.p).1
  let x' : ActV := { x with v0 := cutV a0 s.outs.length i0, v1 := cutV a1 s.later.length i1, v2 := cutV a2 s.notes.length i2, v3 := cutV a3 s.opens.length i3 }
  have hset : setA L i k x' = L.set i (some (k, x'.o)) := by
    unfold setA
    have g : ∀ {j : Nat} {y : Option (Nat × AObj)}, L[j]? = some y → j ≠ i → (L.set i (some (k, x'.o)))[j]? = some y := fun hj hn => by rw [List.getElem?_set_ne (Ne.symm hn)]; exact hj
    rw [list_set_same (g A.q0 (by omega)), list_set_same (g A.q1 (by omega)), list_set_same (g A.q2 (by omega)), list_set_same (g A.q3 (by omega))]
  refine hQ _ _ _ r' x' h' R' ?_ ?_
  · have t0 := R0.first (n := min s.outs.length i0.toNat) (by omega)
    have t1 := R1.first (n := min s.later.length i1.toNat) (by omega)
    have t2 := R2.first (n := min s.notes.length i2.toNat) (by omega)
    have t3 := R3.first (n := min s.opens.length i3.toNat) (by omega)
    rw [take_flatMap OutC_len] at t0 t1
    rw [take_flatMap NoteC_len] at t2
    rw [take_flatMap OpenC_len] at t3
    have l0 := W.l0
    have l1 := W.l1
    have l2 := W.l2
    have l3 := W.l3
    exact ⟨t0, t1, t2, t3, by simp [cutA]; omega, by simp [cutA]; omega, by simp [cutA]; omega, by simp [cutA]; omega⟩
  · rw [hset, ← List.set_append_left _ _ il]
    exact E'
def ALe (s : ActS) (j : Nat) : Prop := s.outs.length ≤ j ∧ s.later.length ≤ j ∧ s.notes.length ≤ j ∧ s.opens.length ≤ j
theorem ALe.mono {j j' : Nat} (h : ALe s j) (hj : j ≤ j') : ALe s j' := ⟨Nat.le_trans h.1 hj, Nat.le_trans h.2.1 hj, Nat.le_trans h.2.2.1 hj, Nat.le_trans h.2.2.2 hj⟩
def AExt (s t : ActS) (n : Nat) : Prop := ∃ e0 e1 e2 e3, t = ⟨s.outs ++ e0, s.later ++ e1, s.notes ++ e2, s.opens ++ e3⟩ ∧ e3.length = n
theorem AExt.refl (s : ActS) : AExt s s 0 := ⟨[], [], [], [], by simp, rfl⟩
theorem AExt.cut {t : ActS} {n : Nat} (h : AExt s t n) : cutA t s.outs.length s.later.length s.notes.length s.opens.length = s ∧ (t.opens.drop (min t.opens.length (Int.toNat (s.opens.length : Nat)))).length = n := by
  obtain ⟨e0, e1, e2, e3, rfl, rfl⟩ := h
  have mn : ∀ {α : Type} (a b : List α), (a ++ b).take (min (a ++ b).length (Int.toNat (a.length : Nat))) = a := fun a b => by
    rw [Int.toNat_natCast, List.length_append, Nat.min_eq_right (by omega), List.take_left]
  refine ⟨?_, ?_⟩
  · unfold cutA
    simp only [mn]
  · simp only [Int.toNat_natCast, List.length_append, List.length_drop]
    omega
structure ActR where
  kind : Int
  a : Int
  b : Int
def ActR.cells (x : ActR) : List Value := [.int .i64 x.kind, .int .i64 x.a, .int .i64 x.b]
end
end Go.Proofs.YtgldgabefiialaaGreat.H
