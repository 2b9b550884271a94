/- The functions do what they ask for. No condition. -/
import Derived.Test.YtcncdfmnpmmikaaXhS
namespace Go.Proofs.Ytcncdfmnpmmikaa.H
open Go
set_option linter.unusedVariables false
set_option maxRecDepth 100000

set_option maxHeartbeats 4000000 in
theorem C_stylus_Stylus_Text.of {B : RO} {p1 : Option Addr} {a2 : Option Addr} {n3 : Nat} {c4 : Nat} {h : Heap} {Q : Heap → Prop} (hS : S_stylus_Stylus_Text B p1 a2 n3 c4 h Q) : C_stylus_Stylus_Text B p1 a2 n3 c4 h Q := by
 unfold S_stylus_Stylus_Text at hS
 unfold C_stylus_Stylus_Text
 refine Spec.of_run Try.func94 (N := 21) (rs := []) rfl rfl rfl (Nat.le_of_ble_eq_true rfl) ?_
 refine Run.seq ?_
 refine Run.ops0 (idx := [0, 1, 2]) rfl ?_
 refine Run.go rfl rfl rfl (sem_move ((Value.slice a2 n3 c4)) rfl ?_)
 refine Run.go rfl rfl rfl (sem_lenSl a2 n3 c4 rfl TF.sl_45 ?_)
 refine Run.go rfl rfl rfl (sem_move ((Value.int .i64 (0))) rfl ?_)
 refine Run.region_end ?_
 refine Run.block ?_
 obtain ⟨J10, m8, h0, hS⟩ := hS
 refine Run.of_fin (h0.imp fun h' h0 => ?_)
 refine Run.loop (σ := Int × Nat) (fun x e h => J10 x.1 x.2 h ∧ Agree [(0, (Value.pointer p1)), (6, (Value.slice a2 n3 c4)), (7, (Value.int .i64 ((n3 : Nat)))), (8, (Value.int .i64 (x.1)))] e) (fun x => x.2) ((0), m8) ⟨h0, ⟨rfl, rfl, rfl, rfl, trivial⟩⟩ ?_; clear h0
 rintro ⟨i5, m7⟩ e h6 ⟨hJ, hag⟩ ih9
 have hS := hS i5 m7 h6 hJ; clear hJ
 refine Run.env hag ?_; clear hag
 refine Run.seq ?_
 refine Run.ops0 (idx := [0]) rfl ?_
 obtain ⟨hT, hF⟩ := hS
 by_cases hb11 : (i5 : Int) < ((n3 : Nat))
 ·have hS := hT hb11; clear hT hF
  refine Run.go rfl rfl rfl (sem_binI .i64 (i5) ((n3 : Nat)) (.bool true) rfl rfl (binI_lss_t hb11) ?_)
  refine Run.region_end ?_
  refine Run.seq ?_
  refine Run.condT rfl ?_
  refine Run.skip ?_
  refine Run.seq ?_
  refine Run.block ?_
  refine Run.seq ?_
  refine Run.ops0 (idx := [0, 1, 2]) rfl ?_
  obtain ⟨A12, e13, hi0, hi1, hS⟩ := hS
  refine Run.go rfl rfl rfl (sem_indexAddrS A12 n3 c4 .i64 (i5) (congrArg (fun a => Value.slice a n3 c4) e13) rfl TF.slc_45 hi0 hi1 ?_)
  obtain ⟨s14, hl, hS⟩ := hS
  refine Run.go rfl rfl rfl (sem_load1 (Addr.add A12 (Int.toNat (i5) * 1)) ((Value.string s14)) rfl TF.agg_9 hl ?_)
  refine Run.go rfl rfl rfl (sem_assign ((Value.string s14)) rfl ?_)
  refine Run.region_end ?_
  refine Run.seq ?_
  refine Run.ops0 (idx := [0, 1, 2, 3, 4]) rfl ?_
  refine Run.go rfl rfl rfl (sem_move ((Value.pointer p1)) rfl ?_)
  refine Run.go rfl rfl rfl (sem_move ((Value.string s14)) rfl ?_)
  refine Run.go rfl rfl rfl (sem_lenStr s14 rfl TF.isStr_9 ?_)
  refine Run.go rfl rfl rfl (sem_buildSliceL [(0, (Value.int .i64 ((ByteArray.size s14 : Nat))))] [(Value.int .i64 ((ByteArray.size s14 : Nat)))] TF.slc_184 TF.zero_3 rfl (by decide) (by decide) rfl rfl (fun k15 hb1 hb2 h16 hb3 => ?_))
  have hS := hS k15 hb1 hb2 h16 hb3
  refine Run.go rfl rfl rfl (sem_callL [(Value.pointer p1), (Value.slice (some ⟨k15, 0, none⟩) 1 1)] (TF.goes_72) rfl rfl (Spec.mono hS fun v h17 hv => ?_))
  obtain ⟨rfl, hS⟩ := hv
  refine Run.region_end ?_
  refine Run.ops0 (idx := [0, 1, 2]) rfl ?_
  refine Run.go rfl rfl rfl (sem_move ((Value.pointer p1)) rfl ?_)
  refine Run.go rfl rfl rfl (sem_move ((Value.string s14)) rfl ?_)
  refine Run.go rfl rfl rfl (sem_callL [(Value.pointer p1), (Value.string s14)] (TF.goes_73) rfl rfl (Spec.mono hS fun v h18 hv => ?_))
  obtain ⟨rfl, hS⟩ := hv
  refine Run.region_end ?_
  refine Run.inBlock ?_
  refine Run.ops0 (idx := [0, 1]) rfl ?_
  refine Run.go rfl rfl rfl (sem_binI .i64 (i5) (1) ((Value.int .i64 (IntKind.wrap .i64 ((i5) + (1))))) rfl rfl rfl ?_)
  refine Run.go rfl rfl rfl (sem_move ((Value.int .i64 (IntKind.wrap .i64 ((i5) + (1))))) rfl ?_)
  refine Run.region_end ?_
  exact Run.of_fin (hS.imp fun h' ⟨m', hm, hS⟩ => ih9 ((IntKind.wrap .i64 ((i5) + (1))), m') _ _ ⟨hS, ⟨rfl, rfl, rfl, rfl, trivial⟩⟩ hm)
 ·have hS := hF hb11; clear hT hF
  refine Run.go rfl rfl rfl (sem_binI .i64 (i5) ((n3 : Nat)) (.bool false) rfl rfl (binI_lss_f hb11) ?_)
  refine Run.region_end ?_
  refine Run.seq ?_
  refine Run.condF rfl ?_
  refine Run.exit rfl ?_
  refine Run.fall ⟨.inl rfl, ?_⟩
  exact hS.imp fun h' hq => ⟨rfl, hq⟩
set_option maxHeartbeats 4000000 in
theorem C_draft_Draft_file_File_All_1.of {B : RO} {v1 : Value} {A2 : Addr} {h : Heap} {Q : Heap → Prop} (hS : S_draft_Draft_file_File_All_1 B v1 A2 h Q) : C_draft_Draft_file_File_All_1 B v1 A2 h Q := by
 unfold S_draft_Draft_file_File_All_1 at hS
 unfold C_draft_Draft_file_File_All_1
 refine Spec.of_run Try.func95 (N := 24) (rs := []) rfl rfl rfl (Nat.le_of_ble_eq_true rfl) ?_
 refine Run.seq ?_
 refine Run.seq ?_
 refine Run.ops0 (idx := [0, 1]) rfl ?_
 obtain ⟨p3, hl, hS⟩ := hS
 refine Run.go rfl rfl rfl (sem_load1 A2 ((Value.pointer p3)) rfl TF.agg_95 hl ?_)
 obtain ⟨hT, hF⟩ := hS
 by_cases hb4 : p3 = none
 ·have hS := hT hb4; clear hT hF
  refine Run.go rfl rfl rfl (sem_ptrNilT p3 (.inl rfl) true rfl rfl TF.ptr_95 hb4 rfl ?_)
  refine Run.region_end ?_
  refine Run.condT rfl ?_
  refine Run.ret ⟨.inr rfl, ?_⟩
  exact hS.imp fun h' hq => ⟨rfl, hq⟩
 ·have hS := hF hb4; clear hT hF
  refine Run.go rfl rfl rfl (sem_ptrNilF p3 (.inl rfl) false rfl rfl TF.ptr_95 hb4 rfl ?_)
  refine Run.region_end ?_
  refine Run.condF rfl ?_
  refine Run.skip ?_
  refine Run.seq ?_
  refine Run.ops0 (idx := [0, 1, 2, 3, 4, 5]) rfl ?_
  obtain ⟨p5, hl, hS⟩ := hS
  refine Run.go rfl rfl rfl (sem_load1 A2 ((Value.pointer p5)) rfl TF.agg_95 hl ?_)
  obtain ⟨A6, e7, hS⟩ := hS
  refine Run.go rfl rfl rfl (sem_nilCheck A6 (congrArg Value.pointer e7) ?_)
  refine Run.go rfl rfl rfl (sem_fieldAddr A6 0 rfl TF.fld_160_0 ?_)
  refine Run.ldSl hS fun a8 n9 c10 h11 hl hS => ?_
  refine Run.go rfl rfl rfl (sem_load1 A6 ((Value.slice a8 n9 c10)) rfl TF.agg_158 hl ?_)
  refine Run.go rfl rfl rfl (sem_lenSl a8 n9 c10 rfl TF.sl_158 ?_)
  refine Run.go rfl rfl rfl (sem_move ((Value.int .i64 (0))) rfl ?_)
  refine Run.region_end ?_
  refine Run.block ?_
  obtain ⟨J17, m15, h0, hS⟩ := hS
  refine Run.of_fin (h0.imp fun h' h0 => ?_)
  refine Run.loop (σ := Int × Nat) (fun x e h => J17 x.1 x.2 h ∧ Agree [(0, v1), (10, (Value.slice a8 n9 c10)), (11, (Value.int .i64 ((n9 : Nat)))), (12, (Value.int .i64 (x.1)))] e) (fun x => x.2) ((0), m15) ⟨h0, ⟨rfl, rfl, rfl, rfl, trivial⟩⟩ ?_; clear h0
  rintro ⟨i12, m14⟩ e h13 ⟨hJ, hag⟩ ih16
  have hS := hS i12 m14 h13 hJ; clear hJ
  refine Run.env hag ?_; clear hag
  refine Run.seq ?_
  refine Run.ops0 (idx := [0]) rfl ?_
  obtain ⟨hT, hF⟩ := hS
  by_cases hb18 : (i12 : Int) < ((n9 : Nat))
  ·have hS := hT hb18; clear hT hF
   refine Run.go rfl rfl rfl (sem_binI .i64 (i12) ((n9 : Nat)) (.bool true) rfl rfl (binI_lss_t hb18) ?_)
   refine Run.region_end ?_
   refine Run.seq ?_
   refine Run.condT rfl ?_
   refine Run.skip ?_
   refine Run.seq ?_
   refine Run.block ?_
   refine Run.seq ?_
   refine Run.ops0 (idx := [0, 1, 2, 3]) rfl ?_
   obtain ⟨A19, e20, hi0, hi1, hS⟩ := hS
   refine Run.go rfl rfl rfl (sem_indexAddrS A19 n9 c10 .i64 (i12) (congrArg (fun a => Value.slice a n9 c10) e20) rfl TF.slc_158 hi0 hi1 ?_)
   obtain ⟨i21, b22, s23, hl, hS⟩ := hS
   refine Run.go rfl rfl rfl (sem_loadN (Addr.add A19 (Int.toNat (i12) * 3)) [(Value.int .i64 (i21)), (Value.bool b22), (Value.string s23)] rfl TF.agg_162 TF.sz_162 hl ?_)
   refine Run.go rfl rfl rfl (sem_allocN [(Value.int .i64 (0)), (Value.bool false), (Value.string ByteArray.empty)] TF.zero_162 (fun k24 hb1 hb2 h25 hb3 => ?_))
   have hS := hS k24 hb1 hb2 h25 hb3
   obtain ⟨h26, hst, hS⟩ := hS
   refine Run.go rfl rfl rfl (sem_storeN ⟨k24, 0, none⟩ [(Value.int .i64 (i21)), (Value.bool b22), (Value.string s23)] h26 rfl rfl TF.sz_162 hst ?_)
   refine Run.region_end ?_
   refine Run.seq ?_
   refine Run.ops0 (idx := [0, 1, 2, 3, 4, 5, 6]) rfl ?_
   refine Run.go rfl rfl rfl (sem_move (v1) rfl ?_)
   refine Run.go rfl rfl rfl (sem_fieldAddr ⟨k24, 0, none⟩ 0 rfl TF.fld_162_0 ?_)
   obtain ⟨i27, hl, hS⟩ := hS
   refine Run.go rfl rfl rfl (sem_load1 ⟨k24, 0, none⟩ ((Value.int .i64 (i27))) rfl TF.agg_3 hl ?_)
   refine Run.go rfl rfl rfl (sem_fieldAddr ⟨k24, 0, none⟩ 1 rfl TF.fld_162_1 ?_)
   obtain ⟨b28, s29, hl, hS⟩ := hS
   refine Run.go rfl rfl rfl (sem_loadN ⟨k24, 1, none⟩ [(Value.bool b28), (Value.string s29)] rfl TF.agg_41 TF.sz_41 hl ?_)
   refine Run.go rfl rfl rfl (sem_callV (v1) [(Value.int .i64 (i27)), (Value.agg #[(Value.bool b28), (Value.string s29)])] rfl rfl hS (fun nx h' ha => ha.mono fun v h30 hv => ?_))
   obtain ⟨b31, rfl, hS⟩ := hv
   obtain ⟨hT, hF⟩ := hS
   cases b31
   ·have hS := hF rfl; clear hT hF
    refine Run.go rfl rfl rfl (sem_not false rfl ?_)
    refine Run.region_end ?_
    refine Run.condT rfl ?_
    refine Run.ret ⟨.inr rfl, ?_⟩
    exact hS.imp fun h' hq => ⟨rfl, hq⟩
   ·have hS := hT rfl; clear hT hF
    refine Run.go rfl rfl rfl (sem_not true rfl ?_)
    refine Run.region_end ?_
    refine Run.condF rfl ?_
    refine Run.skip ?_
    refine Run.inBlock ?_
    refine Run.ops0 (idx := [0, 1]) rfl ?_
    refine Run.go rfl rfl rfl (sem_binI .i64 (i12) (1) ((Value.int .i64 (IntKind.wrap .i64 ((i12) + (1))))) rfl rfl rfl ?_)
    refine Run.go rfl rfl rfl (sem_move ((Value.int .i64 (IntKind.wrap .i64 ((i12) + (1))))) rfl ?_)
    refine Run.region_end ?_
    exact Run.of_fin (hS.imp fun h' ⟨m', hm, hS⟩ => ih16 ((IntKind.wrap .i64 ((i12) + (1))), m') _ _ ⟨hS, ⟨rfl, rfl, rfl, rfl, trivial⟩⟩ hm)
  ·have hS := hF hb18; clear hT hF
   refine Run.go rfl rfl rfl (sem_binI .i64 (i12) ((n9 : Nat)) (.bool false) rfl rfl (binI_lss_f hb18) ?_)
   refine Run.region_end ?_
   refine Run.seq ?_
   refine Run.condF rfl ?_
   refine Run.exit rfl ?_
   refine Run.fall ⟨.inl rfl, ?_⟩
   exact hS.imp fun h' hq => ⟨rfl, hq⟩
set_option maxHeartbeats 4000000 in
theorem C_file_Put.of {B : RO} {b1 : Bool} {s2 : ByteArray} {i3 : Int} {i4 : Int} {h : Heap} {Q : Bool → ByteArray → Heap → Prop} (hS : S_file_Put B b1 s2 i3 i4 h Q) : C_file_Put B b1 s2 i3 i4 h Q := by
 unfold S_file_Put at hS
 unfold C_file_Put
 refine Spec.of_run Try.func96 (N := 32) (rs := [ResultVar.cell 6 41]) rfl rfl rfl (Nat.le_of_ble_eq_true rfl) ?_
 refine Run.seq ?_
 refine Run.ops0 (idx := [0, 1]) rfl ?_
 refine Run.go rfl rfl rfl (sem_boxNN [(Value.bool b1), (Value.string s2)] rfl (fun k7 hb1 hb2 h8 hb3 => ?_))
 have hS := hS k7 hb1 hb2 h8 hb3
 refine Run.go rfl rfl rfl (sem_allocN [(Value.bool false), (Value.string ByteArray.empty)] TF.zero_41 (fun k9 hb1 hb2 h10 hb3 => ?_))
 have hS := hS k9 hb1 hb2 h10 hb3
 refine Run.region_end ?_
 refine Run.seqJ (fun e h12 => Agree [(1, (Value.int .i64 (i3))), (2, (Value.int .u8 (i4))), (3, (Value.pointer (some ⟨k7, 0, none⟩))), (6, (Value.pointer (some ⟨k9, 0, none⟩)))] e ∧ S_file_Put_J1 B i3 i4 k7 k9 h12 Q) ?_ fun j11 => ?_
 ·rintro e h12 ⟨hag, hS⟩
  refine Run.env hag ?_; clear hag
  refine Run.seq ?_
  refine Run.ops0 (idx := [0, 1, 2, 3]) rfl ?_
  refine Run.go rfl rfl rfl (sem_fieldAddr ⟨k7, 0, none⟩ 1 rfl TF.fld_41_1 ?_)
  obtain ⟨s13, hl, hS⟩ := hS
  refine Run.go rfl rfl rfl (sem_load1 ⟨k7, 1, none⟩ ((Value.string s13)) rfl TF.agg_9 hl ?_)
  refine Run.go rfl rfl rfl (sem_convW ((Value.string s13)) rfl (semH_mono (fun v h17 hv => ?_) hS))
  obtain ⟨a14, n15, c16, rfl, hS⟩ := hv
  refine Run.go rfl rfl rfl (sem_assign ((Value.slice a14 n15 c16)) rfl ?_)
  refine Run.region_end ?_
  refine Run.seqJ (fun e h22 => ∃ a19 : Option Addr, ∃ n20 : Nat, ∃ c21 : Nat, Agree [(1, (Value.int .i64 (i3))), (2, (Value.int .u8 (i4))), (6, (Value.pointer (some ⟨k9, 0, none⟩))), (7, (Value.slice a19 n20 c21))] e ∧ S_file_Put_J2 B i3 i4 k9 a19 n20 c21 h22 Q) ?_ fun j18 => ?_
  ·rintro e h22 ⟨a19, n20, c21, hag, hS⟩
   refine Run.env hag ?_; clear hag
   refine Run.seq ?_
   refine Run.ops0 (idx := [0, 1, 2, 3, 4]) rfl ?_
   refine Run.go rfl rfl rfl (sem_move ((Value.slice a19 n20 c21)) rfl ?_)
   refine Run.go rfl rfl rfl (sem_move ((Value.int .i64 (i3))) rfl ?_)
   refine Run.go rfl rfl rfl (sem_move ((Value.int .u8 (i4))) rfl ?_)
   obtain ⟨A23, e24, hi0, hi1, hS⟩ := hS
   refine Run.go rfl rfl rfl (sem_indexAddrS A23 n20 c21 .i64 (i3) (congrArg (fun a => Value.slice a n20 c21) e24) rfl TF.slc_144 hi0 hi1 ?_)
   obtain ⟨h25, hst, hS⟩ := hS
   refine Run.go rfl rfl rfl (sem_store1 (Addr.add A23 (Int.toNat (i3) * 1)) ((Value.int .u8 (i4))) h25 rfl rfl rfl TF.sz_5 hst ?_)
   refine Run.region_end ?_
   refine Run.seq ?_
   refine Run.ops0 (idx := [0, 1, 2, 3]) rfl ?_
   refine Run.go rfl rfl rfl (sem_move ((Value.slice a19 n20 c21)) rfl ?_)
   refine Run.go rfl rfl rfl (sem_convW ((Value.slice a19 n20 c21)) rfl (semH_mono (fun v h27 hv => ?_) hS))
   obtain ⟨s26, rfl, hS⟩ := hv
   refine Run.go rfl rfl rfl (sem_buildSL [(0, (Value.bool true)), (1, (Value.string s26))] [(Value.bool true), (Value.string s26)] TF.zero_41 TF.places_41 rfl rfl ?_)
   obtain ⟨h28, hst, hS⟩ := hS
   refine Run.go rfl rfl rfl (sem_storeN ⟨k9, 0, none⟩ [(Value.bool true), (Value.string s26)] h28 rfl rfl TF.sz_41 hst ?_)
   refine Run.region_end ?_
   obtain ⟨b29, s30, hl0, hS⟩ := hS
   refine Run.ret ⟨.inr rfl, ?_⟩
   exact ⟨⟨k9, 0, none⟩, (Value.agg #[(Value.bool b29), (Value.string s30)]), rfl, loadHN TF.agg_41 TF.sz_41 hl0, hS.imp fun h' hq => ⟨(b29), s30, rfl, hq⟩⟩
  refine Run.block ?_
  obtain ⟨J38, m36, h0, hS⟩ := hS
  refine Run.of_fin (h0.imp fun h' h0 => ?_)
  refine Run.loop (σ := (Option Addr) × Nat × Nat × Nat) (fun x e h => J38 x.1 x.2.1 x.2.2.1 x.2.2.2 h ∧ Agree [(1, (Value.int .i64 (i3))), (2, (Value.int .u8 (i4))), (6, (Value.pointer (some ⟨k9, 0, none⟩))), (7, (Value.slice x.1 x.2.1 x.2.2.1))] e) (fun x => x.2.2.2) (a14, n15, c16, m36) ⟨h0, ⟨rfl, rfl, rfl, rfl, trivial⟩⟩ ?_; clear h0
  rintro ⟨a31, n32, c33, m35⟩ e h34 ⟨hJ, hag⟩ ih37
  have hS := hS a31 n32 c33 m35 h34 hJ; clear hJ
  refine Run.env hag ?_; clear hag
  refine Run.seq ?_
  refine Run.seq ?_
  refine Run.ops0 (idx := [0, 1, 2, 3]) rfl ?_
  refine Run.go rfl rfl rfl (sem_move ((Value.slice a31 n32 c33)) rfl ?_)
  refine Run.go rfl rfl rfl (sem_lenSl a31 n32 c33 rfl TF.sl_144 ?_)
  refine Run.go rfl rfl rfl (sem_move ((Value.int .i64 (i3))) rfl ?_)
  obtain ⟨hT, hF⟩ := hS
  by_cases hb39 : ((n32 : Nat) : Int) ≤ (i3)
  ·have hS := hT hb39; clear hT hF
   refine Run.go rfl rfl rfl (sem_binI .i64 ((n32 : Nat)) (i3) (.bool true) rfl rfl (binI_leq_t hb39) ?_)
   refine Run.region_end ?_
   refine Run.condT rfl ?_
   refine Run.skip ?_
   refine Run.block ?_
   refine Run.ops0 (idx := [0, 1, 2, 3]) rfl ?_
   refine Run.go rfl rfl rfl (sem_move ((Value.slice a31 n32 c33)) rfl ?_)
   refine Run.go rfl rfl rfl (sem_buildSliceL [(0, (Value.int .u8 (0)))] [(Value.int .u8 (0))] TF.slc_144 TF.zero_5 rfl (by decide) (by decide) rfl rfl (fun k40 hb1 hb2 h41 hb3 => ?_))
   have hS := hS k40 hb1 hb2 h41 hb3
   refine Run.go rfl rfl rfl (sem_appendL [(Value.slice a31 n32 c33), (Value.slice (some ⟨k40, 0, none⟩) 1 1)] rfl (semH_mono (fun v h42 hv => ?_) hS))
   obtain ⟨a43, n44, c45, rfl, hS⟩ := hv
   refine Run.go rfl rfl rfl (sem_assign ((Value.slice a43 n44 c45)) rfl ?_)
   refine Run.region_end ?_
   refine Run.inBlock ?_
   exact Run.of_fin (hS.imp fun h' ⟨m', hm, hS⟩ => ih37 (a43, n44, c45, m') _ _ ⟨hS, ⟨rfl, rfl, rfl, rfl, trivial⟩⟩ hm)
  ·have hS := hF hb39; clear hT hF
   refine Run.go rfl rfl rfl (sem_binI .i64 ((n32 : Nat)) (i3) (.bool false) rfl rfl (binI_leq_f hb39) ?_)
   refine Run.region_end ?_
   refine Run.condF rfl ?_
   refine Run.exit rfl ?_
   exact Run.of_fin (hS.imp fun h' hS => j18 _ _ ⟨a31, n32, c33, ⟨rfl, rfl, rfl, rfl, trivial⟩, hS⟩)
 refine Run.seq ?_
 refine Run.ops0 (idx := [0, 1, 2, 3, 4, 5]) rfl ?_
 refine Run.go rfl rfl rfl (sem_move ((Value.int .i64 (i3))) rfl ?_)
 obtain ⟨hT, hF⟩ := hS
 by_cases hb46 : (i3 : Int) < (0)
 ·have hS := hT hb46; clear hT hF
  refine Run.go rfl rfl rfl (sem_binI .i64 (i3) (0) (.bool true) rfl rfl (binI_lss_t hb46) ?_)
  refine Run.go rfl rfl rfl (sem_move ((Value.bool true)) rfl ?_)
  refine Run.no rfl rfl rfl ?_
  refine Run.no rfl rfl rfl ?_
  refine Run.go rfl rfl rfl (sem_pick true ((Value.bool true)) rfl rfl ?_)
  refine Run.region_end ?_
  refine Run.condT rfl ?_
  refine Run.seq ?_
  refine Run.ops0 (idx := [0, 1]) rfl ?_
  obtain ⟨b47, s48, hl, hS⟩ := hS
  refine Run.go rfl rfl rfl (sem_loadN ⟨k7, 0, none⟩ [(Value.bool b47), (Value.string s48)] rfl TF.agg_41 TF.sz_41 hl ?_)
  obtain ⟨h49, hst, hS⟩ := hS
  refine Run.go rfl rfl rfl (sem_storeN ⟨k9, 0, none⟩ [(Value.bool b47), (Value.string s48)] h49 rfl rfl TF.sz_41 hst ?_)
  refine Run.region_end ?_
  obtain ⟨b50, s51, hl0, hS⟩ := hS
  refine Run.ret ⟨.inr rfl, ?_⟩
  exact ⟨⟨k9, 0, none⟩, (Value.agg #[(Value.bool b50), (Value.string s51)]), rfl, loadHN TF.agg_41 TF.sz_41 hl0, hS.imp fun h' hq => ⟨(b50), s51, rfl, hq⟩⟩
 ·have hS := hF hb46; clear hT hF
  refine Run.go rfl rfl rfl (sem_binI .i64 (i3) (0) (.bool false) rfl rfl (binI_lss_f hb46) ?_)
  refine Run.go rfl rfl rfl (sem_move ((Value.bool false)) rfl ?_)
  refine Run.go rfl rfl rfl (sem_move ((Value.int .i64 (i3))) rfl ?_)
  obtain ⟨hT, hF⟩ := hS
  by_cases hb52 : (i3 : Int) ≥ (32)
  ·have hS := hT hb52; clear hT hF
   refine Run.go rfl rfl rfl (sem_binI .i64 (i3) (32) (.bool true) rfl rfl (binI_geq_t hb52) ?_)
   refine Run.go rfl rfl rfl (sem_pick false ((Value.bool true)) rfl rfl ?_)
   refine Run.region_end ?_
   refine Run.condT rfl ?_
   refine Run.seq ?_
   refine Run.ops0 (idx := [0, 1]) rfl ?_
   obtain ⟨b53, s54, hl, hS⟩ := hS
   refine Run.go rfl rfl rfl (sem_loadN ⟨k7, 0, none⟩ [(Value.bool b53), (Value.string s54)] rfl TF.agg_41 TF.sz_41 hl ?_)
   obtain ⟨h55, hst, hS⟩ := hS
   refine Run.go rfl rfl rfl (sem_storeN ⟨k9, 0, none⟩ [(Value.bool b53), (Value.string s54)] h55 rfl rfl TF.sz_41 hst ?_)
   refine Run.region_end ?_
   obtain ⟨b56, s57, hl0, hS⟩ := hS
   refine Run.ret ⟨.inr rfl, ?_⟩
   exact ⟨⟨k9, 0, none⟩, (Value.agg #[(Value.bool b56), (Value.string s57)]), rfl, loadHN TF.agg_41 TF.sz_41 hl0, hS.imp fun h' hq => ⟨(b56), s57, rfl, hq⟩⟩
  ·have hS := hF hb52; clear hT hF
   refine Run.go rfl rfl rfl (sem_binI .i64 (i3) (32) (.bool false) rfl rfl (binI_geq_f hb52) ?_)
   refine Run.go rfl rfl rfl (sem_pick false ((Value.bool false)) rfl rfl ?_)
   refine Run.region_end ?_
   refine Run.condF rfl ?_
   refine Run.skip ?_
   exact Run.of_fin (hS.imp fun h' hS => j11 _ _ ⟨⟨rfl, rfl, rfl, rfl, trivial⟩, hS⟩)
set_option maxHeartbeats 4000000 in
theorem C_file_Cut.of {B : RO} {b1 : Bool} {s2 : ByteArray} {i3 : Int} {h : Heap} {Q : Bool → ByteArray → Heap → Prop} (hS : S_file_Cut B b1 s2 i3 h Q) : C_file_Cut B b1 s2 i3 h Q := by
 unfold S_file_Cut at hS
 unfold C_file_Cut
 refine Spec.of_run Try.func97 (N := 37) (rs := [ResultVar.cell 4 41]) rfl rfl rfl (Nat.le_of_ble_eq_true rfl) ?_
 refine Run.seq ?_
 refine Run.ops0 (idx := [0, 1]) rfl ?_
 refine Run.go rfl rfl rfl (sem_boxNN [(Value.bool b1), (Value.string s2)] rfl (fun k6 hb1 hb2 h7 hb3 => ?_))
 have hS := hS k6 hb1 hb2 h7 hb3
 refine Run.go rfl rfl rfl (sem_allocN [(Value.bool false), (Value.string ByteArray.empty)] TF.zero_41 (fun k8 hb1 hb2 h9 hb3 => ?_))
 have hS := hS k8 hb1 hb2 h9 hb3
 refine Run.region_end ?_
 refine Run.seqJ (fun e h11 => Agree [(1, (Value.int .i64 (i3))), (2, (Value.pointer (some ⟨k6, 0, none⟩))), (4, (Value.pointer (some ⟨k8, 0, none⟩)))] e ∧ S_file_Cut_J1 B i3 k6 k8 h11 Q) ?_ fun j10 => ?_
 ·rintro e h11 ⟨hag, hS⟩
  refine Run.env hag ?_; clear hag
  refine Run.seq ?_
  refine Run.seq ?_
  refine Run.ops0 (idx := [0, 1, 2, 3, 4]) rfl ?_
  refine Run.go rfl rfl rfl (sem_move ((Value.int .i64 (i3))) rfl ?_)
  refine Run.go rfl rfl rfl (sem_fieldAddr ⟨k6, 0, none⟩ 1 rfl TF.fld_41_1 ?_)
  obtain ⟨s12, hl, hS⟩ := hS
  refine Run.go rfl rfl rfl (sem_load1 ⟨k6, 1, none⟩ ((Value.string s12)) rfl TF.agg_9 hl ?_)
  refine Run.go rfl rfl rfl (sem_lenStr s12 rfl TF.isStr_9 ?_)
  obtain ⟨hT, hF⟩ := hS
  by_cases hb13 : (i3 : Int) ≤ ((ByteArray.size s12 : Nat))
  ·have hS := hT hb13; clear hT hF
   refine Run.go rfl rfl rfl (sem_binI .i64 (i3) ((ByteArray.size s12 : Nat)) (.bool true) rfl rfl (binI_leq_t hb13) ?_)
   refine Run.region_end ?_
   refine Run.condT rfl ?_
   refine Run.seq ?_
   refine Run.ops0 (idx := [0, 1, 2, 3, 4, 5]) rfl ?_
   refine Run.go rfl rfl rfl (sem_fieldAddr ⟨k6, 0, none⟩ 1 rfl TF.fld_41_1 ?_)
   obtain ⟨s14, hl, hS⟩ := hS
   refine Run.go rfl rfl rfl (sem_load1 ⟨k6, 1, none⟩ ((Value.string s14)) rfl TF.agg_9 hl ?_)
   refine Run.go rfl rfl rfl (sem_move ((Value.int .i64 (i3))) rfl ?_)
   obtain ⟨hi0, hi1, hi2, hS⟩ := hS
   refine Run.go rfl rfl rfl (sem_sliceStrI s14 (0) (i3) rfl TF.isStr_9 rfl ⟨_, rfl⟩ hi0 hi1 hi2 ?_)
   refine Run.go rfl rfl rfl (sem_buildSL [(0, (Value.bool true)), (1, (Value.string (ByteArray.extract s14 (Int.toNat (0)) (Int.toNat (i3)))))] [(Value.bool true), (Value.string (ByteArray.extract s14 (Int.toNat (0)) (Int.toNat (i3))))] TF.zero_41 TF.places_41 rfl rfl ?_)
   obtain ⟨h15, hst, hS⟩ := hS
   refine Run.go rfl rfl rfl (sem_storeN ⟨k8, 0, none⟩ [(Value.bool true), (Value.string (ByteArray.extract s14 (Int.toNat (0)) (Int.toNat (i3))))] h15 rfl rfl TF.sz_41 hst ?_)
   refine Run.region_end ?_
   obtain ⟨b16, s17, hl0, hS⟩ := hS
   refine Run.ret ⟨.inr rfl, ?_⟩
   exact ⟨⟨k8, 0, none⟩, (Value.agg #[(Value.bool b16), (Value.string s17)]), rfl, loadHN TF.agg_41 TF.sz_41 hl0, hS.imp fun h' hq => ⟨(b16), s17, rfl, hq⟩⟩
  ·have hS := hF hb13; clear hT hF
   refine Run.go rfl rfl rfl (sem_binI .i64 (i3) ((ByteArray.size s12 : Nat)) (.bool false) rfl rfl (binI_leq_f hb13) ?_)
   refine Run.region_end ?_
   refine Run.condF rfl ?_
   refine Run.skip ?_
   refine Run.seq ?_
   skip
   obtain ⟨s19, hl, hS⟩ := hS
   have f20 := hl
   skip
   skip
   obtain ⟨s23, hl, hS⟩ := hS
   have f24 := hl
   skip
   skip
   refine Run.drawM (fun h' => cellH B h' ⟨k6, 1, none⟩ = some (Value.string s19) ∧ cellH B h' ⟨k6, 1, none⟩ = some (Value.string s23) ∧ True) [10] ⟨[0, 1, 0, 0, 8, 16, 36, 64, 130, 256, 1023], [2047, 2046, 2047, 2047, 2039, 2031, 2011, 1983, 1917, 1791, 1535], [0, 1, 0, 0, 8, 24, 60, 124, 255, 511, 1023], 1024⟩ (.q 0 (.q 1 (.q 2 (.q 3 (.q 4 (.q 5 (.q 6 (.x 7 (.q 8 (.q 9 (.x 10 .nil .no))) .no)))))))) TF.mixed (by kernel_rfl) ⟨f20, f24, trivial⟩ ?_
   refine RunT.quiet rfl rfl rfl (fun h' hC => sem_fieldAddr ⟨k6, 0, none⟩ 1 rfl TF.fld_41_1 ⟨rfl, rfl⟩) ?_
   refine RunT.quiet rfl rfl rfl (fun h' hC => sem_load1 ⟨k6, 1, none⟩ ((Value.string s19)) rfl TF.agg_9 hC.1 ⟨rfl, rfl⟩) ?_
   refine RunT.quiet rfl rfl rfl (fun h' hC => sem_move ((Value.int .i64 (i3))) rfl ⟨rfl, rfl⟩) ?_
   refine RunT.quiet rfl rfl rfl (fun h' hC => sem_fieldAddr ⟨k6, 0, none⟩ 1 rfl TF.fld_41_1 ⟨rfl, rfl⟩) ?_
   refine RunT.quiet rfl rfl rfl (fun h' hC => sem_load1 ⟨k6, 1, none⟩ ((Value.string s23)) rfl TF.agg_9 hC.2.1 ⟨rfl, rfl⟩) ?_
   refine RunT.quiet rfl rfl rfl (fun h' hC => sem_lenStr s23 rfl TF.isStr_9 ⟨rfl, rfl⟩) ?_
   refine RunT.quiet rfl rfl rfl (fun h' hC => sem_binI .i64 (i3) ((ByteArray.size s23 : Nat)) ((Value.int .i64 (IntKind.wrap .i64 ((i3) - ((ByteArray.size s23 : Nat)))))) rfl rfl rfl ⟨rfl, rfl⟩) ?_
   refine ⟨?_, trivial⟩
   refine OpH.go rfl rfl rfl (sem_callL [(Value.string (ByteArray.mk #[0])), (Value.int .i64 (IntKind.wrap .i64 ((i3) - ((ByteArray.size s23 : Nat)))))] (TF.goes_123) rfl rfl (Spec.mono hS fun v h27 hv => ?_))
   obtain ⟨s28, rfl, hS⟩ := hv
   obtain ⟨g29, g30, hS⟩ := hS
   refine ⟨fun _ => ⟨g29, g30, trivial⟩, ?_⟩
   obtain ⟨hi0, hS⟩ := hS
   refine RunT.quiet rfl rfl rfl (fun h' hC => sem_strAdd s19 s28 rfl rfl hi0 ⟨rfl, rfl⟩) ?_
   refine RunT.quiet rfl rfl rfl (fun h' hC => sem_buildSL [(0, (Value.bool true)), (1, (Value.string (s19 ++ s28)))] [(Value.bool true), (Value.string (s19 ++ s28))] TF.zero_41 TF.places_41 rfl rfl ⟨rfl, rfl⟩) ?_
   refine ⟨?_, trivial⟩
   obtain ⟨h31, hst, hS⟩ := hS
   refine OpH.go rfl rfl rfl (sem_storeN ⟨k8, 0, none⟩ [(Value.bool true), (Value.string (s19 ++ s28))] h31 rfl rfl TF.sz_41 hst ?_)
   refine ⟨fun hz => Bool.noConfusion hz, ?_⟩
   obtain ⟨b32, s33, hl0, hS⟩ := hS
   refine Run.ret ⟨.inr rfl, ?_⟩
   exact ⟨⟨k8, 0, none⟩, (Value.agg #[(Value.bool b32), (Value.string s33)]), rfl, loadHN TF.agg_41 TF.sz_41 hl0, hS.imp fun h' hq => ⟨(b32), s33, rfl, hq⟩⟩
 refine Run.seq ?_
 refine Run.ops0 (idx := [0, 1, 2, 3, 4, 5, 6, 7, 8, 9, 10]) rfl ?_
 refine Run.go rfl rfl rfl (sem_fieldAddr ⟨k6, 0, none⟩ 0 rfl TF.fld_41_0 ?_)
 obtain ⟨b34, hl, hS⟩ := hS
 obtain ⟨hT, hF⟩ := hS
 cases b34
 ·have hS := hF rfl; clear hT hF
  refine Run.go rfl rfl rfl (sem_load1 ⟨k6, 0, none⟩ (.bool false) rfl TF.agg_4 hl ?_)
  refine Run.go rfl rfl rfl (sem_not false rfl ?_)
  refine Run.go rfl rfl rfl (sem_move ((Value.bool true)) rfl ?_)
  refine Run.no rfl rfl rfl ?_
  refine Run.no rfl rfl rfl ?_
  refine Run.go rfl rfl rfl (sem_pick true ((Value.bool true)) rfl rfl ?_)
  refine Run.go rfl rfl rfl (sem_move ((Value.bool true)) rfl ?_)
  refine Run.no rfl rfl rfl ?_
  refine Run.no rfl rfl rfl ?_
  refine Run.go rfl rfl rfl (sem_pick true ((Value.bool true)) rfl rfl ?_)
  refine Run.region_end ?_
  refine Run.condT rfl ?_
  refine Run.seq ?_
  refine Run.ops0 (idx := [0, 1]) rfl ?_
  obtain ⟨b35, s36, hl, hS⟩ := hS
  refine Run.go rfl rfl rfl (sem_loadN ⟨k6, 0, none⟩ [(Value.bool b35), (Value.string s36)] rfl TF.agg_41 TF.sz_41 hl ?_)
  obtain ⟨h37, hst, hS⟩ := hS
  refine Run.go rfl rfl rfl (sem_storeN ⟨k8, 0, none⟩ [(Value.bool b35), (Value.string s36)] h37 rfl rfl TF.sz_41 hst ?_)
  refine Run.region_end ?_
  obtain ⟨b38, s39, hl0, hS⟩ := hS
  refine Run.ret ⟨.inr rfl, ?_⟩
  exact ⟨⟨k8, 0, none⟩, (Value.agg #[(Value.bool b38), (Value.string s39)]), rfl, loadHN TF.agg_41 TF.sz_41 hl0, hS.imp fun h' hq => ⟨(b38), s39, rfl, hq⟩⟩
 ·have hS := hT rfl; clear hT hF
  refine Run.go rfl rfl rfl (sem_load1 ⟨k6, 0, none⟩ (.bool true) rfl TF.agg_4 hl ?_)
  refine Run.go rfl rfl rfl (sem_not true rfl ?_)
  refine Run.go rfl rfl rfl (sem_move ((Value.bool false)) rfl ?_)
  refine Run.go rfl rfl rfl (sem_move ((Value.int .i64 (i3))) rfl ?_)
  obtain ⟨hT, hF⟩ := hS
  by_cases hb40 : (i3 : Int) < (0)
  ·have hS := hT hb40; clear hT hF
   refine Run.go rfl rfl rfl (sem_binI .i64 (i3) (0) (.bool true) rfl rfl (binI_lss_t hb40) ?_)
   refine Run.go rfl rfl rfl (sem_pick false ((Value.bool true)) rfl rfl ?_)
   refine Run.go rfl rfl rfl (sem_move ((Value.bool true)) rfl ?_)
   refine Run.no rfl rfl rfl ?_
   refine Run.no rfl rfl rfl ?_
   refine Run.go rfl rfl rfl (sem_pick true ((Value.bool true)) rfl rfl ?_)
   refine Run.region_end ?_
   refine Run.condT rfl ?_
   refine Run.seq ?_
   refine Run.ops0 (idx := [0, 1]) rfl ?_
   obtain ⟨b41, s42, hl, hS⟩ := hS
   refine Run.go rfl rfl rfl (sem_loadN ⟨k6, 0, none⟩ [(Value.bool b41), (Value.string s42)] rfl TF.agg_41 TF.sz_41 hl ?_)
   obtain ⟨h43, hst, hS⟩ := hS
   refine Run.go rfl rfl rfl (sem_storeN ⟨k8, 0, none⟩ [(Value.bool b41), (Value.string s42)] h43 rfl rfl TF.sz_41 hst ?_)
   refine Run.region_end ?_
   obtain ⟨b44, s45, hl0, hS⟩ := hS
   refine Run.ret ⟨.inr rfl, ?_⟩
   exact ⟨⟨k8, 0, none⟩, (Value.agg #[(Value.bool b44), (Value.string s45)]), rfl, loadHN TF.agg_41 TF.sz_41 hl0, hS.imp fun h' hq => ⟨(b44), s45, rfl, hq⟩⟩
  ·have hS := hF hb40; clear hT hF
   refine Run.go rfl rfl rfl (sem_binI .i64 (i3) (0) (.bool false) rfl rfl (binI_lss_f hb40) ?_)
   refine Run.go rfl rfl rfl (sem_pick false ((Value.bool false)) rfl rfl ?_)
   refine Run.go rfl rfl rfl (sem_move ((Value.bool false)) rfl ?_)
   refine Run.go rfl rfl rfl (sem_move ((Value.int .i64 (i3))) rfl ?_)
   obtain ⟨hT, hF⟩ := hS
   by_cases hb46 : (i3 : Int) > (32)
   ·have hS := hT hb46; clear hT hF
    refine Run.go rfl rfl rfl (sem_binI .i64 (i3) (32) (.bool true) rfl rfl (binI_gtr_t hb46) ?_)
    refine Run.go rfl rfl rfl (sem_pick false ((Value.bool true)) rfl rfl ?_)
    refine Run.region_end ?_
    refine Run.condT rfl ?_
    refine Run.seq ?_
    refine Run.ops0 (idx := [0, 1]) rfl ?_
    obtain ⟨b47, s48, hl, hS⟩ := hS
    refine Run.go rfl rfl rfl (sem_loadN ⟨k6, 0, none⟩ [(Value.bool b47), (Value.string s48)] rfl TF.agg_41 TF.sz_41 hl ?_)
    obtain ⟨h49, hst, hS⟩ := hS
    refine Run.go rfl rfl rfl (sem_storeN ⟨k8, 0, none⟩ [(Value.bool b47), (Value.string s48)] h49 rfl rfl TF.sz_41 hst ?_)
    refine Run.region_end ?_
    obtain ⟨b50, s51, hl0, hS⟩ := hS
    refine Run.ret ⟨.inr rfl, ?_⟩
    exact ⟨⟨k8, 0, none⟩, (Value.agg #[(Value.bool b50), (Value.string s51)]), rfl, loadHN TF.agg_41 TF.sz_41 hl0, hS.imp fun h' hq => ⟨(b50), s51, rfl, hq⟩⟩
   ·have hS := hF hb46; clear hT hF
    refine Run.go rfl rfl rfl (sem_binI .i64 (i3) (32) (.bool false) rfl rfl (binI_gtr_f hb46) ?_)
    refine Run.go rfl rfl rfl (sem_pick false ((Value.bool false)) rfl rfl ?_)
    refine Run.region_end ?_
    refine Run.condF rfl ?_
    refine Run.skip ?_
    exact Run.of_fin (hS.imp fun h' hS => j10 _ _ ⟨⟨rfl, rfl, rfl, trivial⟩, hS⟩)
set_option maxHeartbeats 4000000 in
theorem C_draft_Draft_file_File_Put.of {B : RO} {p1 : Option Addr} {i2 : Int} {b3 : Bool} {s4 : ByteArray} {h : Heap} {Q : Bool → Heap → Prop} (hS : S_draft_Draft_file_File_Put B p1 i2 b3 s4 h Q) : C_draft_Draft_file_File_Put B p1 i2 b3 s4 h Q := by
 unfold S_draft_Draft_file_File_Put at hS
 unfold C_draft_Draft_file_File_Put
 refine Spec.of_run Try.func104 (N := 39) (rs := [ResultVar.tmp 6]) rfl rfl rfl (Nat.le_of_ble_eq_true rfl) ?_
 refine Run.seq ?_
 refine Run.ops0 (idx := [0, 1]) rfl ?_
 refine Run.go rfl rfl rfl (sem_boxNN [(Value.bool b3), (Value.string s4)] rfl (fun k6 hb1 hb2 h7 hb3 => ?_))
 have hS := hS k6 hb1 hb2 h7 hb3
 refine Run.go rfl rfl rfl (sem_assign ((Value.bool false)) rfl ?_)
 refine Run.region_end ?_
 refine Run.seq ?_
 refine Run.seq ?_
 refine Run.ops0 (idx := [0, 1]) rfl ?_
 refine Run.go rfl rfl rfl (sem_move ((Value.pointer p1)) rfl ?_)
 obtain ⟨hT, hF⟩ := hS
 by_cases hb8 : p1 = none
 ·have hS := hT hb8; clear hT hF
  refine Run.go rfl rfl rfl (sem_ptrNilT p1 (.inl rfl) true rfl rfl TF.ptr_95 hb8 rfl ?_)
  refine Run.region_end ?_
  refine Run.condT rfl ?_
  refine Run.seq ?_
  refine Run.ops0 (idx := [0]) rfl ?_
  refine Run.go rfl rfl rfl (sem_assign ((Value.bool false)) rfl ?_)
  refine Run.region_end ?_
  refine Run.ret ⟨.inr rfl, ?_⟩
  exact hS.imp fun h' hq => ⟨(false), rfl, hq⟩
 ·have hS := hF hb8; clear hT hF
  refine Run.go rfl rfl rfl (sem_ptrNilF p1 (.inl rfl) false rfl rfl TF.ptr_95 hb8 rfl ?_)
  refine Run.region_end ?_
  refine Run.condF rfl ?_
  refine Run.skip ?_
  refine Run.seq ?_
  refine Run.ops0 (idx := [0, 1, 2, 3, 4, 5, 6, 7]) rfl ?_
  refine Run.go rfl rfl rfl (sem_move ((Value.pointer p1)) rfl ?_)
  refine Run.go rfl rfl rfl (sem_move ((Value.int .i64 (i2))) rfl ?_)
  refine Run.go rfl rfl rfl (sem_callL [(Value.pointer p1), (Value.int .i64 (i2))] (TF.goes_105) rfl rfl (Spec.mono hS fun v h9 hv => ?_))
  obtain ⟨i10, b11, rfl, hS⟩ := hv
  refine Run.go rfl rfl rfl (sem_move ((Value.tuple #[(Value.int .i64 (i10)), (Value.bool b11)])) rfl ?_)
  refine Run.go rfl rfl rfl (sem_extract #[(Value.int .i64 (i10)), (Value.bool b11)] ((Value.int .i64 (i10))) rfl rfl ?_)
  obtain ⟨hT, hF⟩ := hS
  cases b11
  ·have hS := hF rfl; clear hT hF
   refine Run.go rfl rfl rfl (sem_extract #[(Value.int .i64 (i10)), (Value.bool false)] (.bool false) rfl rfl ?_)
   refine Run.go rfl rfl rfl (sem_assign ((Value.int .i64 (i10))) rfl ?_)
   refine Run.go rfl rfl rfl (sem_assign ((Value.bool false)) rfl ?_)
   refine Run.region_end ?_
   refine Run.seq ?_
   refine Run.seq ?_
   refine Run.ops0 (idx := [0]) rfl ?_
   refine Run.go rfl rfl rfl (sem_move ((Value.bool false)) rfl ?_)
   refine Run.region_end ?_
   refine Run.condF rfl ?_
   skip
   skip
   obtain ⟨A14, e15, hS⟩ := hS
   skip
   skip
   obtain ⟨a18, n19, c20, hl, hS⟩ := hS
   have f21 := hl
   skip
   skip
   obtain ⟨b24, s25, hl, hS⟩ := hS
   have f26 := hl
   skip
   refine Run.drawM (fun h' => cellH B h' A14 = some (Value.slice a18 n19 c20) ∧ CellsAt B h' ⟨k6, 0, none⟩ 0 [(Value.bool b24), (Value.string s25)] ∧ True) [13] ⟨[0, 0, 2, 4, 8, 0, 0, 0, 192, 256, 560, 2047, 4095, 6143], [16383, 16383, 16381, 16379, 16375, 16383, 16383, 16383, 16191, 16127, 15823, 16382, 14335, 11263], [0, 0, 2, 6, 14, 0, 0, 0, 192, 448, 1022, 2047, 4095, 8191], 8192⟩ (.q 0 (.q 1 (.q 2 (.q 3 (.q 4 (.q 5 (.q 6 (.q 7 (.q 8 (.x 9 (.x 10 (.q 11 (.q 12 (.x 13 .nil .no))) .no) .no)))))))))) TF.mixed (by kernel_rfl) ⟨f21, f26, trivial⟩ ?_
   refine RunT.quiet rfl rfl rfl (fun h' hC => sem_move ((Value.pointer p1)) rfl ⟨rfl, rfl⟩) ?_
   refine RunT.quiet rfl rfl rfl (fun h' hC => sem_move ((Value.pointer p1)) rfl ⟨rfl, rfl⟩) ?_
   refine RunT.quiet rfl rfl rfl (fun h' hC => sem_nilCheck A14 (congrArg Value.pointer e15) ⟨rfl, rfl⟩) ?_
   refine RunT.quiet rfl rfl rfl (fun h' hC => sem_fieldAddr A14 0 rfl TF.fld_160_0 ⟨rfl, rfl⟩) ?_
   refine RunT.quiet rfl rfl rfl (fun h' hC => sem_load1 A14 ((Value.slice a18 n19 c20)) rfl TF.agg_158 hC.1 ⟨rfl, rfl⟩) ?_
   refine RunT.quiet rfl rfl rfl (fun h' hC => sem_move ((Value.int .i64 (i10))) rfl ⟨rfl, rfl⟩) ?_
   refine RunT.quiet rfl rfl rfl (fun h' hC => sem_move ((Value.int .i64 (i2))) rfl ⟨rfl, rfl⟩) ?_
   refine RunT.quiet rfl rfl rfl (fun h' hC => sem_loadN ⟨k6, 0, none⟩ [(Value.bool b24), (Value.string s25)] rfl TF.agg_41 TF.sz_41 hC.2.1 ⟨rfl, rfl⟩) ?_
   refine RunT.quiet rfl rfl rfl (fun h' hC => sem_buildSL [(0, (Value.int .i64 (i2))), (1, (Value.agg #[(Value.bool b24), (Value.string s25)]))] [(Value.int .i64 (i2)), (Value.bool b24), (Value.string s25)] TF.zero_162 TF.places_162 rfl rfl ⟨rfl, rfl⟩) ?_
   refine ⟨?_, trivial⟩
   refine OpH.go rfl rfl rfl (sem_buildSliceL [(0, (Value.agg #[(Value.int .i64 (i2)), (Value.bool b24), (Value.string s25)]))] [(Value.int .i64 (i2)), (Value.bool b24), (Value.string s25)] TF.slc_158 TF.zero_162 rfl (by decide) (by decide) rfl rfl (fun k28 hb1 hb2 h29 hb3 => ?_))
   have hS := hS k28 hb1 hb2 h29 hb3
   obtain ⟨g30, g31, hS⟩ := hS
   refine ⟨fun _ => ⟨g30, g31, trivial⟩, ?_⟩
   refine ⟨?_, trivial⟩
   refine OpH.go rfl rfl rfl (sem_callL [(Value.slice a18 n19 c20), (Value.int .i64 (i10)), (Value.slice (some ⟨k28, 0, none⟩) 1 1)] (TF.goes_125) rfl rfl (Spec.mono hS fun v h32 hv => ?_))
   obtain ⟨a33, n34, c35, rfl, hS⟩ := hv
   obtain ⟨g36, g37, hS⟩ := hS
   refine ⟨fun _ => ⟨g36, g37, trivial⟩, ?_⟩
   obtain ⟨A38, e39, hS⟩ := hS
   refine RunT.quiet rfl rfl rfl (fun h' hC => sem_nilCheck A38 (congrArg Value.pointer e39) ⟨rfl, rfl⟩) ?_
   refine RunT.quiet rfl rfl rfl (fun h' hC => sem_fieldAddr A38 0 rfl TF.fld_160_0 ⟨rfl, rfl⟩) ?_
   refine ⟨?_, trivial⟩
   obtain ⟨h40, hst, hS⟩ := hS
   refine OpH.go rfl rfl rfl (sem_store1 A38 ((Value.slice a33 n34 c35)) h40 rfl rfl rfl TF.sz_158 hst ?_)
   refine ⟨fun hz => Bool.noConfusion hz, ?_⟩
   refine Run.seq ?_
   refine Run.ops0 (idx := [0]) rfl ?_
   refine Run.go rfl rfl rfl (sem_assign ((Value.bool true)) rfl ?_)
   refine Run.region_end ?_
   refine Run.ret ⟨.inr rfl, ?_⟩
   exact hS.imp fun h' hq => ⟨(true), rfl, hq⟩
  ·have hS := hT rfl; clear hT hF
   refine Run.go rfl rfl rfl (sem_extract #[(Value.int .i64 (i10)), (Value.bool true)] (.bool true) rfl rfl ?_)
   refine Run.go rfl rfl rfl (sem_assign ((Value.int .i64 (i10))) rfl ?_)
   refine Run.go rfl rfl rfl (sem_assign ((Value.bool true)) rfl ?_)
   refine Run.region_end ?_
   refine Run.seq ?_
   refine Run.seq ?_
   refine Run.ops0 (idx := [0]) rfl ?_
   refine Run.go rfl rfl rfl (sem_move ((Value.bool true)) rfl ?_)
   refine Run.region_end ?_
   refine Run.condT rfl ?_
   refine Run.drawM (fun h' => h' = h9) [8] ⟨[0, 1, 2, 4, 0, 0, 63, 127, 191], [511, 510, 509, 507, 511, 511, 487, 447, 351], [0, 1, 3, 7, 0, 0, 63, 127, 255], 256⟩ (.q 0 (.q 1 (.q 2 (.q 3 (.q 4 (.q 5 (.q 6 (.q 7 (.x 8 .nil .no))))))))) TF.mixed (by kernel_rfl) rfl ?_
   refine RunT.quiet rfl rfl rfl (quiet_eq (sem_move ((Value.pointer p1)) rfl ⟨rfl, rfl⟩)) ?_
   obtain ⟨A41, e42, hS⟩ := hS
   refine RunT.quiet rfl rfl rfl (quiet_eq (sem_nilCheck A41 (congrArg Value.pointer e42) ⟨rfl, rfl⟩)) ?_
   refine RunT.quiet rfl rfl rfl (quiet_eq (sem_fieldAddr A41 0 rfl TF.fld_160_0 ⟨rfl, rfl⟩)) ?_
   obtain ⟨a43, n44, c45, hl, hS⟩ := hS
   refine RunT.quiet rfl rfl rfl (quiet_eq (sem_load1 A41 ((Value.slice a43 n44 c45)) rfl TF.agg_158 hl ⟨rfl, rfl⟩)) ?_
   refine RunT.quiet rfl rfl rfl (quiet_eq (sem_move ((Value.int .i64 (i10))) rfl ⟨rfl, rfl⟩)) ?_
   obtain ⟨b46, s47, hl, hS⟩ := hS
   refine RunT.quiet rfl rfl rfl (quiet_eq (sem_loadN ⟨k6, 0, none⟩ [(Value.bool b46), (Value.string s47)] rfl TF.agg_41 TF.sz_41 hl ⟨rfl, rfl⟩)) ?_
   obtain ⟨A48, e49, hi0, hi1, hS⟩ := hS
   refine RunT.quiet rfl rfl rfl (quiet_eq (sem_indexAddrS A48 n44 c45 .i64 (i10) (congrArg (fun a => Value.slice a n44 c45) e49) rfl TF.slc_158 hi0 hi1 ⟨rfl, rfl⟩)) ?_
   refine RunT.quiet rfl rfl rfl (quiet_eq (sem_fieldAddr (Addr.add A48 (Int.toNat (i10) * 3)) 1 rfl TF.fld_162_1 ⟨rfl, rfl⟩)) ?_
   refine ⟨?_, trivial⟩
   obtain ⟨h50, hst, hS⟩ := hS
   refine OpH.go rfl rfl rfl (sem_storeN (Addr.add (Addr.add A48 (Int.toNat (i10) * 3)) 1) [(Value.bool b46), (Value.string s47)] h50 rfl rfl TF.sz_41 hst ?_)
   refine ⟨fun hz => Bool.noConfusion hz, ?_⟩
   refine Run.seq ?_
   refine Run.ops0 (idx := [0]) rfl ?_
   refine Run.go rfl rfl rfl (sem_assign ((Value.bool true)) rfl ?_)
   refine Run.region_end ?_
   refine Run.ret ⟨.inr rfl, ?_⟩
   exact hS.imp fun h' hq => ⟨(true), rfl, hq⟩
set_option maxHeartbeats 4000000 in
theorem C_draft_Draft_file_File_find.of {B : RO} {p1 : Option Addr} {i2 : Int} {h : Heap} {Q : Int → Bool → Heap → Prop} (hS : S_draft_Draft_file_File_find B p1 i2 h Q) : C_draft_Draft_file_File_find B p1 i2 h Q := by
 unfold S_draft_Draft_file_File_find at hS
 unfold C_draft_Draft_file_File_find
 refine Spec.of_run Try.func105 (N := 14) (rs := [ResultVar.tmp 4, ResultVar.tmp 5]) rfl rfl rfl (Nat.le_of_ble_eq_true rfl) ?_
 refine Run.seq ?_
 refine Run.ops0 (idx := [0, 1]) rfl ?_
 refine Run.go rfl rfl rfl (sem_assign ((Value.int .i64 (0))) rfl ?_)
 refine Run.go rfl rfl rfl (sem_assign ((Value.bool false)) rfl ?_)
 refine Run.region_end ?_
 refine Run.seq ?_
 refine Run.ops0 (idx := [0, 1, 2, 3, 4, 5, 6, 7, 8, 9]) rfl ?_
 refine Run.go rfl rfl rfl (sem_move ((Value.pointer p1)) rfl ?_)
 obtain ⟨A5, e6, hS⟩ := hS
 refine Run.go rfl rfl rfl (sem_nilCheck A5 (congrArg Value.pointer e6) ?_)
 refine Run.go rfl rfl rfl (sem_fieldAddr A5 0 rfl TF.fld_160_0 ?_)
 refine Run.ldSl hS fun a7 n8 c9 h10 hl hS => ?_
 refine Run.go rfl rfl rfl (sem_load1 A5 ((Value.slice a7 n8 c9)) rfl TF.agg_158 hl ?_)
 refine Run.go rfl rfl rfl (sem_move ((Value.int .i64 (i2))) rfl ?_)
 refine Run.go rfl rfl rfl (sem_callL [(Value.slice a7 n8 c9), (Value.int .i64 (i2)), (Value.func (.func 127) #[] #[])] (TF.goes_126) rfl rfl (Spec.mono hS fun v h11 hv => ?_))
 obtain ⟨i12, b13, rfl, hS⟩ := hv
 refine Run.go rfl rfl rfl (sem_extract #[(Value.int .i64 (i12)), (Value.bool b13)] ((Value.int .i64 (i12))) rfl rfl ?_)
 refine Run.go rfl rfl rfl (sem_extract #[(Value.int .i64 (i12)), (Value.bool b13)] ((Value.bool b13)) rfl rfl ?_)
 refine Run.go rfl rfl rfl (sem_assign ((Value.int .i64 (i12))) rfl ?_)
 refine Run.go rfl rfl rfl (sem_assign ((Value.bool b13)) rfl ?_)
 refine Run.region_end ?_
 refine Run.ret ⟨.inr rfl, ?_⟩
 exact hS.imp fun h' hq => ⟨(i12), (b13), rfl, hq⟩
set_option maxHeartbeats 4000000 in
theorem C_file_Good.of {B : RO} {b1 : Bool} {s2 : ByteArray} {h : Heap} {Q : Bool → Heap → Prop} (hS : S_file_Good B b1 s2 h Q) : C_file_Good B b1 s2 h Q := by
 unfold S_file_Good at hS
 unfold C_file_Good
 refine Spec.of_run Try.func114 (N := 16) (rs := [ResultVar.tmp 2]) rfl rfl rfl (Nat.le_of_ble_eq_true rfl) ?_
 refine Run.seq ?_
 refine Run.ops0 (idx := [0, 1]) rfl ?_
 refine Run.go rfl rfl rfl (sem_boxNN [(Value.bool b1), (Value.string s2)] rfl (fun k4 hb1 hb2 h5 hb3 => ?_))
 have hS := hS k4 hb1 hb2 h5 hb3
 refine Run.go rfl rfl rfl (sem_assign ((Value.bool false)) rfl ?_)
 refine Run.region_end ?_
 refine Run.seq ?_
 refine Run.ops0 (idx := [0, 1, 2, 3, 4, 5, 6, 7, 8, 9, 10, 11, 12, 13]) rfl ?_
 refine Run.go rfl rfl rfl (sem_fieldAddr ⟨k4, 0, none⟩ 1 rfl TF.fld_41_1 ?_)
 obtain ⟨s6, hl, hS⟩ := hS
 refine Run.go rfl rfl rfl (sem_load1 ⟨k4, 1, none⟩ ((Value.string s6)) rfl TF.agg_9 hl ?_)
 refine Run.go rfl rfl rfl (sem_lenStr s6 rfl TF.isStr_9 ?_)
 obtain ⟨hT, hF⟩ := hS
 by_cases hb7 : ((ByteArray.size s6 : Nat) : Int) ≤ (32)
 ·have hS := hT hb7; clear hT hF
  refine Run.go rfl rfl rfl (sem_binI .i64 ((ByteArray.size s6 : Nat)) (32) (.bool true) rfl rfl (binI_leq_t hb7) ?_)
  refine Run.go rfl rfl rfl (sem_move ((Value.bool true)) rfl ?_)
  refine Run.go rfl rfl rfl (sem_fieldAddr ⟨k4, 0, none⟩ 0 rfl TF.fld_41_0 ?_)
  obtain ⟨b8, hl, hS⟩ := hS
  obtain ⟨hT, hF⟩ := hS
  cases b8
  ·have hS := hF rfl; clear hT hF
   refine Run.go rfl rfl rfl (sem_load1 ⟨k4, 0, none⟩ (.bool false) rfl TF.agg_4 hl ?_)
   refine Run.go rfl rfl rfl (sem_move ((Value.bool false)) rfl ?_)
   refine Run.go rfl rfl rfl (sem_fieldAddr ⟨k4, 0, none⟩ 1 rfl TF.fld_41_1 ?_)
   obtain ⟨s9, hl, hS⟩ := hS
   refine Run.go rfl rfl rfl (sem_load1 ⟨k4, 1, none⟩ ((Value.string s9)) rfl TF.agg_9 hl ?_)
   refine Run.go rfl rfl rfl (sem_strEq s9 (ByteArray.mk #[]) rfl rfl ?_)
   refine Run.go rfl rfl rfl (sem_pick false ((Value.bool (decide (s9 = (ByteArray.mk #[]))))) rfl rfl ?_)
   refine Run.go rfl rfl rfl (sem_pick true ((Value.bool (decide (s9 = (ByteArray.mk #[]))))) rfl rfl ?_)
   refine Run.go rfl rfl rfl (sem_assign ((Value.bool (decide (s9 = (ByteArray.mk #[]))))) rfl ?_)
   refine Run.region_end ?_
   refine Run.ret ⟨.inr rfl, ?_⟩
   exact hS.imp fun h' hq => ⟨((decide (s9 = (ByteArray.mk #[])))), rfl, hq⟩
  ·have hS := hT rfl; clear hT hF
   refine Run.go rfl rfl rfl (sem_load1 ⟨k4, 0, none⟩ (.bool true) rfl TF.agg_4 hl ?_)
   refine Run.go rfl rfl rfl (sem_move ((Value.bool true)) rfl ?_)
   refine Run.no rfl rfl rfl ?_
   refine Run.no rfl rfl rfl ?_
   refine Run.no rfl rfl rfl ?_
   refine Run.go rfl rfl rfl (sem_pick true ((Value.bool true)) rfl rfl ?_)
   refine Run.go rfl rfl rfl (sem_pick true ((Value.bool true)) rfl rfl ?_)
   refine Run.go rfl rfl rfl (sem_assign ((Value.bool true)) rfl ?_)
   refine Run.region_end ?_
   refine Run.ret ⟨.inr rfl, ?_⟩
   exact hS.imp fun h' hq => ⟨(true), rfl, hq⟩
 ·have hS := hF hb7; clear hT hF
  refine Run.go rfl rfl rfl (sem_binI .i64 ((ByteArray.size s6 : Nat)) (32) (.bool false) rfl rfl (binI_leq_f hb7) ?_)
  refine Run.go rfl rfl rfl (sem_move ((Value.bool false)) rfl ?_)
  refine Run.no rfl rfl rfl ?_
  refine Run.no rfl rfl rfl ?_
  refine Run.no rfl rfl rfl ?_
  refine Run.no rfl rfl rfl ?_
  refine Run.no rfl rfl rfl ?_
  refine Run.no rfl rfl rfl ?_
  refine Run.no rfl rfl rfl ?_
  refine Run.go rfl rfl rfl (sem_pick false ((Value.bool false)) rfl rfl ?_)
  refine Run.go rfl rfl rfl (sem_assign ((Value.bool false)) rfl ?_)
  refine Run.region_end ?_
  refine Run.ret ⟨.inr rfl, ?_⟩
  exact hS.imp fun h' hq => ⟨(false), rfl, hq⟩
set_option maxHeartbeats 4000000 in
theorem C_cell_Row_file_File_Set.of {B : RO} {p1 : Option Addr} {i2 : Int} {b3 : Bool} {s4 : ByteArray} {i5 : Int} {h : Heap} {Q : Bool → Heap → Prop} (hS : S_cell_Row_file_File_Set B p1 i2 b3 s4 i5 h Q) : C_cell_Row_file_File_Set B p1 i2 b3 s4 i5 h Q := by
 unfold S_cell_Row_file_File_Set at hS
 unfold C_cell_Row_file_File_Set
 refine Spec.of_run Try.func115 (N := 22) (rs := [ResultVar.tmp 8]) rfl rfl rfl (Nat.le_of_ble_eq_true rfl) ?_
 refine Run.seq ?_
 refine Run.ops0 (idx := [0, 1]) rfl ?_
 refine Run.go rfl rfl rfl (sem_boxNN [(Value.bool b3), (Value.string s4)] rfl (fun k7 hb1 hb2 h8 hb3 => ?_))
 have hS := hS k7 hb1 hb2 h8 hb3
 refine Run.go rfl rfl rfl (sem_assign ((Value.bool false)) rfl ?_)
 refine Run.region_end ?_
 refine Run.seq ?_
 refine Run.seq ?_
 refine Run.ops0 (idx := [0, 1, 2, 3]) rfl ?_
 refine Run.go rfl rfl rfl (sem_move ((Value.pointer p1)) rfl ?_)
 refine Run.go rfl rfl rfl (sem_move ((Value.int .i64 (i2))) rfl ?_)
 refine Run.go rfl rfl rfl (sem_callL [(Value.pointer p1), (Value.int .i64 (i2))] (TF.goes_120) rfl rfl (Spec.mono hS fun v h9 hv => ?_))
 obtain ⟨b10, rfl, hS⟩ := hv
 obtain ⟨hT, hF⟩ := hS
 cases b10
 ·have hS := hF rfl; clear hT hF
  refine Run.go rfl rfl rfl (sem_not false rfl ?_)
  refine Run.region_end ?_
  refine Run.condT rfl ?_
  refine Run.seq ?_
  refine Run.ops0 (idx := [0]) rfl ?_
  refine Run.go rfl rfl rfl (sem_assign ((Value.bool false)) rfl ?_)
  refine Run.region_end ?_
  refine Run.ret ⟨.inr rfl, ?_⟩
  exact hS.imp fun h' hq => ⟨(false), rfl, hq⟩
 ·have hS := hT rfl; clear hT hF
  refine Run.go rfl rfl rfl (sem_not true rfl ?_)
  refine Run.region_end ?_
  refine Run.condF rfl ?_
  refine Run.skip ?_
  refine Run.seq ?_
  refine Run.drawM (fun h' => h' = h9) [9] ⟨[0, 1, 2, 4, 0, 0, 0, 96, 255, 511], [1023, 1022, 1021, 1019, 1023, 1023, 1023, 927, 999, 639], [0, 1, 3, 7, 0, 0, 0, 96, 255, 511], 512⟩ (.q 0 (.q 1 (.q 2 (.q 3 (.q 4 (.q 5 (.q 6 (.q 7 (.q 8 (.x 9 .nil .no)))))))))) TF.mixed (by kernel_rfl) rfl ?_
  refine RunT.quiet rfl rfl rfl (quiet_eq (sem_move ((Value.pointer p1)) rfl ⟨rfl, rfl⟩)) ?_
  obtain ⟨A11, e12, hS⟩ := hS
  refine RunT.quiet rfl rfl rfl (quiet_eq (sem_nilCheck A11 (congrArg Value.pointer e12) ⟨rfl, rfl⟩)) ?_
  refine RunT.quiet rfl rfl rfl (quiet_eq (sem_fieldAddr A11 0 rfl TF.fld_168_0 ⟨rfl, rfl⟩)) ?_
  obtain ⟨a13, n14, c15, hl, hS⟩ := hS
  refine RunT.quiet rfl rfl rfl (quiet_eq (sem_load1 A11 ((Value.slice a13 n14 c15)) rfl TF.agg_166 hl ⟨rfl, rfl⟩)) ?_
  refine RunT.quiet rfl rfl rfl (quiet_eq (sem_move ((Value.int .i64 (i2))) rfl ⟨rfl, rfl⟩)) ?_
  obtain ⟨b16, s17, hl, hS⟩ := hS
  refine RunT.quiet rfl rfl rfl (quiet_eq (sem_loadN ⟨k7, 0, none⟩ [(Value.bool b16), (Value.string s17)] rfl TF.agg_41 TF.sz_41 hl ⟨rfl, rfl⟩)) ?_
  refine RunT.quiet rfl rfl rfl (quiet_eq (sem_move ((Value.int .i64 (i5))) rfl ⟨rfl, rfl⟩)) ?_
  refine RunT.quiet rfl rfl rfl (quiet_eq (sem_buildSL [(0, (Value.agg #[(Value.bool b16), (Value.string s17)])), (1, (Value.int .i64 (i5)))] [(Value.bool b16), (Value.string s17), (Value.int .i64 (i5))] TF.zero_170 TF.places_170 rfl rfl ⟨rfl, rfl⟩)) ?_
  obtain ⟨A18, e19, hi0, hi1, hS⟩ := hS
  refine RunT.quiet rfl rfl rfl (quiet_eq (sem_indexAddrS A18 n14 c15 .i64 (i2) (congrArg (fun a => Value.slice a n14 c15) e19) rfl TF.slc_166 hi0 hi1 ⟨rfl, rfl⟩)) ?_
  refine ⟨?_, trivial⟩
  obtain ⟨h20, hst, hS⟩ := hS
  refine OpH.go rfl rfl rfl (sem_storeN (Addr.add A18 (Int.toNat (i2) * 3)) [(Value.bool b16), (Value.string s17), (Value.int .i64 (i5))] h20 rfl rfl TF.sz_170 hst ?_)
  refine ⟨fun hz => Bool.noConfusion hz, ?_⟩
  refine Run.seq ?_
  refine Run.ops0 (idx := [0]) rfl ?_
  refine Run.go rfl rfl rfl (sem_assign ((Value.bool true)) rfl ?_)
  refine Run.region_end ?_
  refine Run.ret ⟨.inr rfl, ?_⟩
  exact hS.imp fun h' hq => ⟨(true), rfl, hq⟩
set_option maxHeartbeats 4000000 in
theorem C_countermandref14_Sheet_put.of {B : RO} {p1 : Option Addr} {i2 : Int} {b3 : Bool} {s4 : ByteArray} {h : Heap} {Q : Heap → Prop} (hS : S_countermandref14_Sheet_put B p1 i2 b3 s4 h Q) : C_countermandref14_Sheet_put B p1 i2 b3 s4 h Q := by
 unfold S_countermandref14_Sheet_put at hS
 unfold C_countermandref14_Sheet_put
 refine Spec.of_run Try.func116 (N := 25) (rs := []) rfl rfl rfl (Nat.le_of_ble_eq_true rfl) ?_
 refine Run.seq ?_
 refine Run.ops0 (idx := [0]) rfl ?_
 refine Run.go rfl rfl rfl (sem_boxNN [(Value.bool b3), (Value.string s4)] rfl (fun k5 hb1 hb2 h6 hb3 => ?_))
 have hS := hS k5 hb1 hb2 h6 hb3
 refine Run.region_end ?_
 refine Run.seq ?_
 refine Run.drawM (fun h' => h' = h6) [] ⟨[0, 0, 1, 4, 10, 16, 0, 96], [255, 255, 254, 251, 245, 239, 255, 159], [0, 0, 0, 0, 0, 0, 0, 0], 0⟩ (.q 0 (.q 1 (.q 2 (.q 3 (.q 4 (.q 5 (.q 6 (.q 7 .nil)))))))) TF.mixed (by kernel_rfl) rfl ?_
 refine RunT.quiet rfl rfl rfl (quiet_eq (sem_move ((Value.pointer p1)) rfl ⟨rfl, rfl⟩)) ?_
 refine RunT.quiet rfl rfl rfl (quiet_eq (sem_move ((Value.int .i64 (i2))) rfl ⟨rfl, rfl⟩)) ?_
 obtain ⟨A7, e8, hS⟩ := hS
 refine RunT.quiet rfl rfl rfl (quiet_eq (sem_nilCheck A7 (congrArg Value.pointer e8) ⟨rfl, rfl⟩)) ?_
 refine RunT.quiet rfl rfl rfl (quiet_eq (sem_fieldAddr A7 12 rfl TF.fld_86_1 ⟨rfl, rfl⟩)) ?_
 obtain ⟨hi0, hi1, hS⟩ := hS
 refine RunT.quiet rfl rfl rfl (quiet_eq (sem_indexAddrA (Addr.add A7 12) .i64 (i2) rfl rfl TF.arr_77 hi0 hi1 ⟨rfl, rfl⟩)) ?_
 obtain ⟨b9, s10, hl, hS⟩ := hS
 refine RunT.quiet rfl rfl rfl (quiet_eq (sem_loadN (Addr.add (Addr.add A7 12) (Int.toNat (i2) * 2)) [(Value.bool b9), (Value.string s10)] rfl TF.agg_76 TF.sz_76 hl ⟨rfl, rfl⟩)) ?_
 obtain ⟨b11, s12, hl, hS⟩ := hS
 refine RunT.quiet rfl rfl rfl (quiet_eq (sem_loadN ⟨k5, 0, none⟩ [(Value.bool b11), (Value.string s12)] rfl TF.agg_76 TF.sz_76 hl ⟨rfl, rfl⟩)) ?_
 obtain ⟨hT, hF⟩ := hS
 by_cases hb13 : eqL [(Value.bool b9), (Value.string s10)] [(Value.bool b11), (Value.string s12)] = true
 ·have hS := hT hb13; clear hT hF
  refine RunT.quiet rfl rfl rfl (quiet_eq (sem_aggEq [(Value.bool b9), (Value.string s10)] [(Value.bool b11), (Value.string s12)] _ (false) (.inr rfl) rfl rfl TF.agg_76 TF.flat_76 TF.eqg_76 ⟨⟨_, rfl⟩, ⟨_, rfl⟩, trivial⟩ ⟨⟨_, rfl⟩, ⟨_, rfl⟩, trivial⟩ (eqLT_neq hb13) ⟨rfl, rfl⟩)) ?_
  refine Run.condF rfl ?_
  refine Run.skip ?_
  refine Run.fall ⟨.inl rfl, ?_⟩
  exact hS.imp fun h' hq => ⟨rfl, hq⟩
 ·have hS := hF hb13; clear hT hF
  refine RunT.quiet rfl rfl rfl (quiet_eq (sem_aggEq [(Value.bool b9), (Value.string s10)] [(Value.bool b11), (Value.string s12)] _ (true) (.inr rfl) rfl rfl TF.agg_76 TF.flat_76 TF.eqg_76 ⟨⟨_, rfl⟩, ⟨_, rfl⟩, trivial⟩ ⟨⟨_, rfl⟩, ⟨_, rfl⟩, trivial⟩ (eqLF_neq hb13) ⟨rfl, rfl⟩)) ?_
  refine Run.condT rfl ?_
  refine Run.seq ?_
  refine Run.drawM (fun h' => h' = h6) [6] ⟨[0, 0, 0, 1, 8, 23, 39], [127, 127, 127, 126, 119, 109, 91], [0, 0, 0, 1, 9, 31, 63], 64⟩ (.q 0 (.q 1 (.q 2 (.q 3 (.q 4 (.q 5 (.x 6 .nil .no))))))) TF.mixed (by kernel_rfl) rfl ?_
  refine RunT.quiet rfl rfl rfl (quiet_eq (sem_move ((Value.pointer p1)) rfl ⟨rfl, rfl⟩)) ?_
  refine RunT.quiet rfl rfl rfl (quiet_eq (sem_move ((Value.int .i64 (i2))) rfl ⟨rfl, rfl⟩)) ?_
  obtain ⟨b14, s15, hl, hS⟩ := hS
  refine RunT.quiet rfl rfl rfl (quiet_eq (sem_loadN ⟨k5, 0, none⟩ [(Value.bool b14), (Value.string s15)] rfl TF.agg_76 TF.sz_76 hl ⟨rfl, rfl⟩)) ?_
  obtain ⟨A16, e17, hS⟩ := hS
  refine RunT.quiet rfl rfl rfl (quiet_eq (sem_nilCheck A16 (congrArg Value.pointer e17) ⟨rfl, rfl⟩)) ?_
  refine RunT.quiet rfl rfl rfl (quiet_eq (sem_fieldAddr A16 12 rfl TF.fld_86_1 ⟨rfl, rfl⟩)) ?_
  obtain ⟨hi0, hi1, hS⟩ := hS
  refine RunT.quiet rfl rfl rfl (quiet_eq (sem_indexAddrA (Addr.add A16 12) .i64 (i2) rfl rfl TF.arr_77 hi0 hi1 ⟨rfl, rfl⟩)) ?_
  refine ⟨?_, trivial⟩
  obtain ⟨h18, hst, hS⟩ := hS
  refine OpH.go rfl rfl rfl (sem_storeN (Addr.add (Addr.add A16 12) (Int.toNat (i2) * 2)) [(Value.bool b14), (Value.string s15)] h18 rfl rfl TF.sz_76 hst ?_)
  refine ⟨fun hz => Bool.noConfusion hz, ?_⟩
  refine Run.ops0 (idx := [0, 1, 2, 3, 4, 5]) rfl ?_
  refine Run.go rfl rfl rfl (sem_move ((Value.pointer p1)) rfl ?_)
  refine Run.go rfl rfl rfl (sem_move ((Value.int .i64 (i2))) rfl ?_)
  obtain ⟨A19, e20, hS⟩ := hS
  refine Run.go rfl rfl rfl (sem_nilCheck A19 (congrArg Value.pointer e20) ?_)
  refine Run.go rfl rfl rfl (sem_fieldAddr A19 24 rfl TF.fld_86_2 ?_)
  obtain ⟨hi0, hi1, hS⟩ := hS
  refine Run.go rfl rfl rfl (sem_indexAddrA (Addr.add A19 24) .i64 (i2) rfl rfl TF.arr_84 hi0 hi1 ?_)
  obtain ⟨h21, hst, hS⟩ := hS
  refine Run.go rfl rfl rfl (sem_store1 (Addr.add (Addr.add A19 24) (Int.toNat (i2) * 1)) ((Value.bool true)) h21 rfl rfl rfl TF.sz_4 hst ?_)
  refine Run.region_end ?_
  refine Run.fall ⟨.inl rfl, ?_⟩
  exact hS.imp fun h' hq => ⟨rfl, hq⟩
set_option maxHeartbeats 4000000 in
theorem C_countermandref09_Put.of {B : RO} {b1 : Bool} {s2 : ByteArray} {i3 : Int} {i4 : Int} {h : Heap} {Q : Bool → ByteArray → Heap → Prop} (hS : S_countermandref09_Put B b1 s2 i3 i4 h Q) : C_countermandref09_Put B b1 s2 i3 i4 h Q := by
 unfold S_countermandref09_Put at hS
 unfold C_countermandref09_Put
 refine Spec.of_run Try.func117 (N := 46) (rs := [ResultVar.cell 6 76]) rfl rfl rfl (Nat.le_of_ble_eq_true rfl) ?_
 refine Run.seq ?_
 refine Run.ops0 (idx := [0, 1]) rfl ?_
 refine Run.go rfl rfl rfl (sem_boxNN [(Value.bool b1), (Value.string s2)] rfl (fun k7 hb1 hb2 h8 hb3 => ?_))
 have hS := hS k7 hb1 hb2 h8 hb3
 refine Run.go rfl rfl rfl (sem_allocN [(Value.bool false), (Value.string ByteArray.empty)] TF.zero_76 (fun k9 hb1 hb2 h10 hb3 => ?_))
 have hS := hS k9 hb1 hb2 h10 hb3
 refine Run.region_end ?_
 refine Run.seqJ (fun e h12 => Agree [(1, (Value.int .i64 (i3))), (2, (Value.int .u8 (i4))), (3, (Value.pointer (some ⟨k7, 0, none⟩))), (6, (Value.pointer (some ⟨k9, 0, none⟩)))] e ∧ S_countermandref09_Put_J1 B i3 i4 k7 k9 h12 Q) ?_ fun j11 => ?_
 ·rintro e h12 ⟨hag, hS⟩
  refine Run.env hag ?_; clear hag
  refine Run.seq ?_
  refine Run.ops0 (idx := [0]) rfl ?_
  refine Run.go rfl rfl rfl (sem_assign ((Value.string (ByteArray.mk #[]))) rfl ?_)
  refine Run.region_end ?_
  refine Run.seq ?_
  refine Run.seq ?_
  refine Run.ops0 (idx := [0]) rfl ?_
  refine Run.go rfl rfl rfl (sem_assign ((Value.int .i64 (0))) rfl ?_)
  refine Run.region_end ?_
  refine Run.block ?_
  obtain ⟨J19, m17, h0, hS⟩ := hS
  refine Run.of_fin (h0.imp fun h' h0 => ?_)
  refine Run.loop (σ := ByteArray × Int × Nat) (fun x e h => J19 x.1 x.2.1 x.2.2 h ∧ Agree [(1, (Value.int .i64 (i3))), (2, (Value.int .u8 (i4))), (3, (Value.pointer (some ⟨k7, 0, none⟩))), (6, (Value.pointer (some ⟨k9, 0, none⟩))), (7, (Value.string x.1)), (8, (Value.int .i64 (x.2.1)))] e) (fun x => x.2.2) ((ByteArray.mk #[]), (0), m17) ⟨h0, ⟨rfl, rfl, rfl, rfl, rfl, rfl, trivial⟩⟩ ?_; clear h0
  rintro ⟨s13, i14, m16⟩ e h15 ⟨hJ, hag⟩ ih18
  have hS := hS s13 i14 m16 h15 hJ; clear hJ
  refine Run.env hag ?_; clear hag
  refine Run.seqJ (fun e h21 => Agree [(1, (Value.int .i64 (i3))), (2, (Value.int .u8 (i4))), (3, (Value.pointer (some ⟨k7, 0, none⟩))), (6, (Value.pointer (some ⟨k9, 0, none⟩))), (7, (Value.string s13)), (8, (Value.int .i64 (i14)))] e ∧ S_countermandref09_Put_J2 B i3 i4 k7 k9 s13 i14 m16 J19 h21 Q) ?_ fun j20 => ?_
  ·rintro e h21 ⟨hag, hS⟩
   refine Run.env hag ?_; clear hag
   refine Run.seq ?_
   refine Run.block ?_
   refine Run.seq ?_
   refine Run.ops0 (idx := [0, 1, 2, 3, 4]) rfl ?_
   obtain ⟨b22, s23, hl, hS⟩ := hS
   refine Run.go rfl rfl rfl (sem_loadN ⟨k7, 0, none⟩ [(Value.bool b22), (Value.string s23)] rfl TF.agg_76 TF.sz_76 hl ?_)
   refine Run.go rfl rfl rfl (sem_move ((Value.int .i64 (i14))) rfl ?_)
   refine Run.go rfl rfl rfl (sem_callL [(Value.agg #[(Value.bool b22), (Value.string s23)]), (Value.int .i64 (i14))] (TF.goes_138) rfl rfl (Spec.mono hS fun v h24 hv => ?_))
   obtain ⟨i25, rfl, hS⟩ := hv
   refine Run.go rfl rfl rfl (sem_max .i64 (i25) (0) rfl rfl ?_)
   refine Run.go rfl rfl rfl (sem_assign ((Value.int .i64 (if (0 : Int) > (i25) then (0 : Int) else (i25)))) rfl ?_)
   refine Run.region_end ?_
   refine Run.seqJ (fun e h28 => ∃ i27 : Int, Agree [(1, (Value.int .i64 (i3))), (2, (Value.int .u8 (i4))), (3, (Value.pointer (some ⟨k7, 0, none⟩))), (6, (Value.pointer (some ⟨k9, 0, none⟩))), (7, (Value.string s13)), (8, (Value.int .i64 (i14))), (9, (Value.int .i64 (i27)))] e ∧ S_countermandref09_Put_J3 B i3 i4 k7 k9 s13 i14 m16 J19 i27 h28 Q) ?_ fun j26 => ?_
   ·rintro e h28 ⟨i27, hag, hS⟩
    refine Run.env hag ?_; clear hag
    refine Run.ops0 (idx := [0, 1, 2, 3, 4, 5, 6]) rfl ?_
    refine Run.go rfl rfl rfl (sem_move ((Value.string s13)) rfl ?_)
    refine Run.go rfl rfl rfl (sem_move ((Value.int .i64 (i27))) rfl ?_)
    refine Run.go rfl rfl rfl (sem_convI .i64 .u8 (i27) rfl TF.int_3 TF.int_5 ?_)
    refine Run.go rfl rfl rfl (sem_buildSliceL [(0, (Value.int .u8 (IntKind.wrap .u8 (i27))))] [(Value.int .u8 (IntKind.wrap .u8 (i27)))] TF.slc_144 TF.zero_5 rfl (by decide) (by decide) rfl rfl (fun k29 hb1 hb2 h30 hb3 => ?_))
    have hS := hS k29 hb1 hb2 h30 hb3
    refine Run.go rfl rfl rfl (sem_convW ((Value.slice (some ⟨k29, 0, none⟩) 1 1)) rfl (semH_mono (fun v h32 hv => ?_) hS))
    obtain ⟨s31, rfl, hS⟩ := hv
    obtain ⟨hi0, hS⟩ := hS
    refine Run.go rfl rfl rfl (sem_strAdd s13 s31 rfl rfl hi0 ?_)
    refine Run.go rfl rfl rfl (sem_assign ((Value.string (s13 ++ s31))) rfl ?_)
    refine Run.region_end ?_
    refine Run.inBlock ?_
    refine Run.ops0 (idx := [0, 1, 2]) rfl ?_
    refine Run.go rfl rfl rfl (sem_move ((Value.int .i64 (i14))) rfl ?_)
    refine Run.go rfl rfl rfl (sem_binI .i64 (i14) (1) ((Value.int .i64 (IntKind.wrap .i64 ((i14) + (1))))) rfl rfl rfl ?_)
    refine Run.go rfl rfl rfl (sem_assign ((Value.int .i64 (IntKind.wrap .i64 ((i14) + (1))))) rfl ?_)
    refine Run.region_end ?_
    exact Run.of_fin (hS.imp fun h' ⟨m', hm, hS⟩ => ih18 ((s13 ++ s31), (IntKind.wrap .i64 ((i14) + (1))), m') _ _ ⟨hS, ⟨rfl, rfl, rfl, rfl, rfl, rfl, trivial⟩⟩ hm)
   refine Run.seq ?_
   refine Run.ops0 (idx := [0, 1, 2]) rfl ?_
   refine Run.go rfl rfl rfl (sem_move ((Value.int .i64 (i14))) rfl ?_)
   refine Run.go rfl rfl rfl (sem_move ((Value.int .i64 (i3))) rfl ?_)
   obtain ⟨hT, hF⟩ := hS
   by_cases hb33 : (i14 : Int) = i3
   ·have hS := hT hb33; clear hT hF
    refine Run.go rfl rfl rfl (sem_binI .i64 (i14) (i3) (.bool true) rfl rfl (binI_eql_t hb33) ?_)
    refine Run.region_end ?_
    refine Run.condT rfl ?_
    refine Run.ops0 (idx := [0, 1, 2]) rfl ?_
    refine Run.go rfl rfl rfl (sem_move ((Value.int .u8 (i4))) rfl ?_)
    refine Run.go rfl rfl rfl (sem_convI .u8 .i64 (i4) rfl TF.int_5 TF.int_3 ?_)
    refine Run.go rfl rfl rfl (sem_assign ((Value.int .i64 (IntKind.wrap .i64 (i4)))) rfl ?_)
    refine Run.region_end ?_
    exact Run.of_fin (hS.imp fun h' hS => j26 _ _ ⟨(IntKind.wrap .i64 (i4)), ⟨rfl, rfl, rfl, rfl, rfl, rfl, rfl, trivial⟩, hS⟩)
   ·have hS := hF hb33; clear hT hF
    refine Run.go rfl rfl rfl (sem_binI .i64 (i14) (i3) (.bool false) rfl rfl (binI_eql_f hb33) ?_)
    refine Run.region_end ?_
    refine Run.condF rfl ?_
    refine Run.skip ?_
    exact Run.of_fin (hS.imp fun h' hS => j26 _ _ ⟨(if (0 : Int) > (i25) then (0 : Int) else (i25)), ⟨rfl, rfl, rfl, rfl, rfl, rfl, rfl, trivial⟩, hS⟩)
  refine Run.seq ?_
  refine Run.ops0 (idx := [0, 1, 2, 3, 4, 5, 6, 7, 8, 9]) rfl ?_
  refine Run.go rfl rfl rfl (sem_move ((Value.int .i64 (i14))) rfl ?_)
  refine Run.go rfl rfl rfl (sem_fieldAddr ⟨k7, 0, none⟩ 1 rfl TF.fld_76_1 ?_)
  obtain ⟨s34, hl, hS⟩ := hS
  refine Run.go rfl rfl rfl (sem_load1 ⟨k7, 1, none⟩ ((Value.string s34)) rfl TF.agg_9 hl ?_)
  refine Run.go rfl rfl rfl (sem_lenStr s34 rfl TF.isStr_9 ?_)
  obtain ⟨hT, hF⟩ := hS
  by_cases hb35 : (i14 : Int) < ((ByteArray.size s34 : Nat))
  ·have hS := hT hb35; clear hT hF
   refine Run.go rfl rfl rfl (sem_binI .i64 (i14) ((ByteArray.size s34 : Nat)) (.bool true) rfl rfl (binI_lss_t hb35) ?_)
   refine Run.go rfl rfl rfl (sem_move ((Value.bool true)) rfl ?_)
   refine Run.no rfl rfl rfl ?_
   refine Run.no rfl rfl rfl ?_
   refine Run.no rfl rfl rfl ?_
   refine Run.go rfl rfl rfl (sem_pick true ((Value.bool true)) rfl rfl ?_)
   refine Run.region_end ?_
   refine Run.condT rfl ?_
   refine Run.skip ?_
   exact Run.of_fin (hS.imp fun h' hS => j20 _ _ ⟨⟨rfl, rfl, rfl, rfl, rfl, rfl, trivial⟩, hS⟩)
  ·have hS := hF hb35; clear hT hF
   refine Run.go rfl rfl rfl (sem_binI .i64 (i14) ((ByteArray.size s34 : Nat)) (.bool false) rfl rfl (binI_lss_f hb35) ?_)
   refine Run.go rfl rfl rfl (sem_move ((Value.bool false)) rfl ?_)
   refine Run.go rfl rfl rfl (sem_move ((Value.int .i64 (i14))) rfl ?_)
   refine Run.go rfl rfl rfl (sem_move ((Value.int .i64 (i3))) rfl ?_)
   obtain ⟨hT, hF⟩ := hS
   by_cases hb36 : (i14 : Int) ≤ (i3)
   ·have hS := hT hb36; clear hT hF
    refine Run.go rfl rfl rfl (sem_binI .i64 (i14) (i3) (.bool true) rfl rfl (binI_leq_t hb36) ?_)
    refine Run.go rfl rfl rfl (sem_pick false ((Value.bool true)) rfl rfl ?_)
    refine Run.region_end ?_
    refine Run.condT rfl ?_
    refine Run.skip ?_
    exact Run.of_fin (hS.imp fun h' hS => j20 _ _ ⟨⟨rfl, rfl, rfl, rfl, rfl, rfl, trivial⟩, hS⟩)
   ·have hS := hF hb36; clear hT hF
    refine Run.go rfl rfl rfl (sem_binI .i64 (i14) (i3) (.bool false) rfl rfl (binI_leq_f hb36) ?_)
    refine Run.go rfl rfl rfl (sem_pick false ((Value.bool false)) rfl rfl ?_)
    refine Run.region_end ?_
    refine Run.condF rfl ?_
    refine Run.exit rfl ?_
    refine Run.seq ?_
    refine Run.ops0 (idx := [0, 1, 2]) rfl ?_
    refine Run.go rfl rfl rfl (sem_move ((Value.string s13)) rfl ?_)
    refine Run.go rfl rfl rfl (sem_buildSL [(0, (Value.bool true)), (1, (Value.string s13))] [(Value.bool true), (Value.string s13)] TF.zero_76 TF.places_76 rfl rfl ?_)
    obtain ⟨h37, hst, hS⟩ := hS
    refine Run.go rfl rfl rfl (sem_storeN ⟨k9, 0, none⟩ [(Value.bool true), (Value.string s13)] h37 rfl rfl TF.sz_76 hst ?_)
    refine Run.region_end ?_
    obtain ⟨b38, s39, hl0, hS⟩ := hS
    refine Run.ret ⟨.inr rfl, ?_⟩
    exact ⟨⟨k9, 0, none⟩, (Value.agg #[(Value.bool b38), (Value.string s39)]), rfl, loadHN TF.agg_76 TF.sz_76 hl0, hS.imp fun h' hq => ⟨(b38), s39, rfl, hq⟩⟩
 refine Run.seq ?_
 refine Run.ops0 (idx := [0, 1, 2, 3, 4, 5]) rfl ?_
 refine Run.go rfl rfl rfl (sem_move ((Value.int .i64 (i3))) rfl ?_)
 obtain ⟨hT, hF⟩ := hS
 by_cases hb40 : (i3 : Int) < (0)
 ·have hS := hT hb40; clear hT hF
  refine Run.go rfl rfl rfl (sem_binI .i64 (i3) (0) (.bool true) rfl rfl (binI_lss_t hb40) ?_)
  refine Run.go rfl rfl rfl (sem_move ((Value.bool true)) rfl ?_)
  refine Run.no rfl rfl rfl ?_
  refine Run.no rfl rfl rfl ?_
  refine Run.go rfl rfl rfl (sem_pick true ((Value.bool true)) rfl rfl ?_)
  refine Run.region_end ?_
  refine Run.condT rfl ?_
  refine Run.seq ?_
  refine Run.ops0 (idx := [0, 1]) rfl ?_
  obtain ⟨b41, s42, hl, hS⟩ := hS
  refine Run.go rfl rfl rfl (sem_loadN ⟨k7, 0, none⟩ [(Value.bool b41), (Value.string s42)] rfl TF.agg_76 TF.sz_76 hl ?_)
  obtain ⟨h43, hst, hS⟩ := hS
  refine Run.go rfl rfl rfl (sem_storeN ⟨k9, 0, none⟩ [(Value.bool b41), (Value.string s42)] h43 rfl rfl TF.sz_76 hst ?_)
  refine Run.region_end ?_
  obtain ⟨b44, s45, hl0, hS⟩ := hS
  refine Run.ret ⟨.inr rfl, ?_⟩
  exact ⟨⟨k9, 0, none⟩, (Value.agg #[(Value.bool b44), (Value.string s45)]), rfl, loadHN TF.agg_76 TF.sz_76 hl0, hS.imp fun h' hq => ⟨(b44), s45, rfl, hq⟩⟩
 ·have hS := hF hb40; clear hT hF
  refine Run.go rfl rfl rfl (sem_binI .i64 (i3) (0) (.bool false) rfl rfl (binI_lss_f hb40) ?_)
  refine Run.go rfl rfl rfl (sem_move ((Value.bool false)) rfl ?_)
  refine Run.go rfl rfl rfl (sem_move ((Value.int .i64 (i3))) rfl ?_)
  obtain ⟨hT, hF⟩ := hS
  by_cases hb46 : (i3 : Int) > (31)
  ·have hS := hT hb46; clear hT hF
   refine Run.go rfl rfl rfl (sem_binI .i64 (i3) (31) (.bool true) rfl rfl (binI_gtr_t hb46) ?_)
   refine Run.go rfl rfl rfl (sem_pick false ((Value.bool true)) rfl rfl ?_)
   refine Run.region_end ?_
   refine Run.condT rfl ?_
   refine Run.seq ?_
   refine Run.ops0 (idx := [0, 1]) rfl ?_
   obtain ⟨b47, s48, hl, hS⟩ := hS
   refine Run.go rfl rfl rfl (sem_loadN ⟨k7, 0, none⟩ [(Value.bool b47), (Value.string s48)] rfl TF.agg_76 TF.sz_76 hl ?_)
   obtain ⟨h49, hst, hS⟩ := hS
   refine Run.go rfl rfl rfl (sem_storeN ⟨k9, 0, none⟩ [(Value.bool b47), (Value.string s48)] h49 rfl rfl TF.sz_76 hst ?_)
   refine Run.region_end ?_
   obtain ⟨b50, s51, hl0, hS⟩ := hS
   refine Run.ret ⟨.inr rfl, ?_⟩
   exact ⟨⟨k9, 0, none⟩, (Value.agg #[(Value.bool b50), (Value.string s51)]), rfl, loadHN TF.agg_76 TF.sz_76 hl0, hS.imp fun h' hq => ⟨(b50), s51, rfl, hq⟩⟩
  ·have hS := hF hb46; clear hT hF
   refine Run.go rfl rfl rfl (sem_binI .i64 (i3) (31) (.bool false) rfl rfl (binI_gtr_f hb46) ?_)
   refine Run.go rfl rfl rfl (sem_pick false ((Value.bool false)) rfl rfl ?_)
   refine Run.region_end ?_
   refine Run.condF rfl ?_
   refine Run.skip ?_
   exact Run.of_fin (hS.imp fun h' hS => j11 _ _ ⟨⟨rfl, rfl, rfl, rfl, trivial⟩, hS⟩)
set_option maxHeartbeats 4000000 in
theorem C_countermandref09_Cut.of {B : RO} {b1 : Bool} {s2 : ByteArray} {i3 : Int} {h : Heap} {Q : Bool → ByteArray → Heap → Prop} (hS : S_countermandref09_Cut B b1 s2 i3 h Q) : C_countermandref09_Cut B b1 s2 i3 h Q := by
 unfold S_countermandref09_Cut at hS
 unfold C_countermandref09_Cut
 refine Spec.of_run Try.func118 (N := 35) (rs := [ResultVar.cell 4 76]) rfl rfl rfl (Nat.le_of_ble_eq_true rfl) ?_
 refine Run.seq ?_
 refine Run.ops0 (idx := [0, 1]) rfl ?_
 refine Run.go rfl rfl rfl (sem_boxNN [(Value.bool b1), (Value.string s2)] rfl (fun k6 hb1 hb2 h7 hb3 => ?_))
 have hS := hS k6 hb1 hb2 h7 hb3
 refine Run.go rfl rfl rfl (sem_allocN [(Value.bool false), (Value.string ByteArray.empty)] TF.zero_76 (fun k8 hb1 hb2 h9 hb3 => ?_))
 have hS := hS k8 hb1 hb2 h9 hb3
 refine Run.region_end ?_
 refine Run.seqJ (fun e h11 => Agree [(1, (Value.int .i64 (i3))), (2, (Value.pointer (some ⟨k6, 0, none⟩))), (4, (Value.pointer (some ⟨k8, 0, none⟩)))] e ∧ S_countermandref09_Cut_J1 B i3 k6 k8 h11 Q) ?_ fun j10 => ?_
 ·rintro e h11 ⟨hag, hS⟩
  refine Run.env hag ?_; clear hag
  refine Run.seq ?_
  refine Run.ops0 (idx := [0]) rfl ?_
  refine Run.go rfl rfl rfl (sem_assign ((Value.string (ByteArray.mk #[]))) rfl ?_)
  refine Run.region_end ?_
  refine Run.seq ?_
  refine Run.seq ?_
  refine Run.ops0 (idx := [0]) rfl ?_
  refine Run.go rfl rfl rfl (sem_assign ((Value.int .i64 (0))) rfl ?_)
  refine Run.region_end ?_
  refine Run.block ?_
  obtain ⟨J18, m16, h0, hS⟩ := hS
  refine Run.of_fin (h0.imp fun h' h0 => ?_)
  refine Run.loop (σ := ByteArray × Int × Nat) (fun x e h => J18 x.1 x.2.1 x.2.2 h ∧ Agree [(1, (Value.int .i64 (i3))), (2, (Value.pointer (some ⟨k6, 0, none⟩))), (4, (Value.pointer (some ⟨k8, 0, none⟩))), (5, (Value.string x.1)), (6, (Value.int .i64 (x.2.1)))] e) (fun x => x.2.2) ((ByteArray.mk #[]), (0), m16) ⟨h0, ⟨rfl, rfl, rfl, rfl, rfl, trivial⟩⟩ ?_; clear h0
  rintro ⟨s12, i13, m15⟩ e h14 ⟨hJ, hag⟩ ih17
  have hS := hS s12 i13 m15 h14 hJ; clear hJ
  refine Run.env hag ?_; clear hag
  refine Run.seq ?_
  refine Run.seq ?_
  refine Run.ops0 (idx := [0, 1, 2]) rfl ?_
  refine Run.go rfl rfl rfl (sem_move ((Value.int .i64 (i13))) rfl ?_)
  refine Run.go rfl rfl rfl (sem_move ((Value.int .i64 (i3))) rfl ?_)
  obtain ⟨hT, hF⟩ := hS
  by_cases hb19 : (i13 : Int) < (i3)
  ·have hS := hT hb19; clear hT hF
   refine Run.go rfl rfl rfl (sem_binI .i64 (i13) (i3) (.bool true) rfl rfl (binI_lss_t hb19) ?_)
   refine Run.region_end ?_
   refine Run.condT rfl ?_
   refine Run.skip ?_
   refine Run.seq ?_
   refine Run.block ?_
   refine Run.ops0 (idx := [0, 1, 2, 3, 4, 5, 6, 7, 8, 9]) rfl ?_
   refine Run.go rfl rfl rfl (sem_move ((Value.string s12)) rfl ?_)
   obtain ⟨b20, s21, hl, hS⟩ := hS
   refine Run.go rfl rfl rfl (sem_loadN ⟨k6, 0, none⟩ [(Value.bool b20), (Value.string s21)] rfl TF.agg_76 TF.sz_76 hl ?_)
   refine Run.go rfl rfl rfl (sem_move ((Value.int .i64 (i13))) rfl ?_)
   refine Run.go rfl rfl rfl (sem_callL [(Value.agg #[(Value.bool b20), (Value.string s21)]), (Value.int .i64 (i13))] (TF.goes_138) rfl rfl (Spec.mono hS fun v h22 hv => ?_))
   obtain ⟨i23, rfl, hS⟩ := hv
   refine Run.go rfl rfl rfl (sem_max .i64 (i23) (0) rfl rfl ?_)
   refine Run.go rfl rfl rfl (sem_convI .i64 .u8 (if (0 : Int) > (i23) then (0 : Int) else (i23)) rfl TF.int_3 TF.int_5 ?_)
   refine Run.go rfl rfl rfl (sem_buildSliceL [(0, (Value.int .u8 (IntKind.wrap .u8 (if (0 : Int) > (i23) then (0 : Int) else (i23)))))] [(Value.int .u8 (IntKind.wrap .u8 (if (0 : Int) > (i23) then (0 : Int) else (i23))))] TF.slc_144 TF.zero_5 rfl (by decide) (by decide) rfl rfl (fun k24 hb1 hb2 h25 hb3 => ?_))
   have hS := hS k24 hb1 hb2 h25 hb3
   refine Run.go rfl rfl rfl (sem_convW ((Value.slice (some ⟨k24, 0, none⟩) 1 1)) rfl (semH_mono (fun v h27 hv => ?_) hS))
   obtain ⟨s26, rfl, hS⟩ := hv
   obtain ⟨hi0, hS⟩ := hS
   refine Run.go rfl rfl rfl (sem_strAdd s12 s26 rfl rfl hi0 ?_)
   refine Run.go rfl rfl rfl (sem_assign ((Value.string (s12 ++ s26))) rfl ?_)
   refine Run.region_end ?_
   refine Run.inBlock ?_
   refine Run.ops0 (idx := [0, 1, 2]) rfl ?_
   refine Run.go rfl rfl rfl (sem_move ((Value.int .i64 (i13))) rfl ?_)
   refine Run.go rfl rfl rfl (sem_binI .i64 (i13) (1) ((Value.int .i64 (IntKind.wrap .i64 ((i13) + (1))))) rfl rfl rfl ?_)
   refine Run.go rfl rfl rfl (sem_assign ((Value.int .i64 (IntKind.wrap .i64 ((i13) + (1))))) rfl ?_)
   refine Run.region_end ?_
   exact Run.of_fin (hS.imp fun h' ⟨m', hm, hS⟩ => ih17 ((s12 ++ s26), (IntKind.wrap .i64 ((i13) + (1))), m') _ _ ⟨hS, ⟨rfl, rfl, rfl, rfl, rfl, trivial⟩⟩ hm)
  ·have hS := hF hb19; clear hT hF
   refine Run.go rfl rfl rfl (sem_binI .i64 (i13) (i3) (.bool false) rfl rfl (binI_lss_f hb19) ?_)
   refine Run.region_end ?_
   refine Run.condF rfl ?_
   refine Run.exit rfl ?_
   refine Run.seq ?_
   refine Run.ops0 (idx := [0, 1, 2]) rfl ?_
   refine Run.go rfl rfl rfl (sem_move ((Value.string s12)) rfl ?_)
   refine Run.go rfl rfl rfl (sem_buildSL [(0, (Value.bool true)), (1, (Value.string s12))] [(Value.bool true), (Value.string s12)] TF.zero_76 TF.places_76 rfl rfl ?_)
   obtain ⟨h28, hst, hS⟩ := hS
   refine Run.go rfl rfl rfl (sem_storeN ⟨k8, 0, none⟩ [(Value.bool true), (Value.string s12)] h28 rfl rfl TF.sz_76 hst ?_)
   refine Run.region_end ?_
   obtain ⟨b29, s30, hl0, hS⟩ := hS
   refine Run.ret ⟨.inr rfl, ?_⟩
   exact ⟨⟨k8, 0, none⟩, (Value.agg #[(Value.bool b29), (Value.string s30)]), rfl, loadHN TF.agg_76 TF.sz_76 hl0, hS.imp fun h' hq => ⟨(b29), s30, rfl, hq⟩⟩
 refine Run.seq ?_
 refine Run.ops0 (idx := [0, 1, 2, 3, 4, 5, 6, 7, 8, 9, 10]) rfl ?_
 refine Run.go rfl rfl rfl (sem_fieldAddr ⟨k6, 0, none⟩ 0 rfl TF.fld_76_0 ?_)
 obtain ⟨b31, hl, hS⟩ := hS
 obtain ⟨hT, hF⟩ := hS
 cases b31
 ·have hS := hF rfl; clear hT hF
  refine Run.go rfl rfl rfl (sem_load1 ⟨k6, 0, none⟩ (.bool false) rfl TF.agg_4 hl ?_)
  refine Run.go rfl rfl rfl (sem_not false rfl ?_)
  refine Run.go rfl rfl rfl (sem_move ((Value.bool true)) rfl ?_)
  refine Run.no rfl rfl rfl ?_
  refine Run.no rfl rfl rfl ?_
  refine Run.go rfl rfl rfl (sem_pick true ((Value.bool true)) rfl rfl ?_)
  refine Run.go rfl rfl rfl (sem_move ((Value.bool true)) rfl ?_)
  refine Run.no rfl rfl rfl ?_
  refine Run.no rfl rfl rfl ?_
  refine Run.go rfl rfl rfl (sem_pick true ((Value.bool true)) rfl rfl ?_)
  refine Run.region_end ?_
  refine Run.condT rfl ?_
  refine Run.seq ?_
  refine Run.ops0 (idx := [0, 1]) rfl ?_
  obtain ⟨b32, s33, hl, hS⟩ := hS
  refine Run.go rfl rfl rfl (sem_loadN ⟨k6, 0, none⟩ [(Value.bool b32), (Value.string s33)] rfl TF.agg_76 TF.sz_76 hl ?_)
  obtain ⟨h34, hst, hS⟩ := hS
  refine Run.go rfl rfl rfl (sem_storeN ⟨k8, 0, none⟩ [(Value.bool b32), (Value.string s33)] h34 rfl rfl TF.sz_76 hst ?_)
  refine Run.region_end ?_
  obtain ⟨b35, s36, hl0, hS⟩ := hS
  refine Run.ret ⟨.inr rfl, ?_⟩
  exact ⟨⟨k8, 0, none⟩, (Value.agg #[(Value.bool b35), (Value.string s36)]), rfl, loadHN TF.agg_76 TF.sz_76 hl0, hS.imp fun h' hq => ⟨(b35), s36, rfl, hq⟩⟩
 ·have hS := hT rfl; clear hT hF
  refine Run.go rfl rfl rfl (sem_load1 ⟨k6, 0, none⟩ (.bool true) rfl TF.agg_4 hl ?_)
  refine Run.go rfl rfl rfl (sem_not true rfl ?_)
  refine Run.go rfl rfl rfl (sem_move ((Value.bool false)) rfl ?_)
  refine Run.go rfl rfl rfl (sem_move ((Value.int .i64 (i3))) rfl ?_)
  obtain ⟨hT, hF⟩ := hS
  by_cases hb37 : (i3 : Int) < (0)
  ·have hS := hT hb37; clear hT hF
   refine Run.go rfl rfl rfl (sem_binI .i64 (i3) (0) (.bool true) rfl rfl (binI_lss_t hb37) ?_)
   refine Run.go rfl rfl rfl (sem_pick false ((Value.bool true)) rfl rfl ?_)
   refine Run.go rfl rfl rfl (sem_move ((Value.bool true)) rfl ?_)
   refine Run.no rfl rfl rfl ?_
   refine Run.no rfl rfl rfl ?_
   refine Run.go rfl rfl rfl (sem_pick true ((Value.bool true)) rfl rfl ?_)
   refine Run.region_end ?_
   refine Run.condT rfl ?_
   refine Run.seq ?_
   refine Run.ops0 (idx := [0, 1]) rfl ?_
   obtain ⟨b38, s39, hl, hS⟩ := hS
   refine Run.go rfl rfl rfl (sem_loadN ⟨k6, 0, none⟩ [(Value.bool b38), (Value.string s39)] rfl TF.agg_76 TF.sz_76 hl ?_)
   obtain ⟨h40, hst, hS⟩ := hS
   refine Run.go rfl rfl rfl (sem_storeN ⟨k8, 0, none⟩ [(Value.bool b38), (Value.string s39)] h40 rfl rfl TF.sz_76 hst ?_)
   refine Run.region_end ?_
   obtain ⟨b41, s42, hl0, hS⟩ := hS
   refine Run.ret ⟨.inr rfl, ?_⟩
   exact ⟨⟨k8, 0, none⟩, (Value.agg #[(Value.bool b41), (Value.string s42)]), rfl, loadHN TF.agg_76 TF.sz_76 hl0, hS.imp fun h' hq => ⟨(b41), s42, rfl, hq⟩⟩
  ·have hS := hF hb37; clear hT hF
   refine Run.go rfl rfl rfl (sem_binI .i64 (i3) (0) (.bool false) rfl rfl (binI_lss_f hb37) ?_)
   refine Run.go rfl rfl rfl (sem_pick false ((Value.bool false)) rfl rfl ?_)
   refine Run.go rfl rfl rfl (sem_move ((Value.bool false)) rfl ?_)
   refine Run.go rfl rfl rfl (sem_move ((Value.int .i64 (i3))) rfl ?_)
   obtain ⟨hT, hF⟩ := hS
   by_cases hb43 : (i3 : Int) > (32)
   ·have hS := hT hb43; clear hT hF
    refine Run.go rfl rfl rfl (sem_binI .i64 (i3) (32) (.bool true) rfl rfl (binI_gtr_t hb43) ?_)
    refine Run.go rfl rfl rfl (sem_pick false ((Value.bool true)) rfl rfl ?_)
    refine Run.region_end ?_
    refine Run.condT rfl ?_
    refine Run.seq ?_
    refine Run.ops0 (idx := [0, 1]) rfl ?_
    obtain ⟨b44, s45, hl, hS⟩ := hS
    refine Run.go rfl rfl rfl (sem_loadN ⟨k6, 0, none⟩ [(Value.bool b44), (Value.string s45)] rfl TF.agg_76 TF.sz_76 hl ?_)
    obtain ⟨h46, hst, hS⟩ := hS
    refine Run.go rfl rfl rfl (sem_storeN ⟨k8, 0, none⟩ [(Value.bool b44), (Value.string s45)] h46 rfl rfl TF.sz_76 hst ?_)
    refine Run.region_end ?_
    obtain ⟨b47, s48, hl0, hS⟩ := hS
    refine Run.ret ⟨.inr rfl, ?_⟩
    exact ⟨⟨k8, 0, none⟩, (Value.agg #[(Value.bool b47), (Value.string s48)]), rfl, loadHN TF.agg_76 TF.sz_76 hl0, hS.imp fun h' hq => ⟨(b47), s48, rfl, hq⟩⟩
   ·have hS := hF hb43; clear hT hF
    refine Run.go rfl rfl rfl (sem_binI .i64 (i3) (32) (.bool false) rfl rfl (binI_gtr_f hb43) ?_)
    refine Run.go rfl rfl rfl (sem_pick false ((Value.bool false)) rfl rfl ?_)
    refine Run.region_end ?_
    refine Run.condF rfl ?_
    refine Run.skip ?_
    exact Run.of_fin (hS.imp fun h' hS => j10 _ _ ⟨⟨rfl, rfl, rfl, trivial⟩, hS⟩)
set_option maxHeartbeats 4000000 in
theorem C_slices_Clone_s_draft_entry_file_File_draft_entry_file_File.of {B : RO} {a1 : Option Addr} {n2 : Nat} {c3 : Nat} {h : Heap} {Q : Option Addr → Nat → Nat → Heap → Prop} (hS : S_slices_Clone_s_draft_entry_file_File_draft_entry_file_File B a1 n2 c3 h Q) : C_slices_Clone_s_draft_entry_file_File_draft_entry_file_File B a1 n2 c3 h Q := by
 unfold S_slices_Clone_s_draft_entry_file_File_draft_entry_file_File at hS
 unfold C_slices_Clone_s_draft_entry_file_File_draft_entry_file_File
 refine Spec.of_run Try.func119 (N := 8) (rs := [ResultVar.tmp 2]) rfl rfl rfl (Nat.le_of_ble_eq_true rfl) ?_
 refine Run.seq ?_
 refine Run.ops0 (idx := [0]) rfl ?_
 refine Run.go rfl rfl rfl (sem_assign ((Value.slice none 0 0)) rfl ?_)
 refine Run.region_end ?_
 refine Run.seq ?_
 refine Run.seq ?_
 refine Run.ops0 (idx := [0, 1]) rfl ?_
 refine Run.go rfl rfl rfl (sem_move ((Value.slice a1 n2 c3)) rfl ?_)
 obtain ⟨hT, hF⟩ := hS
 by_cases hb7 : a1 = none
 ·have hS := hT hb7; clear hT hF
  refine Run.go rfl rfl rfl (sem_slNilT (a1) (n2) (c3) (.inl rfl) true rfl rfl TF.sl_158 hb7 rfl ?_)
  refine Run.region_end ?_
  refine Run.condT rfl ?_
  refine Run.seq ?_
  refine Run.ops0 (idx := [0]) rfl ?_
  refine Run.go rfl rfl rfl (sem_assign ((Value.slice none 0 0)) rfl ?_)
  refine Run.region_end ?_
  refine Run.ret ⟨.inr rfl, ?_⟩
  exact hS.imp fun h' hq => ⟨none, 0, 0, rfl, hq⟩
 ·have hS := hF hb7; clear hT hF
  refine Run.go rfl rfl rfl (sem_slNilF (a1) (n2) (c3) (.inl rfl) false rfl rfl TF.sl_158 hb7 rfl ?_)
  refine Run.region_end ?_
  refine Run.condF rfl ?_
  refine Run.skip ?_
  refine Run.seq ?_
  refine Run.ops0 (idx := [0, 1, 2, 3]) rfl ?_
  refine Run.go rfl rfl rfl (sem_buildSlice0N TF.slc_158 (fun k8 hb1 hb2 h9 hb3 => ?_))
  have hS := hS k8 hb1 hb2 h9 hb3
  refine Run.go rfl rfl rfl (sem_move ((Value.slice a1 n2 c3)) rfl ?_)
  refine Run.go rfl rfl rfl (sem_appendL [(Value.slice (some ⟨k8, 0, none⟩) 0 0), (Value.slice a1 n2 c3)] rfl (semH_mono (fun v h10 hv => ?_) hS))
  obtain ⟨a11, n12, c13, rfl, hS⟩ := hv
  refine Run.go rfl rfl rfl (sem_assign ((Value.slice a11 n12 c13)) rfl ?_)
  refine Run.region_end ?_
  refine Run.ret ⟨.inr rfl, ?_⟩
  exact hS.imp fun h' hq => ⟨a11, n12, c13, rfl, hq⟩
set_option maxHeartbeats 4000000 in
theorem C_cell_Row_file_File_is.of {B : RO} {p1 : Option Addr} {i2 : Int} {h : Heap} {Q : Bool → Heap → Prop} (hS : S_cell_Row_file_File_is B p1 i2 h Q) : C_cell_Row_file_File_is B p1 i2 h Q := by
 unfold S_cell_Row_file_File_is at hS
 unfold C_cell_Row_file_File_is
 refine Spec.of_run Try.func120 (N := 20) (rs := [ResultVar.tmp 4]) rfl rfl rfl (Nat.le_of_ble_eq_true rfl) ?_
 refine Run.seq ?_
 refine Run.ops0 (idx := [0]) rfl ?_
 refine Run.go rfl rfl rfl (sem_assign ((Value.bool false)) rfl ?_)
 refine Run.region_end ?_
 refine Run.seq ?_
 refine Run.ops0 (idx := [0, 1, 2, 3, 4, 5, 6, 7, 8, 9, 10, 11, 12, 13, 14, 15]) rfl ?_
 refine Run.go rfl rfl rfl (sem_move ((Value.pointer p1)) rfl ?_)
 obtain ⟨hT, hF⟩ := hS
 by_cases hb4 : p1 = none
 ·have hS := hT hb4; clear hT hF
  refine Run.go rfl rfl rfl (sem_ptrNilT p1 (.inr rfl) false rfl rfl TF.ptr_110 hb4 rfl ?_)
  refine Run.go rfl rfl rfl (sem_move ((Value.bool false)) rfl ?_)
  refine Run.no rfl rfl rfl ?_
  refine Run.no rfl rfl rfl ?_
  refine Run.go rfl rfl rfl (sem_pick false ((Value.bool false)) rfl rfl ?_)
  refine Run.go rfl rfl rfl (sem_move ((Value.bool false)) rfl ?_)
  refine Run.no rfl rfl rfl ?_
  refine Run.no rfl rfl rfl ?_
  refine Run.no rfl rfl rfl ?_
  refine Run.no rfl rfl rfl ?_
  refine Run.no rfl rfl rfl ?_
  refine Run.no rfl rfl rfl ?_
  refine Run.no rfl rfl rfl ?_
  refine Run.go rfl rfl rfl (sem_pick false ((Value.bool false)) rfl rfl ?_)
  refine Run.go rfl rfl rfl (sem_assign ((Value.bool false)) rfl ?_)
  refine Run.region_end ?_
  refine Run.ret ⟨.inr rfl, ?_⟩
  exact hS.imp fun h' hq => ⟨(false), rfl, hq⟩
 ·have hS := hF hb4; clear hT hF
  refine Run.go rfl rfl rfl (sem_ptrNilF p1 (.inr rfl) true rfl rfl TF.ptr_110 hb4 rfl ?_)
  refine Run.go rfl rfl rfl (sem_move ((Value.bool true)) rfl ?_)
  refine Run.go rfl rfl rfl (sem_move ((Value.int .i64 (i2))) rfl ?_)
  obtain ⟨hT, hF⟩ := hS
  by_cases hb5 : (i2 : Int) ≥ (0)
  ·have hS := hT hb5; clear hT hF
   refine Run.go rfl rfl rfl (sem_binI .i64 (i2) (0) (.bool true) rfl rfl (binI_geq_t hb5) ?_)
   refine Run.go rfl rfl rfl (sem_pick true ((Value.bool true)) rfl rfl ?_)
   refine Run.go rfl rfl rfl (sem_move ((Value.bool true)) rfl ?_)
   refine Run.go rfl rfl rfl (sem_move ((Value.int .i64 (i2))) rfl ?_)
   refine Run.go rfl rfl rfl (sem_move ((Value.pointer p1)) rfl ?_)
   obtain ⟨A6, e7, hS⟩ := hS
   refine Run.go rfl rfl rfl (sem_nilCheck A6 (congrArg Value.pointer e7) ?_)
   refine Run.go rfl rfl rfl (sem_fieldAddr A6 0 rfl TF.fld_168_0 ?_)
   refine Run.ldSl hS fun a8 n9 c10 h11 hl hS => ?_
   refine Run.go rfl rfl rfl (sem_load1 A6 ((Value.slice a8 n9 c10)) rfl TF.agg_166 hl ?_)
   refine Run.go rfl rfl rfl (sem_lenSl a8 n9 c10 rfl TF.sl_166 ?_)
   refine Run.go rfl rfl rfl (sem_binI .i64 (i2) ((n9 : Nat)) ((Value.bool (decide ((i2 : Int) < ((n9 : Nat)))))) rfl rfl rfl ?_)
   refine Run.go rfl rfl rfl (sem_pick true ((Value.bool (decide ((i2 : Int) < ((n9 : Nat)))))) rfl rfl ?_)
   refine Run.go rfl rfl rfl (sem_assign ((Value.bool (decide ((i2 : Int) < ((n9 : Nat)))))) rfl ?_)
   refine Run.region_end ?_
   refine Run.ret ⟨.inr rfl, ?_⟩
   exact hS.imp fun h' hq => ⟨((decide ((i2 : Int) < ((n9 : Nat))))), rfl, hq⟩
  ·have hS := hF hb5; clear hT hF
   refine Run.go rfl rfl rfl (sem_binI .i64 (i2) (0) (.bool false) rfl rfl (binI_geq_f hb5) ?_)
   refine Run.go rfl rfl rfl (sem_pick true ((Value.bool false)) rfl rfl ?_)
   refine Run.go rfl rfl rfl (sem_move ((Value.bool false)) rfl ?_)
   refine Run.no rfl rfl rfl ?_
   refine Run.no rfl rfl rfl ?_
   refine Run.no rfl rfl rfl ?_
   refine Run.no rfl rfl rfl ?_
   refine Run.no rfl rfl rfl ?_
   refine Run.no rfl rfl rfl ?_
   refine Run.no rfl rfl rfl ?_
   refine Run.go rfl rfl rfl (sem_pick false ((Value.bool false)) rfl rfl ?_)
   refine Run.go rfl rfl rfl (sem_assign ((Value.bool false)) rfl ?_)
   refine Run.region_end ?_
   refine Run.ret ⟨.inr rfl, ?_⟩
   exact hS.imp fun h' hq => ⟨(false), rfl, hq⟩
set_option maxHeartbeats 4000000 in
theorem C_tome_Tome_All_1.of {B : RO} {v1 : Value} {A2 : Addr} {h : Heap} {Q : Heap → Prop} (hS : S_tome_Tome_All_1 B v1 A2 h Q) : C_tome_Tome_All_1 B v1 A2 h Q := by
 unfold S_tome_Tome_All_1 at hS
 unfold C_tome_Tome_All_1
 refine Spec.of_run Try.func121 (N := 23) (rs := []) rfl rfl rfl (Nat.le_of_ble_eq_true rfl) ?_
 refine Run.seq ?_
 refine Run.ops0 (idx := [0]) rfl ?_
 obtain ⟨hone, hS⟩ := hS
 refine Run.go rfl rfl rfl (sem_box1N (v1) rfl hone (fun k3 hb1 hb2 h4 hb3 => ?_))
 have hS := hS k3 hb1 hb2 h4 hb3
 refine Run.region_end ?_
 refine Run.seq ?_
 refine Run.seq ?_
 refine Run.ops0 (idx := [0, 1]) rfl ?_
 obtain ⟨p5, hl, hS⟩ := hS
 refine Run.go rfl rfl rfl (sem_load1 A2 ((Value.pointer p5)) rfl TF.agg_25 hl ?_)
 obtain ⟨hT, hF⟩ := hS
 by_cases hb6 : p5 = none
 ·have hS := hT hb6; clear hT hF
  refine Run.go rfl rfl rfl (sem_ptrNilT p5 (.inl rfl) true rfl rfl TF.ptr_25 hb6 rfl ?_)
  refine Run.region_end ?_
  refine Run.condT rfl ?_
  refine Run.ret ⟨.inr rfl, ?_⟩
  exact hS.imp fun h' hq => ⟨rfl, hq⟩
 ·have hS := hF hb6; clear hT hF
  refine Run.go rfl rfl rfl (sem_ptrNilF p5 (.inl rfl) false rfl rfl TF.ptr_25 hb6 rfl ?_)
  refine Run.region_end ?_
  refine Run.condF rfl ?_
  refine Run.skip ?_
  refine Run.seq ?_
  refine Run.ops0 (idx := [0, 1, 2, 3, 4]) rfl ?_
  obtain ⟨p7, hl, hS⟩ := hS
  refine Run.go rfl rfl rfl (sem_load1 A2 ((Value.pointer p7)) rfl TF.agg_25 hl ?_)
  obtain ⟨A8, e9, hS⟩ := hS
  refine Run.go rfl rfl rfl (sem_nilCheck A8 (congrArg Value.pointer e9) ?_)
  refine Run.go rfl rfl rfl (sem_fieldAddr A8 0 rfl TF.fld_113_0 ?_)
  obtain ⟨p10, hl, hS⟩ := hS
  refine Run.go rfl rfl rfl (sem_load1 A8 ((Value.pointer p10)) rfl TF.agg_110 hl ?_)
  refine Run.go rfl rfl rfl (sem_callL [(Value.pointer p10)] (TF.goes_122) rfl rfl (Spec.mono hS fun v12 h11 hv => ?_))
  obtain ⟨_, rfl, hS⟩ := hv
  refine Run.region_end ?_
  refine Run.block ?_
  obtain ⟨xs20, G16, J19, hit, hins, hG, h0, hS, hR⟩ := hS
  refine Run.of_fin (h0.imp fun h' h0 => ?_)
  refine Run.range (v12) (xs20.map (fun x : Int × Bool × ByteArray => [(Value.int .i64 (x.1)), (Value.agg #[(Value.bool x.2.1), (Value.string x.2.2)])])) G16 J19 rfl hit hins hG h0 rfl (fun a ha => by obtain ⟨x, _, rfl⟩ := List.mem_map.1 ha; rfl) ?_ ?_
  ·rintro q18 args h17 ha hJ
   obtain ⟨⟨i13, b14, s15⟩, hx, rfl⟩ := Option.map_eq_some_iff.1 ((List.getElem?_map ..).symm.trans ha)
   have hS := hS q18 h17 i13 b14 s15 hx hJ; clear hJ hx ha
   refine Run.seq ?_
   refine Run.ops0 (idx := [0]) rfl ?_
   refine Run.go rfl rfl rfl (sem_assign ((Value.int .i64 (i13))) rfl ?_)
   refine Run.region_end ?_
   refine Run.ops0 (idx := [0, 1]) rfl ?_
   refine Run.go rfl rfl rfl (sem_allocN [(Value.bool false), (Value.string ByteArray.empty)] TF.zero_41 (fun k21 hb1 hb2 h22 hb3 => ?_))
   have hS := hS k21 hb1 hb2 h22 hb3
   obtain ⟨h23, hst, hS⟩ := hS
   refine Run.go rfl rfl rfl (sem_storeN ⟨k21, 0, none⟩ [(Value.bool b14), (Value.string s15)] h23 rfl rfl TF.sz_41 hst ?_)
   refine Run.region_end ?_
   refine Run.begin ⟨rfl, ?_⟩
   refine Run.block ?_
   refine Run.seq ?_
   refine Run.ops0 (idx := [0, 1, 2, 3, 4, 5, 6, 7, 8]) rfl ?_
   refine Run.go rfl rfl rfl (sem_fieldAddr ⟨k21, 0, none⟩ 0 rfl TF.fld_41_0 ?_)
   obtain ⟨b24, hl, hS⟩ := hS
   obtain ⟨hT, hF⟩ := hS
   cases b24
   ·have hS := hF rfl; clear hT hF
    refine Run.go rfl rfl rfl (sem_load1 ⟨k21, 0, none⟩ (.bool false) rfl TF.agg_4 hl ?_)
    refine Run.go rfl rfl rfl (sem_move ((Value.bool false)) rfl ?_)
    refine Run.no rfl rfl rfl ?_
    refine Run.no rfl rfl rfl ?_
    refine Run.no rfl rfl rfl ?_
    refine Run.no rfl rfl rfl ?_
    refine Run.no rfl rfl rfl ?_
    refine Run.go rfl rfl rfl (sem_pick false ((Value.bool false)) rfl rfl ?_)
    refine Run.region_end ?_
    refine Run.condF rfl ?_
    refine Run.skip ?_
    refine Run.inBlock ?_
    refine Run.of_fin (hS.imp fun h' hS => ?_)
    exact Run.fall (.inl ⟨rfl, hS⟩)
   ·have hS := hT rfl; clear hT hF
    refine Run.go rfl rfl rfl (sem_load1 ⟨k21, 0, none⟩ (.bool true) rfl TF.agg_4 hl ?_)
    refine Run.go rfl rfl rfl (sem_move ((Value.bool true)) rfl ?_)
    obtain ⟨v25, hl, hS⟩ := hS
    refine Run.go rfl rfl rfl (sem_load1 ⟨k3, 0, none⟩ (v25) rfl TF.agg_157 hl ?_)
    refine Run.go rfl rfl rfl (sem_move ((Value.int .i64 (i13))) rfl ?_)
    obtain ⟨b26, s27, hl, hS⟩ := hS
    refine Run.go rfl rfl rfl (sem_loadN ⟨k21, 0, none⟩ [(Value.bool b26), (Value.string s27)] rfl TF.agg_41 TF.sz_41 hl ?_)
    refine Run.go rfl rfl rfl (sem_callV (v25) [(Value.int .i64 (i13)), (Value.agg #[(Value.bool b26), (Value.string s27)])] rfl rfl hS (fun nx h' ha => ha.mono fun v h28 hv => ?_))
    obtain ⟨b29, rfl, hS⟩ := hv
    obtain ⟨hT, hF⟩ := hS
    cases b29
    ·have hS := hF rfl; clear hT hF
     refine Run.go rfl rfl rfl (sem_not false rfl ?_)
     refine Run.go rfl rfl rfl (sem_pick true ((Value.bool true)) rfl rfl ?_)
     refine Run.region_end ?_
     refine Run.condT rfl ?_
     refine Run.ret (.inr ⟨_, rfl, ?_⟩)
     refine Run.ret ⟨.inr rfl, ?_⟩
     exact hS.imp fun h' hq => ⟨rfl, hq⟩
    ·have hS := hT rfl; clear hT hF
     refine Run.go rfl rfl rfl (sem_not true rfl ?_)
     refine Run.go rfl rfl rfl (sem_pick true ((Value.bool false)) rfl rfl ?_)
     refine Run.region_end ?_
     refine Run.condF rfl ?_
     refine Run.skip ?_
     refine Run.inBlock ?_
     refine Run.of_fin (hS.imp fun h' hS => ?_)
     exact Run.fall (.inl ⟨rfl, hS⟩)
  ·intro h17 hJ
   have hS := hR h17 (by simpa using hJ); clear hJ hR
   refine Run.inBlock ?_
   refine Run.fall ⟨.inl rfl, ?_⟩
   exact hS.imp fun h' hq => ⟨rfl, hq⟩
set_option maxHeartbeats 4000000 in
theorem C_cell_Row_file_File_All.of {B : RO} {p1 : Option Addr} {h : Heap} {Q : Value → Heap → Prop} (hS : S_cell_Row_file_File_All B p1 h Q) : C_cell_Row_file_File_All B p1 h Q := by
 unfold S_cell_Row_file_File_All at hS
 unfold C_cell_Row_file_File_All
 refine Spec.of_run Try.func122 (N := 4) (rs := [ResultVar.tmp 2]) rfl rfl rfl (Nat.le_of_ble_eq_true rfl) ?_
 refine Run.seq ?_
 refine Run.ops0 (idx := [0, 1]) rfl ?_
 refine Run.go rfl rfl rfl (sem_box1N ((Value.pointer p1)) rfl rfl (fun k3 hb1 hb2 h4 hb3 => ?_))
 have hS := hS k3 hb1 hb2 h4 hb3
 refine Run.go rfl rfl rfl (sem_assign (Value.nilFunc) rfl ?_)
 refine Run.region_end ?_
 refine Run.seq ?_
 refine Run.ops0 (idx := [0, 1]) rfl ?_
 refine Run.go rfl rfl rfl (sem_makeFuncL [] [(Value.pointer (some ⟨k3, 0, none⟩))] rfl rfl ?_)
 refine Run.go rfl rfl rfl (sem_assign ((Value.func (.func 139) #[] #[(Value.pointer (some ⟨k3, 0, none⟩))])) rfl ?_)
 refine Run.region_end ?_
 refine Run.ret ⟨.inr rfl, ?_⟩
 exact hS.imp fun h' hq => ⟨(Value.func (.func 139) #[] #[(Value.pointer (some ⟨k3, 0, none⟩))]), rfl, hq⟩
set_option maxHeartbeats 4000000 in
theorem C_slices_Insert_s_draft_entry_file_File_draft_entry_file_File.of {B : RO} {a1 : Option Addr} {n2 : Nat} {c3 : Nat} {i4 : Int} {a5 : Option Addr} {n6 : Nat} {c7 : Nat} {h : Heap} {Q : Option Addr → Nat → Nat → Heap → Prop} (hS : S_slices_Insert_s_draft_entry_file_File_draft_entry_file_File B a1 n2 c3 i4 a5 n6 c7 h Q) : C_slices_Insert_s_draft_entry_file_File_draft_entry_file_File B a1 n2 c3 i4 a5 n6 c7 h Q := by
 unfold S_slices_Insert_s_draft_entry_file_File_draft_entry_file_File at hS
 unfold C_slices_Insert_s_draft_entry_file_File_draft_entry_file_File
 refine Spec.of_run Try.func125 (N := 95) (rs := [ResultVar.tmp 6]) rfl rfl rfl (Nat.le_of_ble_eq_true rfl) ?_
 refine Run.seq ?_
 refine Run.ops0 (idx := [0]) rfl ?_
 refine Run.go rfl rfl rfl (sem_assign ((Value.slice none 0 0)) rfl ?_)
 refine Run.region_end ?_
 refine Run.seq ?_
 refine Run.ops0 (idx := [0, 1, 2]) rfl ?_
 refine Run.go rfl rfl rfl (sem_move ((Value.slice a1 n2 c3)) rfl ?_)
 refine Run.go rfl rfl rfl (sem_move ((Value.int .i64 (i4))) rfl ?_)
 obtain ⟨hi0, hi1, hi2, hS⟩ := hS
 refine Run.go rfl rfl rfl (sem_sliceSlI a1 n2 c3 (i4) ((n2 : Nat)) rfl TF.slc_158 ⟨_, rfl⟩ rfl hi0 hi1 hi2 ?_)
 refine Run.region_end ?_
 refine Run.seq ?_
 refine Run.ops0 (idx := [0, 1, 2]) rfl ?_
 refine Run.go rfl rfl rfl (sem_move ((Value.slice a5 n6 c7)) rfl ?_)
 refine Run.go rfl rfl rfl (sem_lenSl a5 n6 c7 rfl TF.sl_158 ?_)
 refine Run.go rfl rfl rfl (sem_assign ((Value.int .i64 ((n6 : Nat)))) rfl ?_)
 refine Run.region_end ?_
 refine Run.seq ?_
 refine Run.seq ?_
 refine Run.ops0 (idx := [0, 1]) rfl ?_
 refine Run.go rfl rfl rfl (sem_move ((Value.int .i64 ((n6 : Nat)))) rfl ?_)
 obtain ⟨hT, hF⟩ := hS
 by_cases hb11 : ((n6 : Nat) : Int) = 0
 ·have hS := hT hb11; clear hT hF
  refine Run.go rfl rfl rfl (sem_binI .i64 ((n6 : Nat)) (0) (.bool true) rfl rfl (binI_eql_t hb11) ?_)
  refine Run.region_end ?_
  refine Run.condT rfl ?_
  refine Run.seq ?_
  refine Run.ops0 (idx := [0, 1]) rfl ?_
  refine Run.go rfl rfl rfl (sem_move ((Value.slice a1 n2 c3)) rfl ?_)
  refine Run.go rfl rfl rfl (sem_assign ((Value.slice a1 n2 c3)) rfl ?_)
  refine Run.region_end ?_
  refine Run.ret ⟨.inr rfl, ?_⟩
  exact hS.imp fun h' hq => ⟨a1, n2, c3, rfl, hq⟩
 ·have hS := hF hb11; clear hT hF
  refine Run.go rfl rfl rfl (sem_binI .i64 ((n6 : Nat)) (0) (.bool false) rfl rfl (binI_eql_f hb11) ?_)
  refine Run.region_end ?_
  refine Run.condF rfl ?_
  refine Run.skip ?_
  refine Run.seq ?_
  refine Run.ops0 (idx := [0, 1, 2]) rfl ?_
  refine Run.go rfl rfl rfl (sem_move ((Value.slice a1 n2 c3)) rfl ?_)
  refine Run.go rfl rfl rfl (sem_lenSl a1 n2 c3 rfl TF.sl_158 ?_)
  refine Run.go rfl rfl rfl (sem_assign ((Value.int .i64 ((n2 : Nat)))) rfl ?_)
  refine Run.region_end ?_
  refine Run.seq ?_
  refine Run.seq ?_
  refine Run.ops0 (idx := [0, 1, 2]) rfl ?_
  refine Run.go rfl rfl rfl (sem_move ((Value.int .i64 (i4))) rfl ?_)
  refine Run.go rfl rfl rfl (sem_move ((Value.int .i64 ((n2 : Nat)))) rfl ?_)
  obtain ⟨hT, hF⟩ := hS
  by_cases hb12 : (i4 : Int) = (n2 : Nat)
  ·have hS := hT hb12; clear hT hF
   refine Run.go rfl rfl rfl (sem_binI .i64 (i4) ((n2 : Nat)) (.bool true) rfl rfl (binI_eql_t hb12) ?_)
   refine Run.region_end ?_
   refine Run.condT rfl ?_
   refine Run.seq ?_
   refine Run.ops0 (idx := [0, 1, 2, 3]) rfl ?_
   refine Run.go rfl rfl rfl (sem_move ((Value.slice a1 n2 c3)) rfl ?_)
   refine Run.go rfl rfl rfl (sem_move ((Value.slice a5 n6 c7)) rfl ?_)
   refine Run.go rfl rfl rfl (sem_appendL [(Value.slice a1 n2 c3), (Value.slice a5 n6 c7)] rfl (semH_mono (fun v h13 hv => ?_) hS))
   obtain ⟨a14, n15, c16, rfl, hS⟩ := hv
   refine Run.go rfl rfl rfl (sem_assign ((Value.slice a14 n15 c16)) rfl ?_)
   refine Run.region_end ?_
   refine Run.ret ⟨.inr rfl, ?_⟩
   exact hS.imp fun h' hq => ⟨a14, n15, c16, rfl, hq⟩
  ·have hS := hF hb12; clear hT hF
   refine Run.go rfl rfl rfl (sem_binI .i64 (i4) ((n2 : Nat)) (.bool false) rfl rfl (binI_eql_f hb12) ?_)
   refine Run.region_end ?_
   refine Run.condF rfl ?_
   refine Run.skip ?_
   refine Run.seq ?_
   refine Run.seq ?_
   refine Run.ops0 (idx := [0, 1, 2, 3, 4, 5]) rfl ?_
   refine Run.go rfl rfl rfl (sem_move ((Value.int .i64 ((n2 : Nat)))) rfl ?_)
   refine Run.go rfl rfl rfl (sem_move ((Value.int .i64 ((n6 : Nat)))) rfl ?_)
   refine Run.go rfl rfl rfl (sem_binI .i64 ((n2 : Nat)) ((n6 : Nat)) ((Value.int .i64 (IntKind.wrap .i64 (((n2 : Nat)) + ((n6 : Nat)))))) rfl rfl rfl ?_)
   refine Run.go rfl rfl rfl (sem_move ((Value.slice a1 n2 c3)) rfl ?_)
   refine Run.go rfl rfl rfl (sem_capSl a1 (n2) (c3) rfl TF.sl_158 ?_)
   obtain ⟨hT, hF⟩ := hS
   by_cases hb17 : (IntKind.wrap .i64 (((n2 : Nat)) + ((n6 : Nat))) : Int) > ((c3 : Nat))
   ·have hS := hT hb17; clear hT hF
    refine Run.go rfl rfl rfl (sem_binI .i64 (IntKind.wrap .i64 (((n2 : Nat)) + ((n6 : Nat)))) ((c3 : Nat)) (.bool true) rfl rfl (binI_gtr_t hb17) ?_)
    refine Run.region_end ?_
    refine Run.condT rfl ?_
    refine Run.seq ?_
    refine Run.ops0 (idx := [0, 1, 2, 3, 4, 5, 6, 7, 8, 9]) rfl ?_
    refine Run.go rfl rfl rfl (sem_move ((Value.slice a1 n2 c3)) rfl ?_)
    refine Run.go rfl rfl rfl (sem_move ((Value.int .i64 (i4))) rfl ?_)
    obtain ⟨hi0, hi1, hi2, hS⟩ := hS
    refine Run.go rfl rfl rfl (sem_sliceSlI a1 n2 c3 (0) (i4) rfl TF.slc_158 rfl ⟨_, rfl⟩ hi0 hi1 hi2 ?_)
    refine Run.go rfl rfl rfl (sem_move ((Value.int .i64 ((n2 : Nat)))) rfl ?_)
    refine Run.go rfl rfl rfl (sem_move ((Value.int .i64 ((n6 : Nat)))) rfl ?_)
    refine Run.go rfl rfl rfl (sem_binI .i64 ((n2 : Nat)) ((n6 : Nat)) ((Value.int .i64 (IntKind.wrap .i64 (((n2 : Nat)) + ((n6 : Nat)))))) rfl rfl rfl ?_)
    refine Run.go rfl rfl rfl (sem_move ((Value.int .i64 (i4))) rfl ?_)
    refine Run.go rfl rfl rfl (sem_binI .i64 (IntKind.wrap .i64 (((n2 : Nat)) + ((n6 : Nat)))) (i4) ((Value.int .i64 (IntKind.wrap .i64 ((IntKind.wrap .i64 (((n2 : Nat)) + ((n6 : Nat)))) - (i4))))) rfl rfl rfl ?_)
    refine Run.go rfl rfl rfl (sem_appendL [(Value.slice (if c3 = Int.toNat (0) then a1 else Option.map (·.add (Int.toNat (0) * 3)) a1) (Int.toNat (i4) - Int.toNat (0)) (c3 - Int.toNat (0))), (Value.int .i64 (IntKind.wrap .i64 ((IntKind.wrap .i64 (((n2 : Nat)) + ((n6 : Nat)))) - (i4))))] rfl (semH_mono (fun v h18 hv => ?_) hS))
    obtain ⟨a19, n20, c21, rfl, hS⟩ := hv
    refine Run.go rfl rfl rfl (sem_assign ((Value.slice a19 n20 c21)) rfl ?_)
    refine Run.region_end ?_
    refine Run.seq ?_
    refine Run.ops0 (idx := [0, 1, 2, 3, 4]) rfl ?_
    refine Run.go rfl rfl rfl (sem_move ((Value.slice a19 n20 c21)) rfl ?_)
    refine Run.go rfl rfl rfl (sem_move ((Value.int .i64 (i4))) rfl ?_)
    obtain ⟨hi0, hi1, hi2, hS⟩ := hS
    refine Run.go rfl rfl rfl (sem_sliceSlI a19 n20 c21 (i4) ((n20 : Nat)) rfl TF.slc_158 ⟨_, rfl⟩ rfl hi0 hi1 hi2 ?_)
    refine Run.go rfl rfl rfl (sem_move ((Value.slice a5 n6 c7)) rfl ?_)
    refine Run.go rfl rfl rfl (sem_copyL [(Value.slice (if c21 = Int.toNat (i4) then a19 else Option.map (·.add (Int.toNat (i4) * 3)) a19) (Int.toNat ((n20 : Nat)) - Int.toNat (i4)) (c21 - Int.toNat (i4))), (Value.slice a5 n6 c7)] rfl (semH_mono (fun v h22 hv => ?_) hS))
    obtain ⟨i23, rfl, hS⟩ := hv
    refine Run.region_end ?_
    refine Run.seq ?_
    refine Run.drawM (fun h' => h' = h22) [8] ⟨[0, 0, 0, 6, 9, 0, 0, 96, 144], [511, 511, 511, 505, 502, 511, 511, 415, 367], [0, 0, 0, 6, 15, 0, 0, 96, 255], 256⟩ (.q 0 (.q 1 (.q 2 (.q 3 (.q 4 (.q 5 (.q 6 (.q 7 (.x 8 .nil .no))))))))) TF.mixed (by kernel_rfl) rfl ?_
    refine RunT.quiet rfl rfl rfl (quiet_eq (sem_move ((Value.slice a19 n20 c21)) rfl ⟨rfl, rfl⟩)) ?_
    refine RunT.quiet rfl rfl rfl (quiet_eq (sem_move ((Value.int .i64 (i4))) rfl ⟨rfl, rfl⟩)) ?_
    refine RunT.quiet rfl rfl rfl (quiet_eq (sem_move ((Value.int .i64 ((n6 : Nat)))) rfl ⟨rfl, rfl⟩)) ?_
    refine RunT.quiet rfl rfl rfl (quiet_eq (sem_binI .i64 (i4) ((n6 : Nat)) ((Value.int .i64 (IntKind.wrap .i64 ((i4) + ((n6 : Nat)))))) rfl rfl rfl ⟨rfl, rfl⟩)) ?_
    obtain ⟨hi0, hi1, hi2, hS⟩ := hS
    refine RunT.quiet rfl rfl rfl (quiet_eq (sem_sliceSlI a19 n20 c21 (IntKind.wrap .i64 ((i4) + ((n6 : Nat)))) ((n20 : Nat)) rfl TF.slc_158 ⟨_, rfl⟩ rfl hi0 hi1 hi2 ⟨rfl, rfl⟩)) ?_
    refine RunT.quiet rfl rfl rfl (quiet_eq (sem_move ((Value.slice a1 n2 c3)) rfl ⟨rfl, rfl⟩)) ?_
    refine RunT.quiet rfl rfl rfl (quiet_eq (sem_move ((Value.int .i64 (i4))) rfl ⟨rfl, rfl⟩)) ?_
    obtain ⟨hi0, hi1, hi2, hS⟩ := hS
    refine RunT.quiet rfl rfl rfl (quiet_eq (sem_sliceSlI a1 n2 c3 (i4) ((n2 : Nat)) rfl TF.slc_158 ⟨_, rfl⟩ rfl hi0 hi1 hi2 ⟨rfl, rfl⟩)) ?_
    refine ⟨?_, trivial⟩
    refine OpH.go rfl rfl rfl (sem_copyL [(Value.slice (if c21 = Int.toNat (IntKind.wrap .i64 ((i4) + ((n6 : Nat)))) then a19 else Option.map (·.add (Int.toNat (IntKind.wrap .i64 ((i4) + ((n6 : Nat)))) * 3)) a19) (Int.toNat ((n20 : Nat)) - Int.toNat (IntKind.wrap .i64 ((i4) + ((n6 : Nat))))) (c21 - Int.toNat (IntKind.wrap .i64 ((i4) + ((n6 : Nat)))))), (Value.slice (if c3 = Int.toNat (i4) then a1 else Option.map (·.add (Int.toNat (i4) * 3)) a1) (Int.toNat ((n2 : Nat)) - Int.toNat (i4)) (c3 - Int.toNat (i4)))] rfl (semH_mono (fun v h24 hv => ?_) hS))
    obtain ⟨i25, rfl, hS⟩ := hv
    refine ⟨fun hz => Bool.noConfusion hz, ?_⟩
    refine Run.seq ?_
    refine Run.ops0 (idx := [0, 1]) rfl ?_
    refine Run.go rfl rfl rfl (sem_move ((Value.slice a19 n20 c21)) rfl ?_)
    refine Run.go rfl rfl rfl (sem_assign ((Value.slice a19 n20 c21)) rfl ?_)
    refine Run.region_end ?_
    refine Run.ret ⟨.inr rfl, ?_⟩
    exact hS.imp fun h' hq => ⟨a19, n20, c21, rfl, hq⟩
   ·have hS := hF hb17; clear hT hF
    refine Run.go rfl rfl rfl (sem_binI .i64 (IntKind.wrap .i64 (((n2 : Nat)) + ((n6 : Nat)))) ((c3 : Nat)) (.bool false) rfl rfl (binI_gtr_f hb17) ?_)
    refine Run.region_end ?_
    refine Run.condF rfl ?_
    refine Run.skip ?_
    refine Run.seq ?_
    refine Run.ops0 (idx := [0, 1, 2, 3, 4, 5]) rfl ?_
    refine Run.go rfl rfl rfl (sem_move ((Value.slice a1 n2 c3)) rfl ?_)
    refine Run.go rfl rfl rfl (sem_move ((Value.int .i64 ((n2 : Nat)))) rfl ?_)
    refine Run.go rfl rfl rfl (sem_move ((Value.int .i64 ((n6 : Nat)))) rfl ?_)
    refine Run.go rfl rfl rfl (sem_binI .i64 ((n2 : Nat)) ((n6 : Nat)) ((Value.int .i64 (IntKind.wrap .i64 (((n2 : Nat)) + ((n6 : Nat)))))) rfl rfl rfl ?_)
    obtain ⟨hi0, hi1, hi2, hS⟩ := hS
    refine Run.go rfl rfl rfl (sem_sliceSlI a1 n2 c3 (0) (IntKind.wrap .i64 (((n2 : Nat)) + ((n6 : Nat)))) rfl TF.slc_158 rfl ⟨_, rfl⟩ hi0 hi1 hi2 ?_)
    refine Run.go rfl rfl rfl (sem_assign ((Value.slice (if c3 = Int.toNat (0) then a1 else Option.map (·.add (Int.toNat (0) * 3)) a1) (Int.toNat (IntKind.wrap .i64 (((n2 : Nat)) + ((n6 : Nat)))) - Int.toNat (0)) (c3 - Int.toNat (0)))) rfl ?_)
    refine Run.region_end ?_
    refine Run.seq ?_
    refine Run.seq ?_
    refine Run.ops0 (idx := [0, 1, 2, 3, 4, 5, 6, 7]) rfl ?_
    refine Run.go rfl rfl rfl (sem_move ((Value.slice a5 n6 c7)) rfl ?_)
    refine Run.go rfl rfl rfl (sem_move ((Value.slice (if c3 = Int.toNat (0) then a1 else Option.map (·.add (Int.toNat (0) * 3)) a1) (Int.toNat (IntKind.wrap .i64 (((n2 : Nat)) + ((n6 : Nat)))) - Int.toNat (0)) (c3 - Int.toNat (0)))) rfl ?_)
    refine Run.go rfl rfl rfl (sem_move ((Value.int .i64 (i4))) rfl ?_)
    refine Run.go rfl rfl rfl (sem_move ((Value.int .i64 ((n6 : Nat)))) rfl ?_)
    refine Run.go rfl rfl rfl (sem_binI .i64 (i4) ((n6 : Nat)) ((Value.int .i64 (IntKind.wrap .i64 ((i4) + ((n6 : Nat)))))) rfl rfl rfl ?_)
    obtain ⟨hi0, hi1, hi2, hS⟩ := hS
    refine Run.go rfl rfl rfl (sem_sliceSlI (if c3 = Int.toNat (0) then a1 else Option.map (·.add (Int.toNat (0) * 3)) a1) (Int.toNat (IntKind.wrap .i64 (((n2 : Nat)) + ((n6 : Nat)))) - Int.toNat (0)) (c3 - Int.toNat (0)) (IntKind.wrap .i64 ((i4) + ((n6 : Nat)))) (((Int.toNat (IntKind.wrap .i64 (((n2 : Nat)) + ((n6 : Nat)))) - Int.toNat (0)) : Nat)) rfl TF.slc_158 ⟨_, rfl⟩ rfl hi0 hi1 hi2 ?_)
    refine Run.go rfl rfl rfl (sem_callXL [(Value.slice a5 n6 c7), (Value.slice (if (c3 - Int.toNat (0)) = Int.toNat (IntKind.wrap .i64 ((i4) + ((n6 : Nat)))) then (if c3 = Int.toNat (0) then a1 else Option.map (·.add (Int.toNat (0) * 3)) a1) else Option.map (·.add (Int.toNat (IntKind.wrap .i64 ((i4) + ((n6 : Nat)))) * 3)) (if c3 = Int.toNat (0) then a1 else Option.map (·.add (Int.toNat (0) * 3)) a1)) (Int.toNat (((Int.toNat (IntKind.wrap .i64 (((n2 : Nat)) + ((n6 : Nat)))) - Int.toNat (0)) : Nat)) - Int.toNat (IntKind.wrap .i64 ((i4) + ((n6 : Nat))))) ((c3 - Int.toNat (0)) - Int.toNat (IntKind.wrap .i64 ((i4) + ((n6 : Nat))))))] (TF.goesx_147) rfl rfl (semH_mono (fun v h26 hv => ?_) hS))
    obtain ⟨b27, rfl, hS⟩ := hv
    obtain ⟨hT, hF⟩ := hS
    cases b27
    ·have hS := hF rfl; clear hT hF
     refine Run.go rfl rfl rfl (sem_not false rfl ?_)
     refine Run.region_end ?_
     refine Run.condT rfl ?_
     refine Run.seq ?_
     refine Run.drawM (fun h' => h' = h26) [8] ⟨[0, 0, 0, 6, 9, 0, 0, 96, 144], [511, 511, 511, 505, 502, 511, 511, 415, 367], [0, 0, 0, 6, 15, 0, 0, 96, 255], 256⟩ (.q 0 (.q 1 (.q 2 (.q 3 (.q 4 (.q 5 (.q 6 (.q 7 (.x 8 .nil .no))))))))) TF.mixed (by kernel_rfl) rfl ?_
     refine RunT.quiet rfl rfl rfl (quiet_eq (sem_move ((Value.slice (if c3 = Int.toNat (0) then a1 else Option.map (·.add (Int.toNat (0) * 3)) a1) (Int.toNat (IntKind.wrap .i64 (((n2 : Nat)) + ((n6 : Nat)))) - Int.toNat (0)) (c3 - Int.toNat (0)))) rfl ⟨rfl, rfl⟩)) ?_
     refine RunT.quiet rfl rfl rfl (quiet_eq (sem_move ((Value.int .i64 (i4))) rfl ⟨rfl, rfl⟩)) ?_
     refine RunT.quiet rfl rfl rfl (quiet_eq (sem_move ((Value.int .i64 ((n6 : Nat)))) rfl ⟨rfl, rfl⟩)) ?_
     refine RunT.quiet rfl rfl rfl (quiet_eq (sem_binI .i64 (i4) ((n6 : Nat)) ((Value.int .i64 (IntKind.wrap .i64 ((i4) + ((n6 : Nat)))))) rfl rfl rfl ⟨rfl, rfl⟩)) ?_
     obtain ⟨hi0, hi1, hi2, hS⟩ := hS
     refine RunT.quiet rfl rfl rfl (quiet_eq (sem_sliceSlI (if c3 = Int.toNat (0) then a1 else Option.map (·.add (Int.toNat (0) * 3)) a1) (Int.toNat (IntKind.wrap .i64 (((n2 : Nat)) + ((n6 : Nat)))) - Int.toNat (0)) (c3 - Int.toNat (0)) (IntKind.wrap .i64 ((i4) + ((n6 : Nat)))) (((Int.toNat (IntKind.wrap .i64 (((n2 : Nat)) + ((n6 : Nat)))) - Int.toNat (0)) : Nat)) rfl TF.slc_158 ⟨_, rfl⟩ rfl hi0 hi1 hi2 ⟨rfl, rfl⟩)) ?_
     refine RunT.quiet rfl rfl rfl (quiet_eq (sem_move ((Value.slice (if c3 = Int.toNat (0) then a1 else Option.map (·.add (Int.toNat (0) * 3)) a1) (Int.toNat (IntKind.wrap .i64 (((n2 : Nat)) + ((n6 : Nat)))) - Int.toNat (0)) (c3 - Int.toNat (0)))) rfl ⟨rfl, rfl⟩)) ?_
     refine RunT.quiet rfl rfl rfl (quiet_eq (sem_move ((Value.int .i64 (i4))) rfl ⟨rfl, rfl⟩)) ?_
     obtain ⟨hi0, hi1, hi2, hS⟩ := hS
     refine RunT.quiet rfl rfl rfl (quiet_eq (sem_sliceSlI (if c3 = Int.toNat (0) then a1 else Option.map (·.add (Int.toNat (0) * 3)) a1) (Int.toNat (IntKind.wrap .i64 (((n2 : Nat)) + ((n6 : Nat)))) - Int.toNat (0)) (c3 - Int.toNat (0)) (i4) (((Int.toNat (IntKind.wrap .i64 (((n2 : Nat)) + ((n6 : Nat)))) - Int.toNat (0)) : Nat)) rfl TF.slc_158 ⟨_, rfl⟩ rfl hi0 hi1 hi2 ⟨rfl, rfl⟩)) ?_
     refine ⟨?_, trivial⟩
     refine OpH.go rfl rfl rfl (sem_copyL [(Value.slice (if (c3 - Int.toNat (0)) = Int.toNat (IntKind.wrap .i64 ((i4) + ((n6 : Nat)))) then (if c3 = Int.toNat (0) then a1 else Option.map (·.add (Int.toNat (0) * 3)) a1) else Option.map (·.add (Int.toNat (IntKind.wrap .i64 ((i4) + ((n6 : Nat)))) * 3)) (if c3 = Int.toNat (0) then a1 else Option.map (·.add (Int.toNat (0) * 3)) a1)) (Int.toNat (((Int.toNat (IntKind.wrap .i64 (((n2 : Nat)) + ((n6 : Nat)))) - Int.toNat (0)) : Nat)) - Int.toNat (IntKind.wrap .i64 ((i4) + ((n6 : Nat))))) ((c3 - Int.toNat (0)) - Int.toNat (IntKind.wrap .i64 ((i4) + ((n6 : Nat)))))), (Value.slice (if (c3 - Int.toNat (0)) = Int.toNat (i4) then (if c3 = Int.toNat (0) then a1 else Option.map (·.add (Int.toNat (0) * 3)) a1) else Option.map (·.add (Int.toNat (i4) * 3)) (if c3 = Int.toNat (0) then a1 else Option.map (·.add (Int.toNat (0) * 3)) a1)) (Int.toNat (((Int.toNat (IntKind.wrap .i64 (((n2 : Nat)) + ((n6 : Nat)))) - Int.toNat (0)) : Nat)) - Int.toNat (i4)) ((c3 - Int.toNat (0)) - Int.toNat (i4)))] rfl (semH_mono (fun v h28 hv => ?_) hS))
     obtain ⟨i29, rfl, hS⟩ := hv
     refine ⟨fun hz => Bool.noConfusion hz, ?_⟩
     refine Run.seq ?_
     refine Run.ops0 (idx := [0, 1, 2, 3, 4]) rfl ?_
     refine Run.go rfl rfl rfl (sem_move ((Value.slice (if c3 = Int.toNat (0) then a1 else Option.map (·.add (Int.toNat (0) * 3)) a1) (Int.toNat (IntKind.wrap .i64 (((n2 : Nat)) + ((n6 : Nat)))) - Int.toNat (0)) (c3 - Int.toNat (0)))) rfl ?_)
     refine Run.go rfl rfl rfl (sem_move ((Value.int .i64 (i4))) rfl ?_)
     obtain ⟨hi0, hi1, hi2, hS⟩ := hS
     refine Run.go rfl rfl rfl (sem_sliceSlI (if c3 = Int.toNat (0) then a1 else Option.map (·.add (Int.toNat (0) * 3)) a1) (Int.toNat (IntKind.wrap .i64 (((n2 : Nat)) + ((n6 : Nat)))) - Int.toNat (0)) (c3 - Int.toNat (0)) (i4) (((Int.toNat (IntKind.wrap .i64 (((n2 : Nat)) + ((n6 : Nat)))) - Int.toNat (0)) : Nat)) rfl TF.slc_158 ⟨_, rfl⟩ rfl hi0 hi1 hi2 ?_)
     refine Run.go rfl rfl rfl (sem_move ((Value.slice a5 n6 c7)) rfl ?_)
     refine Run.go rfl rfl rfl (sem_copyL [(Value.slice (if (c3 - Int.toNat (0)) = Int.toNat (i4) then (if c3 = Int.toNat (0) then a1 else Option.map (·.add (Int.toNat (0) * 3)) a1) else Option.map (·.add (Int.toNat (i4) * 3)) (if c3 = Int.toNat (0) then a1 else Option.map (·.add (Int.toNat (0) * 3)) a1)) (Int.toNat (((Int.toNat (IntKind.wrap .i64 (((n2 : Nat)) + ((n6 : Nat)))) - Int.toNat (0)) : Nat)) - Int.toNat (i4)) ((c3 - Int.toNat (0)) - Int.toNat (i4))), (Value.slice a5 n6 c7)] rfl (semH_mono (fun v h30 hv => ?_) hS))
     obtain ⟨i31, rfl, hS⟩ := hv
     refine Run.region_end ?_
     refine Run.seq ?_
     refine Run.ops0 (idx := [0, 1]) rfl ?_
     refine Run.go rfl rfl rfl (sem_move ((Value.slice (if c3 = Int.toNat (0) then a1 else Option.map (·.add (Int.toNat (0) * 3)) a1) (Int.toNat (IntKind.wrap .i64 (((n2 : Nat)) + ((n6 : Nat)))) - Int.toNat (0)) (c3 - Int.toNat (0)))) rfl ?_)
     refine Run.go rfl rfl rfl (sem_assign ((Value.slice (if c3 = Int.toNat (0) then a1 else Option.map (·.add (Int.toNat (0) * 3)) a1) (Int.toNat (IntKind.wrap .i64 (((n2 : Nat)) + ((n6 : Nat)))) - Int.toNat (0)) (c3 - Int.toNat (0)))) rfl ?_)
     refine Run.region_end ?_
     refine Run.ret ⟨.inr rfl, ?_⟩
     exact hS.imp fun h' hq => ⟨(if c3 = Int.toNat (0) then a1 else Option.map (·.add (Int.toNat (0) * 3)) a1), (Int.toNat (IntKind.wrap .i64 (((n2 : Nat)) + ((n6 : Nat)))) - Int.toNat (0)), (c3 - Int.toNat (0)), rfl, hq⟩
    ·have hS := hT rfl; clear hT hF
     refine Run.go rfl rfl rfl (sem_not true rfl ?_)
     refine Run.region_end ?_
     refine Run.condF rfl ?_
     refine Run.skip ?_
     refine Run.seq ?_
     refine Run.ops0 (idx := [0, 1, 2, 3, 4]) rfl ?_
     refine Run.go rfl rfl rfl (sem_move ((Value.slice (if c3 = Int.toNat (0) then a1 else Option.map (·.add (Int.toNat (0) * 3)) a1) (Int.toNat (IntKind.wrap .i64 (((n2 : Nat)) + ((n6 : Nat)))) - Int.toNat (0)) (c3 - Int.toNat (0)))) rfl ?_)
     refine Run.go rfl rfl rfl (sem_move ((Value.int .i64 ((n2 : Nat)))) rfl ?_)
     obtain ⟨hi0, hi1, hi2, hS⟩ := hS
     refine Run.go rfl rfl rfl (sem_sliceSlI (if c3 = Int.toNat (0) then a1 else Option.map (·.add (Int.toNat (0) * 3)) a1) (Int.toNat (IntKind.wrap .i64 (((n2 : Nat)) + ((n6 : Nat)))) - Int.toNat (0)) (c3 - Int.toNat (0)) ((n2 : Nat)) (((Int.toNat (IntKind.wrap .i64 (((n2 : Nat)) + ((n6 : Nat)))) - Int.toNat (0)) : Nat)) rfl TF.slc_158 ⟨_, rfl⟩ rfl hi0 hi1 hi2 ?_)
     refine Run.go rfl rfl rfl (sem_move ((Value.slice a5 n6 c7)) rfl ?_)
     refine Run.go rfl rfl rfl (sem_copyL [(Value.slice (if (c3 - Int.toNat (0)) = Int.toNat ((n2 : Nat)) then (if c3 = Int.toNat (0) then a1 else Option.map (·.add (Int.toNat (0) * 3)) a1) else Option.map (·.add (Int.toNat ((n2 : Nat)) * 3)) (if c3 = Int.toNat (0) then a1 else Option.map (·.add (Int.toNat (0) * 3)) a1)) (Int.toNat (((Int.toNat (IntKind.wrap .i64 (((n2 : Nat)) + ((n6 : Nat)))) - Int.toNat (0)) : Nat)) - Int.toNat ((n2 : Nat))) ((c3 - Int.toNat (0)) - Int.toNat ((n2 : Nat)))), (Value.slice a5 n6 c7)] rfl (semH_mono (fun v h32 hv => ?_) hS))
     obtain ⟨i33, rfl, hS⟩ := hv
     refine Run.region_end ?_
     refine Run.seq ?_
     refine Run.ops0 (idx := [0, 1, 2, 3, 4]) rfl ?_
     refine Run.go rfl rfl rfl (sem_move ((Value.slice (if c3 = Int.toNat (0) then a1 else Option.map (·.add (Int.toNat (0) * 3)) a1) (Int.toNat (IntKind.wrap .i64 (((n2 : Nat)) + ((n6 : Nat)))) - Int.toNat (0)) (c3 - Int.toNat (0)))) rfl ?_)
     refine Run.go rfl rfl rfl (sem_move ((Value.int .i64 (i4))) rfl ?_)
     obtain ⟨hi0, hi1, hi2, hS⟩ := hS
     refine Run.go rfl rfl rfl (sem_sliceSlI (if c3 = Int.toNat (0) then a1 else Option.map (·.add (Int.toNat (0) * 3)) a1) (Int.toNat (IntKind.wrap .i64 (((n2 : Nat)) + ((n6 : Nat)))) - Int.toNat (0)) (c3 - Int.toNat (0)) (i4) (((Int.toNat (IntKind.wrap .i64 (((n2 : Nat)) + ((n6 : Nat)))) - Int.toNat (0)) : Nat)) rfl TF.slc_158 ⟨_, rfl⟩ rfl hi0 hi1 hi2 ?_)
     refine Run.go rfl rfl rfl (sem_move ((Value.int .i64 ((n6 : Nat)))) rfl ?_)
     refine Run.go rfl rfl rfl (sem_callL [(Value.slice (if (c3 - Int.toNat (0)) = Int.toNat (i4) then (if c3 = Int.toNat (0) then a1 else Option.map (·.add (Int.toNat (0) * 3)) a1) else Option.map (·.add (Int.toNat (i4) * 3)) (if c3 = Int.toNat (0) then a1 else Option.map (·.add (Int.toNat (0) * 3)) a1)) (Int.toNat (((Int.toNat (IntKind.wrap .i64 (((n2 : Nat)) + ((n6 : Nat)))) - Int.toNat (0)) : Nat)) - Int.toNat (i4)) ((c3 - Int.toNat (0)) - Int.toNat (i4))), (Value.int .i64 ((n6 : Nat)))] (TF.goes_148) rfl rfl (Spec.mono hS fun v h34 hv => ?_))
     obtain ⟨rfl, hS⟩ := hv
     refine Run.region_end ?_
     refine Run.seq ?_
     refine Run.ops0 (idx := [0, 1]) rfl ?_
     refine Run.go rfl rfl rfl (sem_move ((Value.slice (if c3 = Int.toNat (0) then a1 else Option.map (·.add (Int.toNat (0) * 3)) a1) (Int.toNat (IntKind.wrap .i64 (((n2 : Nat)) + ((n6 : Nat)))) - Int.toNat (0)) (c3 - Int.toNat (0)))) rfl ?_)
     refine Run.go rfl rfl rfl (sem_assign ((Value.slice (if c3 = Int.toNat (0) then a1 else Option.map (·.add (Int.toNat (0) * 3)) a1) (Int.toNat (IntKind.wrap .i64 (((n2 : Nat)) + ((n6 : Nat)))) - Int.toNat (0)) (c3 - Int.toNat (0)))) rfl ?_)
     refine Run.region_end ?_
     refine Run.ret ⟨.inr rfl, ?_⟩
     exact hS.imp fun h' hq => ⟨(if c3 = Int.toNat (0) then a1 else Option.map (·.add (Int.toNat (0) * 3)) a1), (Int.toNat (IntKind.wrap .i64 (((n2 : Nat)) + ((n6 : Nat)))) - Int.toNat (0)), (c3 - Int.toNat (0)), rfl, hq⟩
set_option maxHeartbeats 4000000 in
theorem C_slices_BinarySearchFunc_s_draft_entry_file_File_draft_entry_file_File_int.of {B : RO} {a1 : Option Addr} {n2 : Nat} {c3 : Nat} {i4 : Int} {v5 : Value} {h : Heap} {Q : Int → Bool → Heap → Prop} (hS : S_slices_BinarySearchFunc_s_draft_entry_file_File_draft_entry_file_File_int B a1 n2 c3 i4 v5 h Q) : C_slices_BinarySearchFunc_s_draft_entry_file_File_draft_entry_file_File_int B a1 n2 c3 i4 v5 h Q := by
 unfold S_slices_BinarySearchFunc_s_draft_entry_file_File_draft_entry_file_File_int at hS
 unfold C_slices_BinarySearchFunc_s_draft_entry_file_File_draft_entry_file_File_int
 refine Spec.of_run Try.func126 (N := 49) (rs := [ResultVar.tmp 6, ResultVar.tmp 7]) rfl rfl rfl (Nat.le_of_ble_eq_true rfl) ?_
 refine Run.seq ?_
 refine Run.ops0 (idx := [0, 1]) rfl ?_
 refine Run.go rfl rfl rfl (sem_assign ((Value.int .i64 (0))) rfl ?_)
 refine Run.go rfl rfl rfl (sem_assign ((Value.bool false)) rfl ?_)
 refine Run.region_end ?_
 refine Run.seq ?_
 refine Run.ops0 (idx := [0, 1, 2]) rfl ?_
 refine Run.go rfl rfl rfl (sem_move ((Value.slice a1 n2 c3)) rfl ?_)
 refine Run.go rfl rfl rfl (sem_lenSl a1 n2 c3 rfl TF.sl_158 ?_)
 refine Run.go rfl rfl rfl (sem_assign ((Value.int .i64 ((n2 : Nat)))) rfl ?_)
 refine Run.region_end ?_
 refine Run.seq ?_
 refine Run.ops0 (idx := [0, 1, 2]) rfl ?_
 refine Run.go rfl rfl rfl (sem_move ((Value.int .i64 ((n2 : Nat)))) rfl ?_)
 refine Run.go rfl rfl rfl (sem_assign ((Value.int .i64 (0))) rfl ?_)
 refine Run.go rfl rfl rfl (sem_assign ((Value.int .i64 ((n2 : Nat)))) rfl ?_)
 refine Run.region_end ?_
 refine Run.seqJ (fun e h10 => ∃ i9 : Int, Agree [(0, (Value.slice a1 n2 c3)), (1, (Value.int .i64 (i4))), (2, v5), (8, (Value.int .i64 ((n2 : Nat)))), (9, (Value.int .i64 (i9)))] e ∧ S_slices_BinarySearchFunc_s_draft_entry_file_File_draft_entry_file_File_int_J1 B a1 n2 c3 i4 v5 i9 h10 Q) ?_ fun j8 => ?_
 ·rintro e h10 ⟨i9, hag, hS⟩
  refine Run.env hag ?_; clear hag
  refine Run.seq ?_
  refine Run.ops0 (idx := [0, 1, 2, 3, 4, 5, 6, 7, 8, 9, 10, 11, 12, 13, 14, 15]) rfl ?_
  refine Run.go rfl rfl rfl (sem_move ((Value.int .i64 (i9))) rfl ?_)
  refine Run.go rfl rfl rfl (sem_move ((Value.int .i64 (i9))) rfl ?_)
  refine Run.go rfl rfl rfl (sem_move ((Value.int .i64 ((n2 : Nat)))) rfl ?_)
  obtain ⟨hT, hF⟩ := hS
  by_cases hb11 : (i9 : Int) < ((n2 : Nat))
  ·have hS := hT hb11; clear hT hF
   refine Run.go rfl rfl rfl (sem_binI .i64 (i9) ((n2 : Nat)) (.bool true) rfl rfl (binI_lss_t hb11) ?_)
   refine Run.go rfl rfl rfl (sem_move ((Value.bool true)) rfl ?_)
   refine Run.go rfl rfl rfl (sem_move (v5) rfl ?_)
   refine Run.go rfl rfl rfl (sem_move ((Value.slice a1 n2 c3)) rfl ?_)
   refine Run.go rfl rfl rfl (sem_move ((Value.int .i64 (i9))) rfl ?_)
   obtain ⟨A12, e13, hi0, hi1, hS⟩ := hS
   refine Run.go rfl rfl rfl (sem_indexAddrS A12 n2 c3 .i64 (i9) (congrArg (fun a => Value.slice a n2 c3) e13) rfl TF.slc_158 hi0 hi1 ?_)
   obtain ⟨i14, b15, s16, hl, hS⟩ := hS
   refine Run.go rfl rfl rfl (sem_loadN (Addr.add A12 (Int.toNat (i9) * 3)) [(Value.int .i64 (i14)), (Value.bool b15), (Value.string s16)] rfl TF.agg_162 TF.sz_162 hl ?_)
   refine Run.go rfl rfl rfl (sem_move ((Value.int .i64 (i4))) rfl ?_)
   refine Run.go rfl rfl rfl (sem_callV (v5) [(Value.agg #[(Value.int .i64 (i14)), (Value.bool b15), (Value.string s16)]), (Value.int .i64 (i4))] rfl rfl hS (fun nx h' ha => ha.mono fun v h17 hv => ?_))
   obtain ⟨i18, rfl, hS⟩ := hv
   refine Run.go rfl rfl rfl (sem_binI .i64 (i18) (0) ((Value.bool ((i18 : Int) == (0)))) rfl rfl rfl ?_)
   refine Run.go rfl rfl rfl (sem_pick true ((Value.bool ((i18 : Int) == (0)))) rfl rfl ?_)
   refine Run.go rfl rfl rfl (sem_assign ((Value.int .i64 (i9))) rfl ?_)
   refine Run.go rfl rfl rfl (sem_assign ((Value.bool ((i18 : Int) == (0)))) rfl ?_)
   refine Run.region_end ?_
   refine Run.ret ⟨.inr rfl, ?_⟩
   exact hS.imp fun h' hq => ⟨(i9), (((i18 : Int) == (0))), rfl, hq⟩
  ·have hS := hF hb11; clear hT hF
   refine Run.go rfl rfl rfl (sem_binI .i64 (i9) ((n2 : Nat)) (.bool false) rfl rfl (binI_lss_f hb11) ?_)
   refine Run.go rfl rfl rfl (sem_move ((Value.bool false)) rfl ?_)
   refine Run.no rfl rfl rfl ?_
   refine Run.no rfl rfl rfl ?_
   refine Run.no rfl rfl rfl ?_
   refine Run.no rfl rfl rfl ?_
   refine Run.no rfl rfl rfl ?_
   refine Run.no rfl rfl rfl ?_
   refine Run.no rfl rfl rfl ?_
   refine Run.no rfl rfl rfl ?_
   refine Run.go rfl rfl rfl (sem_pick false ((Value.bool false)) rfl rfl ?_)
   refine Run.go rfl rfl rfl (sem_assign ((Value.int .i64 (i9))) rfl ?_)
   refine Run.go rfl rfl rfl (sem_assign ((Value.bool false)) rfl ?_)
   refine Run.region_end ?_
   refine Run.ret ⟨.inr rfl, ?_⟩
   exact hS.imp fun h' hq => ⟨(i9), (false), rfl, hq⟩
 refine Run.block ?_
 obtain ⟨J25, m23, h0, hS⟩ := hS
 refine Run.of_fin (h0.imp fun h' h0 => ?_)
 refine Run.loop (σ := Int × Int × Nat) (fun x e h => J25 x.1 x.2.1 x.2.2 h ∧ Agree [(0, (Value.slice a1 n2 c3)), (1, (Value.int .i64 (i4))), (2, v5), (8, (Value.int .i64 ((n2 : Nat)))), (9, (Value.int .i64 (x.1))), (10, (Value.int .i64 (x.2.1)))] e) (fun x => x.2.2) ((0), ((n2 : Nat)), m23) ⟨h0, ⟨rfl, rfl, rfl, rfl, rfl, rfl, trivial⟩⟩ ?_; clear h0
 rintro ⟨i19, i20, m22⟩ e h21 ⟨hJ, hag⟩ ih24
 have hS := hS i19 i20 m22 h21 hJ; clear hJ
 refine Run.env hag ?_; clear hag
 refine Run.seq ?_
 refine Run.seq ?_
 refine Run.ops0 (idx := [0, 1, 2]) rfl ?_
 refine Run.go rfl rfl rfl (sem_move ((Value.int .i64 (i19))) rfl ?_)
 refine Run.go rfl rfl rfl (sem_move ((Value.int .i64 (i20))) rfl ?_)
 obtain ⟨hT, hF⟩ := hS
 by_cases hb26 : (i19 : Int) < (i20)
 ·have hS := hT hb26; clear hT hF
  refine Run.go rfl rfl rfl (sem_binI .i64 (i19) (i20) (.bool true) rfl rfl (binI_lss_t hb26) ?_)
  refine Run.region_end ?_
  refine Run.condT rfl ?_
  refine Run.skip ?_
  refine Run.block ?_
  refine Run.seq ?_
  refine Run.ops0 (idx := [0, 1, 2, 3, 4, 5, 6]) rfl ?_
  refine Run.go rfl rfl rfl (sem_move ((Value.int .i64 (i19))) rfl ?_)
  refine Run.go rfl rfl rfl (sem_move ((Value.int .i64 (i20))) rfl ?_)
  refine Run.go rfl rfl rfl (sem_binI .i64 (i19) (i20) ((Value.int .i64 (IntKind.wrap .i64 ((i19) + (i20))))) rfl rfl rfl ?_)
  refine Run.go rfl rfl rfl (sem_convI .i64 .u64 (IntKind.wrap .i64 ((i19) + (i20))) rfl TF.int_3 TF.int_57 ?_)
  obtain ⟨hi0, hS⟩ := hS
  refine Run.go rfl rfl rfl (sem_shr .u64 .u64 (IntKind.wrap .u64 (IntKind.wrap .i64 ((i19) + (i20)))) (1) rfl rfl hi0 ?_)
  refine Run.go rfl rfl rfl (sem_convI .u64 .i64 (Int.fdiv (IntKind.wrap .u64 (IntKind.wrap .i64 ((i19) + (i20)))) (2 ^ (min (Int.toNat (1)) (IntKind.bits .u64)))) rfl TF.int_57 TF.int_3 ?_)
  refine Run.go rfl rfl rfl (sem_assign ((Value.int .i64 (IntKind.wrap .i64 (Int.fdiv (IntKind.wrap .u64 (IntKind.wrap .i64 ((i19) + (i20)))) (2 ^ (min (Int.toNat (1)) (IntKind.bits .u64))))))) rfl ?_)
  refine Run.region_end ?_
  refine Run.seq ?_
  refine Run.ops0 (idx := [0, 1, 2, 3, 4, 5, 6, 7]) rfl ?_
  refine Run.go rfl rfl rfl (sem_move (v5) rfl ?_)
  refine Run.go rfl rfl rfl (sem_move ((Value.slice a1 n2 c3)) rfl ?_)
  refine Run.go rfl rfl rfl (sem_move ((Value.int .i64 (IntKind.wrap .i64 (Int.fdiv (IntKind.wrap .u64 (IntKind.wrap .i64 ((i19) + (i20)))) (2 ^ (min (Int.toNat (1)) (IntKind.bits .u64))))))) rfl ?_)
  obtain ⟨A27, e28, hi0, hi1, hS⟩ := hS
  refine Run.go rfl rfl rfl (sem_indexAddrS A27 n2 c3 .i64 (IntKind.wrap .i64 (Int.fdiv (IntKind.wrap .u64 (IntKind.wrap .i64 ((i19) + (i20)))) (2 ^ (min (Int.toNat (1)) (IntKind.bits .u64))))) (congrArg (fun a => Value.slice a n2 c3) e28) rfl TF.slc_158 hi0 hi1 ?_)
  obtain ⟨i29, b30, s31, hl, hS⟩ := hS
  refine Run.go rfl rfl rfl (sem_loadN (Addr.add A27 (Int.toNat (IntKind.wrap .i64 (Int.fdiv (IntKind.wrap .u64 (IntKind.wrap .i64 ((i19) + (i20)))) (2 ^ (min (Int.toNat (1)) (IntKind.bits .u64))))) * 3)) [(Value.int .i64 (i29)), (Value.bool b30), (Value.string s31)] rfl TF.agg_162 TF.sz_162 hl ?_)
  refine Run.go rfl rfl rfl (sem_move ((Value.int .i64 (i4))) rfl ?_)
  refine Run.go rfl rfl rfl (sem_callV (v5) [(Value.agg #[(Value.int .i64 (i29)), (Value.bool b30), (Value.string s31)]), (Value.int .i64 (i4))] rfl rfl hS (fun nx h' ha => ha.mono fun v h32 hv => ?_))
  obtain ⟨i33, rfl, hS⟩ := hv
  obtain ⟨hT, hF⟩ := hS
  by_cases hb34 : (i33 : Int) < (0)
  ·have hS := hT hb34; clear hT hF
   refine Run.go rfl rfl rfl (sem_binI .i64 (i33) (0) (.bool true) rfl rfl (binI_lss_t hb34) ?_)
   refine Run.region_end ?_
   refine Run.condT rfl ?_
   refine Run.ops0 (idx := [0, 1, 2]) rfl ?_
   refine Run.go rfl rfl rfl (sem_move ((Value.int .i64 (IntKind.wrap .i64 (Int.fdiv (IntKind.wrap .u64 (IntKind.wrap .i64 ((i19) + (i20)))) (2 ^ (min (Int.toNat (1)) (IntKind.bits .u64))))))) rfl ?_)
   refine Run.go rfl rfl rfl (sem_binI .i64 (IntKind.wrap .i64 (Int.fdiv (IntKind.wrap .u64 (IntKind.wrap .i64 ((i19) + (i20)))) (2 ^ (min (Int.toNat (1)) (IntKind.bits .u64))))) (1) ((Value.int .i64 (IntKind.wrap .i64 ((IntKind.wrap .i64 (Int.fdiv (IntKind.wrap .u64 (IntKind.wrap .i64 ((i19) + (i20)))) (2 ^ (min (Int.toNat (1)) (IntKind.bits .u64))))) + (1))))) rfl rfl rfl ?_)
   refine Run.go rfl rfl rfl (sem_assign ((Value.int .i64 (IntKind.wrap .i64 ((IntKind.wrap .i64 (Int.fdiv (IntKind.wrap .u64 (IntKind.wrap .i64 ((i19) + (i20)))) (2 ^ (min (Int.toNat (1)) (IntKind.bits .u64))))) + (1))))) rfl ?_)
   refine Run.region_end ?_
   refine Run.inBlock ?_
   exact Run.of_fin (hS.imp fun h' ⟨m', hm, hS⟩ => ih24 ((IntKind.wrap .i64 ((IntKind.wrap .i64 (Int.fdiv (IntKind.wrap .u64 (IntKind.wrap .i64 ((i19) + (i20)))) (2 ^ (min (Int.toNat (1)) (IntKind.bits .u64))))) + (1))), (i20), m') _ _ ⟨hS, ⟨rfl, rfl, rfl, rfl, rfl, rfl, trivial⟩⟩ hm)
  ·have hS := hF hb34; clear hT hF
   refine Run.go rfl rfl rfl (sem_binI .i64 (i33) (0) (.bool false) rfl rfl (binI_lss_f hb34) ?_)
   refine Run.region_end ?_
   refine Run.condF rfl ?_
   refine Run.ops0 (idx := [0, 1]) rfl ?_
   refine Run.go rfl rfl rfl (sem_move ((Value.int .i64 (IntKind.wrap .i64 (Int.fdiv (IntKind.wrap .u64 (IntKind.wrap .i64 ((i19) + (i20)))) (2 ^ (min (Int.toNat (1)) (IntKind.bits .u64))))))) rfl ?_)
   refine Run.go rfl rfl rfl (sem_assign ((Value.int .i64 (IntKind.wrap .i64 (Int.fdiv (IntKind.wrap .u64 (IntKind.wrap .i64 ((i19) + (i20)))) (2 ^ (min (Int.toNat (1)) (IntKind.bits .u64))))))) rfl ?_)
   refine Run.region_end ?_
   refine Run.inBlock ?_
   exact Run.of_fin (hS.imp fun h' ⟨m', hm, hS⟩ => ih24 ((i19), (IntKind.wrap .i64 (Int.fdiv (IntKind.wrap .u64 (IntKind.wrap .i64 ((i19) + (i20)))) (2 ^ (min (Int.toNat (1)) (IntKind.bits .u64))))), m') _ _ ⟨hS, ⟨rfl, rfl, rfl, rfl, rfl, rfl, trivial⟩⟩ hm)
 ·have hS := hF hb26; clear hT hF
  refine Run.go rfl rfl rfl (sem_binI .i64 (i19) (i20) (.bool false) rfl rfl (binI_lss_f hb26) ?_)
  refine Run.region_end ?_
  refine Run.condF rfl ?_
  refine Run.exit rfl ?_
  exact Run.of_fin (hS.imp fun h' hS => j8 _ _ ⟨(i19), ⟨rfl, rfl, rfl, rfl, rfl, trivial⟩, hS⟩)
set_option maxHeartbeats 4000000 in
theorem C_draft_by_file_File.of {B : RO} {i1 : Int} {b2 : Bool} {s3 : ByteArray} {i4 : Int} {h : Heap} {Q : Int → Heap → Prop} (hS : S_draft_by_file_File B i1 b2 s3 i4 h Q) : C_draft_by_file_File B i1 b2 s3 i4 h Q := by
 unfold S_draft_by_file_File at hS
 unfold C_draft_by_file_File
 refine Spec.of_run Try.func127 (N := 15) (rs := [ResultVar.tmp 4]) rfl rfl rfl (Nat.le_of_ble_eq_true rfl) ?_
 refine Run.seq ?_
 refine Run.ops0 (idx := [0, 1]) rfl ?_
 refine Run.go rfl rfl rfl (sem_boxNN [(Value.int .i64 (i1)), (Value.bool b2), (Value.string s3)] rfl (fun k6 hb1 hb2 h7 hb3 => ?_))
 have hS := hS k6 hb1 hb2 h7 hb3
 refine Run.go rfl rfl rfl (sem_assign ((Value.int .i64 (0))) rfl ?_)
 refine Run.region_end ?_
 refine Run.seq ?_
 refine Run.block ?_
 refine Run.seq ?_
 refine Run.ops0 (idx := [0, 1, 2, 3, 4]) rfl ?_
 refine Run.go rfl rfl rfl (sem_fieldAddr ⟨k6, 0, none⟩ 0 rfl TF.fld_162_0 ?_)
 obtain ⟨i8, hl, hS⟩ := hS
 refine Run.go rfl rfl rfl (sem_load1 ⟨k6, 0, none⟩ ((Value.int .i64 (i8))) rfl TF.agg_3 hl ?_)
 refine Run.go rfl rfl rfl (sem_move ((Value.int .i64 (i4))) rfl ?_)
 obtain ⟨hT, hF⟩ := hS
 by_cases hb9 : (i8 : Int) < (i4)
 ·have hS := hT hb9; clear hT hF
  refine Run.go rfl rfl rfl (sem_binI .i64 (i8) (i4) (.bool true) rfl rfl (binI_lss_t hb9) ?_)
  refine Run.go rfl rfl rfl (sem_assign ((Value.bool true)) rfl ?_)
  refine Run.region_end ?_
  refine Run.condT rfl ?_
  refine Run.seq ?_
  refine Run.ops0 (idx := [0]) rfl ?_
  refine Run.go rfl rfl rfl (sem_assign ((Value.int .i64 ((-1)))) rfl ?_)
  refine Run.region_end ?_
  refine Run.ret ⟨.inr rfl, ?_⟩
  exact hS.imp fun h' hq => ⟨((-1)), rfl, hq⟩
 ·have hS := hF hb9; clear hT hF
  refine Run.go rfl rfl rfl (sem_binI .i64 (i8) (i4) (.bool false) rfl rfl (binI_lss_f hb9) ?_)
  refine Run.go rfl rfl rfl (sem_assign ((Value.bool false)) rfl ?_)
  refine Run.region_end ?_
  refine Run.condF rfl ?_
  refine Run.seq ?_
  refine Run.ops0 (idx := [0, 1, 2, 3, 4]) rfl ?_
  refine Run.go rfl rfl rfl (sem_fieldAddr ⟨k6, 0, none⟩ 0 rfl TF.fld_162_0 ?_)
  obtain ⟨i10, hl, hS⟩ := hS
  refine Run.go rfl rfl rfl (sem_load1 ⟨k6, 0, none⟩ ((Value.int .i64 (i10))) rfl TF.agg_3 hl ?_)
  refine Run.go rfl rfl rfl (sem_move ((Value.int .i64 (i4))) rfl ?_)
  obtain ⟨hT, hF⟩ := hS
  by_cases hb11 : (i10 : Int) > (i4)
  ·have hS := hT hb11; clear hT hF
   refine Run.go rfl rfl rfl (sem_binI .i64 (i10) (i4) (.bool true) rfl rfl (binI_gtr_t hb11) ?_)
   refine Run.go rfl rfl rfl (sem_assign ((Value.bool true)) rfl ?_)
   refine Run.region_end ?_
   refine Run.condT rfl ?_
   refine Run.seq ?_
   refine Run.ops0 (idx := [0]) rfl ?_
   refine Run.go rfl rfl rfl (sem_assign ((Value.int .i64 (1))) rfl ?_)
   refine Run.region_end ?_
   refine Run.ret ⟨.inr rfl, ?_⟩
   exact hS.imp fun h' hq => ⟨(1), rfl, hq⟩
  ·have hS := hF hb11; clear hT hF
   refine Run.go rfl rfl rfl (sem_binI .i64 (i10) (i4) (.bool false) rfl rfl (binI_gtr_f hb11) ?_)
   refine Run.go rfl rfl rfl (sem_assign ((Value.bool false)) rfl ?_)
   refine Run.region_end ?_
   refine Run.condF rfl ?_
   refine Run.skip ?_
   refine Run.inBlock ?_
   refine Run.seq ?_
   refine Run.ops0 (idx := [0]) rfl ?_
   refine Run.go rfl rfl rfl (sem_assign ((Value.int .i64 (0))) rfl ?_)
   refine Run.region_end ?_
   refine Run.ret ⟨.inr rfl, ?_⟩
   exact hS.imp fun h' hq => ⟨(0), rfl, hq⟩
set_option maxHeartbeats 4000000 in
theorem C_countermandref09_At.of {B : RO} {b1 : Bool} {s2 : ByteArray} {i3 : Int} {h : Heap} {Q : Int → Heap → Prop} (hS : S_countermandref09_At B b1 s2 i3 h Q) : C_countermandref09_At B b1 s2 i3 h Q := by
 unfold S_countermandref09_At at hS
 unfold C_countermandref09_At
 refine Spec.of_run Try.func138 (N := 21) (rs := [ResultVar.tmp 4]) rfl rfl rfl (Nat.le_of_ble_eq_true rfl) ?_
 refine Run.seq ?_
 refine Run.ops0 (idx := [0, 1]) rfl ?_
 refine Run.go rfl rfl rfl (sem_boxNN [(Value.bool b1), (Value.string s2)] rfl (fun k5 hb1 hb2 h6 hb3 => ?_))
 have hS := hS k5 hb1 hb2 h6 hb3
 refine Run.go rfl rfl rfl (sem_assign ((Value.int .i64 (0))) rfl ?_)
 refine Run.region_end ?_
 refine Run.seq ?_
 refine Run.seq ?_
 refine Run.ops0 (idx := [0]) rfl ?_
 refine Run.go rfl rfl rfl (sem_assign ((Value.int .i64 (0))) rfl ?_)
 refine Run.region_end ?_
 refine Run.block ?_
 obtain ⟨J12, m10, h0, hS⟩ := hS
 refine Run.of_fin (h0.imp fun h' h0 => ?_)
 refine Run.loop (σ := Int × Nat) (fun x e h => J12 x.1 x.2 h ∧ Agree [(1, (Value.int .i64 (i3))), (2, (Value.pointer (some ⟨k5, 0, none⟩))), (5, (Value.int .i64 (x.1)))] e) (fun x => x.2) ((0), m10) ⟨h0, ⟨rfl, rfl, rfl, trivial⟩⟩ ?_; clear h0
 rintro ⟨i7, m9⟩ e h8 ⟨hJ, hag⟩ ih11
 have hS := hS i7 m9 h8 hJ; clear hJ
 refine Run.env hag ?_; clear hag
 refine Run.seq ?_
 refine Run.seq ?_
 refine Run.ops0 (idx := [0, 1, 2, 3, 4]) rfl ?_
 refine Run.go rfl rfl rfl (sem_move ((Value.int .i64 (i7))) rfl ?_)
 refine Run.go rfl rfl rfl (sem_fieldAddr ⟨k5, 0, none⟩ 1 rfl TF.fld_76_1 ?_)
 obtain ⟨s13, hl, hS⟩ := hS
 refine Run.go rfl rfl rfl (sem_load1 ⟨k5, 1, none⟩ ((Value.string s13)) rfl TF.agg_9 hl ?_)
 refine Run.go rfl rfl rfl (sem_lenStr s13 rfl TF.isStr_9 ?_)
 obtain ⟨hT, hF⟩ := hS
 by_cases hb14 : (i7 : Int) < ((ByteArray.size s13 : Nat))
 ·have hS := hT hb14; clear hT hF
  refine Run.go rfl rfl rfl (sem_binI .i64 (i7) ((ByteArray.size s13 : Nat)) (.bool true) rfl rfl (binI_lss_t hb14) ?_)
  refine Run.region_end ?_
  refine Run.condT rfl ?_
  refine Run.skip ?_
  refine Run.seq ?_
  refine Run.block ?_
  refine Run.seq ?_
  refine Run.ops0 (idx := [0, 1, 2]) rfl ?_
  refine Run.go rfl rfl rfl (sem_move ((Value.int .i64 (i7))) rfl ?_)
  refine Run.go rfl rfl rfl (sem_move ((Value.int .i64 (i3))) rfl ?_)
  obtain ⟨hT, hF⟩ := hS
  by_cases hb15 : (i7 : Int) = i3
  ·have hS := hT hb15; clear hT hF
   refine Run.go rfl rfl rfl (sem_binI .i64 (i7) (i3) (.bool true) rfl rfl (binI_eql_t hb15) ?_)
   refine Run.region_end ?_
   refine Run.condT rfl ?_
   refine Run.seq ?_
   refine Run.ops0 (idx := [0, 1, 2, 3, 4, 5]) rfl ?_
   refine Run.go rfl rfl rfl (sem_fieldAddr ⟨k5, 0, none⟩ 1 rfl TF.fld_76_1 ?_)
   obtain ⟨s16, hl, hS⟩ := hS
   refine Run.go rfl rfl rfl (sem_load1 ⟨k5, 1, none⟩ ((Value.string s16)) rfl TF.agg_9 hl ?_)
   refine Run.go rfl rfl rfl (sem_move ((Value.int .i64 (i7))) rfl ?_)
   obtain ⟨hi0, hi1, hS⟩ := hS
   refine Run.go rfl rfl rfl (sem_indexStr' s16 .i64 (i7) rfl rfl TF.isStr_9 hi0 hi1 ?_)
   refine Run.go rfl rfl rfl (sem_convI .u8 .i64 (byteAt s16 (Int.toNat (i7))) rfl TF.int_5 TF.int_3 ?_)
   refine Run.go rfl rfl rfl (sem_assign ((Value.int .i64 (IntKind.wrap .i64 (byteAt s16 (Int.toNat (i7)))))) rfl ?_)
   refine Run.region_end ?_
   refine Run.ret ⟨.inr rfl, ?_⟩
   exact hS.imp fun h' hq => ⟨(IntKind.wrap .i64 (byteAt s16 (Int.toNat (i7)))), rfl, hq⟩
  ·have hS := hF hb15; clear hT hF
   refine Run.go rfl rfl rfl (sem_binI .i64 (i7) (i3) (.bool false) rfl rfl (binI_eql_f hb15) ?_)
   refine Run.region_end ?_
   refine Run.condF rfl ?_
   refine Run.skip ?_
   refine Run.inBlock ?_
   refine Run.ops0 (idx := [0, 1, 2]) rfl ?_
   refine Run.go rfl rfl rfl (sem_move ((Value.int .i64 (i7))) rfl ?_)
   refine Run.go rfl rfl rfl (sem_binI .i64 (i7) (1) ((Value.int .i64 (IntKind.wrap .i64 ((i7) + (1))))) rfl rfl rfl ?_)
   refine Run.go rfl rfl rfl (sem_assign ((Value.int .i64 (IntKind.wrap .i64 ((i7) + (1))))) rfl ?_)
   refine Run.region_end ?_
   exact Run.of_fin (hS.imp fun h' ⟨m', hm, hS⟩ => ih11 ((IntKind.wrap .i64 ((i7) + (1))), m') _ _ ⟨hS, ⟨rfl, rfl, rfl, trivial⟩⟩ hm)
 ·have hS := hF hb14; clear hT hF
  refine Run.go rfl rfl rfl (sem_binI .i64 (i7) ((ByteArray.size s13 : Nat)) (.bool false) rfl rfl (binI_lss_f hb14) ?_)
  refine Run.region_end ?_
  refine Run.condF rfl ?_
  refine Run.exit rfl ?_
  refine Run.seq ?_
  refine Run.ops0 (idx := [0]) rfl ?_
  refine Run.go rfl rfl rfl (sem_assign ((Value.int .i64 ((-1)))) rfl ?_)
  refine Run.region_end ?_
  refine Run.ret ⟨.inr rfl, ?_⟩
  exact hS.imp fun h' hq => ⟨((-1)), rfl, hq⟩
set_option maxHeartbeats 4000000 in
theorem C_cell_Row_file_File_All_1.of {B : RO} {v1 : Value} {A2 : Addr} {h : Heap} {Q : Heap → Prop} (hS : S_cell_Row_file_File_All_1 B v1 A2 h Q) : C_cell_Row_file_File_All_1 B v1 A2 h Q := by
 unfold S_cell_Row_file_File_All_1 at hS
 unfold C_cell_Row_file_File_All_1
 refine Spec.of_run Try.func139 (N := 24) (rs := []) rfl rfl rfl (Nat.le_of_ble_eq_true rfl) ?_
 refine Run.seq ?_
 refine Run.seq ?_
 refine Run.ops0 (idx := [0, 1]) rfl ?_
 obtain ⟨p3, hl, hS⟩ := hS
 refine Run.go rfl rfl rfl (sem_load1 A2 ((Value.pointer p3)) rfl TF.agg_110 hl ?_)
 obtain ⟨hT, hF⟩ := hS
 by_cases hb4 : p3 = none
 ·have hS := hT hb4; clear hT hF
  refine Run.go rfl rfl rfl (sem_ptrNilT p3 (.inl rfl) true rfl rfl TF.ptr_110 hb4 rfl ?_)
  refine Run.region_end ?_
  refine Run.condT rfl ?_
  refine Run.ret ⟨.inr rfl, ?_⟩
  exact hS.imp fun h' hq => ⟨rfl, hq⟩
 ·have hS := hF hb4; clear hT hF
  refine Run.go rfl rfl rfl (sem_ptrNilF p3 (.inl rfl) false rfl rfl TF.ptr_110 hb4 rfl ?_)
  refine Run.region_end ?_
  refine Run.condF rfl ?_
  refine Run.skip ?_
  refine Run.seq ?_
  refine Run.ops0 (idx := [0, 1, 2, 3, 4, 5]) rfl ?_
  obtain ⟨p5, hl, hS⟩ := hS
  refine Run.go rfl rfl rfl (sem_load1 A2 ((Value.pointer p5)) rfl TF.agg_110 hl ?_)
  obtain ⟨A6, e7, hS⟩ := hS
  refine Run.go rfl rfl rfl (sem_nilCheck A6 (congrArg Value.pointer e7) ?_)
  refine Run.go rfl rfl rfl (sem_fieldAddr A6 0 rfl TF.fld_168_0 ?_)
  refine Run.ldSl hS fun a8 n9 c10 h11 hl hS => ?_
  refine Run.go rfl rfl rfl (sem_load1 A6 ((Value.slice a8 n9 c10)) rfl TF.agg_166 hl ?_)
  refine Run.go rfl rfl rfl (sem_lenSl a8 n9 c10 rfl TF.sl_166 ?_)
  refine Run.go rfl rfl rfl (sem_move ((Value.int .i64 (0))) rfl ?_)
  refine Run.region_end ?_
  refine Run.block ?_
  obtain ⟨J17, m15, h0, hS⟩ := hS
  refine Run.of_fin (h0.imp fun h' h0 => ?_)
  refine Run.loop (σ := Int × Nat) (fun x e h => J17 x.1 x.2 h ∧ Agree [(0, v1), (10, (Value.slice a8 n9 c10)), (11, (Value.int .i64 ((n9 : Nat)))), (12, (Value.int .i64 (x.1)))] e) (fun x => x.2) ((0), m15) ⟨h0, ⟨rfl, rfl, rfl, rfl, trivial⟩⟩ ?_; clear h0
  rintro ⟨i12, m14⟩ e h13 ⟨hJ, hag⟩ ih16
  have hS := hS i12 m14 h13 hJ; clear hJ
  refine Run.env hag ?_; clear hag
  refine Run.seq ?_
  refine Run.ops0 (idx := [0]) rfl ?_
  obtain ⟨hT, hF⟩ := hS
  by_cases hb18 : (i12 : Int) < ((n9 : Nat))
  ·have hS := hT hb18; clear hT hF
   refine Run.go rfl rfl rfl (sem_binI .i64 (i12) ((n9 : Nat)) (.bool true) rfl rfl (binI_lss_t hb18) ?_)
   refine Run.region_end ?_
   refine Run.seq ?_
   refine Run.condT rfl ?_
   refine Run.skip ?_
   refine Run.seq ?_
   refine Run.block ?_
   refine Run.seq ?_
   refine Run.ops0 (idx := [0, 1, 2, 3, 4, 5]) rfl ?_
   refine Run.go rfl rfl rfl (sem_move ((Value.int .i64 (i12))) rfl ?_)
   obtain ⟨A19, e20, hi0, hi1, hS⟩ := hS
   refine Run.go rfl rfl rfl (sem_indexAddrS A19 n9 c10 .i64 (i12) (congrArg (fun a => Value.slice a n9 c10) e20) rfl TF.slc_166 hi0 hi1 ?_)
   obtain ⟨b21, s22, i23, hl, hS⟩ := hS
   refine Run.go rfl rfl rfl (sem_loadN (Addr.add A19 (Int.toNat (i12) * 3)) [(Value.bool b21), (Value.string s22), (Value.int .i64 (i23))] rfl TF.agg_170 TF.sz_170 hl ?_)
   refine Run.go rfl rfl rfl (sem_allocN [(Value.bool false), (Value.string ByteArray.empty), (Value.int .i64 (0))] TF.zero_170 (fun k24 hb1 hb2 h25 hb3 => ?_))
   have hS := hS k24 hb1 hb2 h25 hb3
   refine Run.go rfl rfl rfl (sem_assign ((Value.int .i64 (i12))) rfl ?_)
   obtain ⟨h26, hst, hS⟩ := hS
   refine Run.go rfl rfl rfl (sem_storeN ⟨k24, 0, none⟩ [(Value.bool b21), (Value.string s22), (Value.int .i64 (i23))] h26 rfl rfl TF.sz_170 hst ?_)
   refine Run.region_end ?_
   refine Run.seq ?_
   refine Run.ops0 (idx := [0, 1, 2, 3, 4, 5]) rfl ?_
   refine Run.go rfl rfl rfl (sem_move (v1) rfl ?_)
   refine Run.go rfl rfl rfl (sem_move ((Value.int .i64 (i12))) rfl ?_)
   refine Run.go rfl rfl rfl (sem_fieldAddr ⟨k24, 0, none⟩ 0 rfl TF.fld_170_0 ?_)
   obtain ⟨b27, s28, hl, hS⟩ := hS
   refine Run.go rfl rfl rfl (sem_loadN ⟨k24, 0, none⟩ [(Value.bool b27), (Value.string s28)] rfl TF.agg_41 TF.sz_41 hl ?_)
   refine Run.go rfl rfl rfl (sem_callV (v1) [(Value.int .i64 (i12)), (Value.agg #[(Value.bool b27), (Value.string s28)])] rfl rfl hS (fun nx h' ha => ha.mono fun v h29 hv => ?_))
   obtain ⟨b30, rfl, hS⟩ := hv
   obtain ⟨hT, hF⟩ := hS
   cases b30
   ·have hS := hF rfl; clear hT hF
    refine Run.go rfl rfl rfl (sem_not false rfl ?_)
    refine Run.region_end ?_
    refine Run.condT rfl ?_
    refine Run.ret ⟨.inr rfl, ?_⟩
    exact hS.imp fun h' hq => ⟨rfl, hq⟩
   ·have hS := hT rfl; clear hT hF
    refine Run.go rfl rfl rfl (sem_not true rfl ?_)
    refine Run.region_end ?_
    refine Run.condF rfl ?_
    refine Run.skip ?_
    refine Run.inBlock ?_
    refine Run.ops0 (idx := [0, 1]) rfl ?_
    refine Run.go rfl rfl rfl (sem_binI .i64 (i12) (1) ((Value.int .i64 (IntKind.wrap .i64 ((i12) + (1))))) rfl rfl rfl ?_)
    refine Run.go rfl rfl rfl (sem_move ((Value.int .i64 (IntKind.wrap .i64 ((i12) + (1))))) rfl ?_)
    refine Run.region_end ?_
    exact Run.of_fin (hS.imp fun h' ⟨m', hm, hS⟩ => ih16 ((IntKind.wrap .i64 ((i12) + (1))), m') _ _ ⟨hS, ⟨rfl, rfl, rfl, rfl, trivial⟩⟩ hm)
  ·have hS := hF hb18; clear hT hF
   refine Run.go rfl rfl rfl (sem_binI .i64 (i12) ((n9 : Nat)) (.bool false) rfl rfl (binI_lss_f hb18) ?_)
   refine Run.region_end ?_
   refine Run.seq ?_
   refine Run.condF rfl ?_
   refine Run.exit rfl ?_
   refine Run.fall ⟨.inl rfl, ?_⟩
   exact hS.imp fun h' hq => ⟨rfl, hq⟩
set_option maxHeartbeats 4000000 in
theorem C_slices_rotateRight_draft_entry_file_File.of {B : RO} {a1 : Option Addr} {n2 : Nat} {c3 : Nat} {i4 : Int} {h : Heap} {Q : Heap → Prop} (hS : S_slices_rotateRight_draft_entry_file_File B a1 n2 c3 i4 h Q) : C_slices_rotateRight_draft_entry_file_File B a1 n2 c3 i4 h Q := by
 unfold S_slices_rotateRight_draft_entry_file_File at hS
 unfold C_slices_rotateRight_draft_entry_file_File
 refine Spec.of_run Try.func148 (N := 10) (rs := []) rfl rfl rfl (Nat.le_of_ble_eq_true rfl) ?_
 refine Run.ops0 (idx := [0, 1, 2, 3, 4, 5]) rfl ?_
 refine Run.go rfl rfl rfl (sem_move ((Value.slice a1 n2 c3)) rfl ?_)
 refine Run.go rfl rfl rfl (sem_move ((Value.slice a1 n2 c3)) rfl ?_)
 refine Run.go rfl rfl rfl (sem_lenSl a1 n2 c3 rfl TF.sl_158 ?_)
 refine Run.go rfl rfl rfl (sem_move ((Value.int .i64 (i4))) rfl ?_)
 refine Run.go rfl rfl rfl (sem_binI .i64 ((n2 : Nat)) (i4) ((Value.int .i64 (IntKind.wrap .i64 (((n2 : Nat)) - (i4))))) rfl rfl rfl ?_)
 refine Run.go rfl rfl rfl (sem_callL [(Value.slice a1 n2 c3), (Value.int .i64 (IntKind.wrap .i64 (((n2 : Nat)) - (i4))))] (TF.goes_158) rfl rfl (Spec.mono hS fun v h5 hv => ?_))
 obtain ⟨rfl, hS⟩ := hv
 refine Run.region_end ?_
 refine Run.fall ⟨.inl rfl, ?_⟩
 exact hS.imp fun h' hq => ⟨rfl, hq⟩
set_option maxHeartbeats 4000000 in
theorem C_slices_rotateLeft_draft_entry_file_File.of {B : RO} {a1 : Option Addr} {n2 : Nat} {c3 : Nat} {i4 : Int} {h : Heap} {Q : Heap → Prop} (hS : S_slices_rotateLeft_draft_entry_file_File B a1 n2 c3 i4 h Q) : C_slices_rotateLeft_draft_entry_file_File B a1 n2 c3 i4 h Q := by
 unfold S_slices_rotateLeft_draft_entry_file_File at hS
 unfold C_slices_rotateLeft_draft_entry_file_File
 refine Spec.of_run Try.func158 (N := 14) (rs := []) rfl rfl rfl (Nat.le_of_ble_eq_true rfl) ?_
 refine Run.seq ?_
 refine Run.ops0 (idx := [0, 1, 2, 3]) rfl ?_
 refine Run.go rfl rfl rfl (sem_move ((Value.slice a1 n2 c3)) rfl ?_)
 refine Run.go rfl rfl rfl (sem_move ((Value.int .i64 (i4))) rfl ?_)
 obtain ⟨hi0, hi1, hi2, hS⟩ := hS
 refine Run.go rfl rfl rfl (sem_sliceSlI a1 n2 c3 (0) (i4) rfl TF.slc_158 rfl ⟨_, rfl⟩ hi0 hi1 hi2 ?_)
 refine Run.go rfl rfl rfl (sem_callL [(Value.slice (if c3 = Int.toNat (0) then a1 else Option.map (·.add (Int.toNat (0) * 3)) a1) (Int.toNat (i4) - Int.toNat (0)) (c3 - Int.toNat (0)))] (TF.goes_161) rfl rfl (Spec.mono hS fun v h5 hv => ?_))
 obtain ⟨rfl, hS⟩ := hv
 refine Run.region_end ?_
 refine Run.seq ?_
 refine Run.ops0 (idx := [0, 1, 2, 3]) rfl ?_
 refine Run.go rfl rfl rfl (sem_move ((Value.slice a1 n2 c3)) rfl ?_)
 refine Run.go rfl rfl rfl (sem_move ((Value.int .i64 (i4))) rfl ?_)
 obtain ⟨hi0, hi1, hi2, hS⟩ := hS
 refine Run.go rfl rfl rfl (sem_sliceSlI a1 n2 c3 (i4) ((n2 : Nat)) rfl TF.slc_158 ⟨_, rfl⟩ rfl hi0 hi1 hi2 ?_)
 refine Run.go rfl rfl rfl (sem_callL [(Value.slice (if c3 = Int.toNat (i4) then a1 else Option.map (·.add (Int.toNat (i4) * 3)) a1) (Int.toNat ((n2 : Nat)) - Int.toNat (i4)) (c3 - Int.toNat (i4)))] (TF.goes_161) rfl rfl (Spec.mono hS fun v h6 hv => ?_))
 obtain ⟨rfl, hS⟩ := hv
 refine Run.region_end ?_
 refine Run.ops0 (idx := [0, 1]) rfl ?_
 refine Run.go rfl rfl rfl (sem_move ((Value.slice a1 n2 c3)) rfl ?_)
 refine Run.go rfl rfl rfl (sem_callL [(Value.slice a1 n2 c3)] (TF.goes_161) rfl rfl (Spec.mono hS fun v h7 hv => ?_))
 obtain ⟨rfl, hS⟩ := hv
 refine Run.region_end ?_
 refine Run.fall ⟨.inl rfl, ?_⟩
 exact hS.imp fun h' hq => ⟨rfl, hq⟩
set_option maxHeartbeats 4000000 in
theorem C_slices_Reverse_s_draft_entry_file_File_draft_entry_file_File.of {B : RO} {a1 : Option Addr} {n2 : Nat} {c3 : Nat} {h : Heap} {Q : Heap → Prop} (hS : S_slices_Reverse_s_draft_entry_file_File_draft_entry_file_File B a1 n2 c3 h Q) : C_slices_Reverse_s_draft_entry_file_File_draft_entry_file_File B a1 n2 c3 h Q := by
 unfold S_slices_Reverse_s_draft_entry_file_File_draft_entry_file_File at hS
 unfold C_slices_Reverse_s_draft_entry_file_File_draft_entry_file_File
 refine Spec.of_run Try.func161 (N := 28) (rs := []) rfl rfl rfl (Nat.le_of_ble_eq_true rfl) ?_
 refine Run.seq ?_
 refine Run.ops0 (idx := [0, 1, 2, 3, 4]) rfl ?_
 refine Run.go rfl rfl rfl (sem_move ((Value.slice a1 n2 c3)) rfl ?_)
 refine Run.go rfl rfl rfl (sem_lenSl a1 n2 c3 rfl TF.sl_158 ?_)
 refine Run.go rfl rfl rfl (sem_binI .i64 ((n2 : Nat)) (1) ((Value.int .i64 (IntKind.wrap .i64 (((n2 : Nat)) - (1))))) rfl rfl rfl ?_)
 refine Run.go rfl rfl rfl (sem_assign ((Value.int .i64 (0))) rfl ?_)
 refine Run.go rfl rfl rfl (sem_assign ((Value.int .i64 (IntKind.wrap .i64 (((n2 : Nat)) - (1))))) rfl ?_)
 refine Run.region_end ?_
 refine Run.block ?_
 obtain ⟨J10, m8, h0, hS⟩ := hS
 refine Run.of_fin (h0.imp fun h' h0 => ?_)
 refine Run.loop (σ := Int × Int × Nat) (fun x e h => J10 x.1 x.2.1 x.2.2 h ∧ Agree [(0, (Value.slice a1 n2 c3)), (2, (Value.int .i64 (x.1))), (3, (Value.int .i64 (x.2.1)))] e) (fun x => x.2.2) ((0), (IntKind.wrap .i64 (((n2 : Nat)) - (1))), m8) ⟨h0, ⟨rfl, rfl, rfl, trivial⟩⟩ ?_; clear h0
 rintro ⟨i4, i5, m7⟩ e h6 ⟨hJ, hag⟩ ih9
 have hS := hS i4 i5 m7 h6 hJ; clear hJ
 refine Run.env hag ?_; clear hag
 refine Run.seq ?_
 refine Run.seq ?_
 refine Run.ops0 (idx := [0, 1, 2]) rfl ?_
 refine Run.go rfl rfl rfl (sem_move ((Value.int .i64 (i4))) rfl ?_)
 refine Run.go rfl rfl rfl (sem_move ((Value.int .i64 (i5))) rfl ?_)
 obtain ⟨hT, hF⟩ := hS
 by_cases hb11 : (i4 : Int) < (i5)
 ·have hS := hT hb11; clear hT hF
  refine Run.go rfl rfl rfl (sem_binI .i64 (i4) (i5) (.bool true) rfl rfl (binI_lss_t hb11) ?_)
  refine Run.region_end ?_
  refine Run.condT rfl ?_
  refine Run.skip ?_
  refine Run.seq ?_
  refine Run.block ?_
  skip
  skip
  skip
  skip
  skip
  skip
  obtain ⟨A18, e19, hi0, hi1, hS⟩ := hS
  have f21 := hi0; have f22 := hi1
  obtain ⟨i23, b24, s25, hl, hS⟩ := hS
  have f26 := hl
  skip
  skip
  obtain ⟨A29, e30, hi0, hi1, hS⟩ := hS
  have f32 := hi0; have f33 := hi1
  obtain ⟨i34, b35, s36, hl, hS⟩ := hS
  have f37 := hl
  obtain ⟨A38, e39, hi0, hi1, hS⟩ := hS
  have f41 := hi0; have f42 := hi1
  refine Run.drawM (fun h' => CellsAt B h' (Addr.add A18 (Int.toNat (i5) * 3)) 0 [(Value.int .i64 (i23)), (Value.bool b24), (Value.string s25)] ∧ CellsAt B h' (Addr.add A29 (Int.toNat (i4) * 3)) 0 [(Value.int .i64 (i34)), (Value.bool b35), (Value.string s36)] ∧ True) [15] ⟨[0, 0, 0, 0, 0, 0, 48, 64, 0, 0, 768, 1024, 2291, 6387, 16383, 32767], [65535, 65535, 65535, 65535, 65535, 65535, 65487, 65471, 65535, 65535, 64767, 64511, 65532, 61311, 65523, 47103], [0, 0, 0, 0, 0, 0, 48, 112, 0, 0, 768, 1792, 4083, 8179, 16383, 32767], 32768⟩ (.q 0 (.q 1 (.q 2 (.q 3 (.q 4 (.q 5 (.q 6 (.q 7 (.q 8 (.q 9 (.q 10 (.q 11 (.q 12 (.x 13 (.q 14 (.x 15 .nil .no)) .no)))))))))))))) TF.mixed (by kernel_rfl) ⟨f26, f37, trivial⟩ ?_
  refine RunT.quiet rfl rfl rfl (fun h' hC => sem_move ((Value.slice a1 n2 c3)) rfl ⟨rfl, rfl⟩) ?_
  refine RunT.quiet rfl rfl rfl (fun h' hC => sem_move ((Value.int .i64 (i4))) rfl ⟨rfl, rfl⟩) ?_
  refine RunT.quiet rfl rfl rfl (fun h' hC => sem_move ((Value.slice a1 n2 c3)) rfl ⟨rfl, rfl⟩) ?_
  refine RunT.quiet rfl rfl rfl (fun h' hC => sem_move ((Value.int .i64 (i5))) rfl ⟨rfl, rfl⟩) ?_
  refine RunT.quiet rfl rfl rfl (fun h' hC => sem_move ((Value.slice a1 n2 c3)) rfl ⟨rfl, rfl⟩) ?_
  refine RunT.quiet rfl rfl rfl (fun h' hC => sem_move ((Value.int .i64 (i5))) rfl ⟨rfl, rfl⟩) ?_
  refine RunT.quiet rfl rfl rfl (fun h' hC => sem_indexAddrS A18 n2 c3 .i64 (i5) (congrArg (fun a => Value.slice a n2 c3) e19) rfl TF.slc_158 f21 f22 ⟨rfl, rfl⟩) ?_
  refine RunT.quiet rfl rfl rfl (fun h' hC => sem_loadN (Addr.add A18 (Int.toNat (i5) * 3)) [(Value.int .i64 (i23)), (Value.bool b24), (Value.string s25)] rfl TF.agg_162 TF.sz_162 hC.1 ⟨rfl, rfl⟩) ?_
  refine RunT.quiet rfl rfl rfl (fun h' hC => sem_move ((Value.slice a1 n2 c3)) rfl ⟨rfl, rfl⟩) ?_
  refine RunT.quiet rfl rfl rfl (fun h' hC => sem_move ((Value.int .i64 (i4))) rfl ⟨rfl, rfl⟩) ?_
  refine RunT.quiet rfl rfl rfl (fun h' hC => sem_indexAddrS A29 n2 c3 .i64 (i4) (congrArg (fun a => Value.slice a n2 c3) e30) rfl TF.slc_158 f32 f33 ⟨rfl, rfl⟩) ?_
  refine RunT.quiet rfl rfl rfl (fun h' hC => sem_loadN (Addr.add A29 (Int.toNat (i4) * 3)) [(Value.int .i64 (i34)), (Value.bool b35), (Value.string s36)] rfl TF.agg_162 TF.sz_162 hC.2.1 ⟨rfl, rfl⟩) ?_
  refine RunT.quiet rfl rfl rfl (fun h' hC => sem_indexAddrS A38 n2 c3 .i64 (i4) (congrArg (fun a => Value.slice a n2 c3) e39) rfl TF.slc_158 f41 f42 ⟨rfl, rfl⟩) ?_
  refine ⟨?_, trivial⟩
  obtain ⟨h43, hst, hS⟩ := hS
  refine OpH.go rfl rfl rfl (sem_storeN (Addr.add A38 (Int.toNat (i4) * 3)) [(Value.int .i64 (i23)), (Value.bool b24), (Value.string s25)] h43 rfl rfl TF.sz_162 hst ?_)
  obtain ⟨g44, g45, hS⟩ := hS
  refine ⟨fun _ => ⟨g44, g45, trivial⟩, ?_⟩
  obtain ⟨A46, e47, hi0, hi1, hS⟩ := hS
  refine RunT.quiet rfl rfl rfl (fun h' hC => sem_indexAddrS A46 n2 c3 .i64 (i5) (congrArg (fun a => Value.slice a n2 c3) e47) rfl TF.slc_158 hi0 hi1 ⟨rfl, rfl⟩) ?_
  refine ⟨?_, trivial⟩
  obtain ⟨h48, hst, hS⟩ := hS
  refine OpH.go rfl rfl rfl (sem_storeN (Addr.add A46 (Int.toNat (i5) * 3)) [(Value.int .i64 (i34)), (Value.bool b35), (Value.string s36)] h48 rfl rfl TF.sz_162 hst ?_)
  refine ⟨fun hz => Bool.noConfusion hz, ?_⟩
  refine Run.inBlock ?_
  refine Run.ops0 (idx := [0, 1, 2, 3, 4, 5]) rfl ?_
  refine Run.go rfl rfl rfl (sem_move ((Value.int .i64 (i4))) rfl ?_)
  refine Run.go rfl rfl rfl (sem_binI .i64 (i4) (1) ((Value.int .i64 (IntKind.wrap .i64 ((i4) + (1))))) rfl rfl rfl ?_)
  refine Run.go rfl rfl rfl (sem_move ((Value.int .i64 (i5))) rfl ?_)
  refine Run.go rfl rfl rfl (sem_binI .i64 (i5) (1) ((Value.int .i64 (IntKind.wrap .i64 ((i5) - (1))))) rfl rfl rfl ?_)
  refine Run.go rfl rfl rfl (sem_assign ((Value.int .i64 (IntKind.wrap .i64 ((i4) + (1))))) rfl ?_)
  refine Run.go rfl rfl rfl (sem_assign ((Value.int .i64 (IntKind.wrap .i64 ((i5) - (1))))) rfl ?_)
  refine Run.region_end ?_
  exact Run.of_fin (hS.imp fun h' ⟨m', hm, hS⟩ => ih9 ((IntKind.wrap .i64 ((i4) + (1))), (IntKind.wrap .i64 ((i5) - (1))), m') _ _ ⟨hS, ⟨rfl, rfl, rfl, trivial⟩⟩ hm)
 ·have hS := hF hb11; clear hT hF
  refine Run.go rfl rfl rfl (sem_binI .i64 (i4) (i5) (.bool false) rfl rfl (binI_lss_f hb11) ?_)
  refine Run.region_end ?_
  refine Run.condF rfl ?_
  refine Run.exit rfl ?_
  refine Run.fall ⟨.inl rfl, ?_⟩
  exact hS.imp fun h' hq => ⟨rfl, hq⟩
end Go.Proofs.Ytcncdfmnpmmikaa.H
