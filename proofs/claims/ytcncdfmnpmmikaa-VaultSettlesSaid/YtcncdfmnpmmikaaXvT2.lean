/- The functions do what they ask for. No condition. -/
import Derived.Test.YtcncdfmnpmmikaaXvS
namespace Go.Proofs.Ytcncdfmnpmmikaa.H
open Go
set_option linter.unusedVariables false
set_option maxRecDepth 100000

set_option maxHeartbeats 4000000 in
theorem C_vault_Open.of {B : RO} {p1 : Option Addr} {h : Heap} {Q : Option Addr → ByteArray → Option Addr → Nat → Nat → Int → Heap → Prop} (hS : S_vault_Open B p1 h Q) : C_vault_Open B p1 h Q := by
 unfold S_vault_Open at hS
 unfold C_vault_Open
 refine Spec.of_run Try.func27 (N := 57) (rs := [ResultVar.tmp 2, ResultVar.cell 3 51, ResultVar.tmp 4]) rfl rfl rfl (Nat.le_of_ble_eq_true rfl) ?_
 refine Run.seq ?_
 refine Run.ops0 (idx := [0, 1, 2]) rfl ?_
 refine Run.go rfl rfl rfl (sem_assign ((Value.pointer none)) rfl ?_)
 refine Run.go rfl rfl rfl (sem_allocN [(Value.string ByteArray.empty), (Value.slice none 0 0)] TF.zero_51 (fun k8 hb1 hb2 h9 hb3 => ?_))
 have hS := hS k8 hb1 hb2 h9 hb3
 refine Run.go rfl rfl rfl (sem_assign ((Value.int .i64 (0))) rfl ?_)
 refine Run.region_end ?_
 refine Run.seq ?_
 refine Run.seq ?_
 refine Run.ops0 (idx := [0, 1]) rfl ?_
 refine Run.go rfl rfl rfl (sem_move ((Value.pointer p1)) rfl ?_)
 obtain ⟨hT, hF⟩ := hS
 by_cases hb10 : p1 = none
 ·have hS := hT hb10; clear hT hF
  refine Run.go rfl rfl rfl (sem_ptrNilT p1 (.inl rfl) true rfl rfl TF.ptr_47 hb10 rfl ?_)
  refine Run.region_end ?_
  refine Run.condT rfl ?_
  refine Run.seq ?_
  refine Run.ops0 (idx := [0, 1, 2, 3]) rfl ?_
  refine Run.go rfl rfl rfl (sem_buildSL [] [(Value.string ByteArray.empty), (Value.slice none 0 0)] TF.zero_51 TF.places_51 rfl rfl ?_)
  refine Run.go rfl rfl rfl (sem_assign ((Value.pointer none)) rfl ?_)
  obtain ⟨h11, hst, hS⟩ := hS
  refine Run.go rfl rfl rfl (sem_storeN ⟨k8, 0, none⟩ [(Value.string ByteArray.empty), (Value.slice none 0 0)] h11 rfl rfl TF.sz_51 hst ?_)
  refine Run.go rfl rfl rfl (sem_assign ((Value.int .i64 (2))) rfl ?_)
  refine Run.region_end ?_
  obtain ⟨s12, a13, n14, c15, hl1, hS⟩ := hS
  refine Run.ret ⟨.inr rfl, ?_⟩
  exact ⟨⟨k8, 0, none⟩, (Value.agg #[(Value.string s12), (Value.slice a13 n14 c15)]), rfl, loadHN TF.agg_51 TF.sz_51 hl1, hS.imp fun h' hq => ⟨none, s12, a13, n14, c15, (2), rfl, hq⟩⟩
 ·have hS := hF hb10; clear hT hF
  refine Run.go rfl rfl rfl (sem_ptrNilF p1 (.inl rfl) false rfl rfl TF.ptr_47 hb10 rfl ?_)
  refine Run.region_end ?_
  refine Run.condF rfl ?_
  refine Run.skip ?_
  refine Run.seq ?_
  refine Run.ops0 (idx := [0, 1, 2, 3]) rfl ?_
  refine Run.go rfl rfl rfl (sem_move ((Value.pointer p1)) rfl ?_)
  refine Run.go rfl rfl rfl (sem_buildSL [(0, (Value.pointer p1))] [(Value.pointer p1), (Value.pointer none), (Value.int .i64 (0)), (Value.bool false)] TF.zero_138 TF.places_138 rfl rfl ?_)
  refine Run.go rfl rfl rfl (sem_boxNN [(Value.pointer p1), (Value.pointer none), (Value.int .i64 (0)), (Value.bool false)] rfl (fun k16 hb1 hb2 h17 hb3 => ?_))
  have hS := hS k16 hb1 hb2 h17 hb3
  refine Run.go rfl rfl rfl (sem_assign ((Value.pointer (some ⟨k16, 0, none⟩))) rfl ?_)
  refine Run.region_end ?_
  refine Run.seq ?_
  refine Run.ops0 (idx := [0]) rfl ?_
  refine Run.go rfl rfl rfl (sem_allocN [(Value.string ByteArray.empty), (Value.slice none 0 0)] TF.zero_51 (fun k18 hb1 hb2 h19 hb3 => ?_))
  have hS := hS k18 hb1 hb2 h19 hb3
  refine Run.region_end ?_
  refine Run.seq ?_
  refine Run.seq ?_
  refine Run.ops0 (idx := [0]) rfl ?_
  refine Run.go rfl rfl rfl (sem_move ((Value.int .i64 (0))) rfl ?_)
  refine Run.region_end ?_
  refine Run.block ?_
  obtain ⟨J25, m23, h0, hS⟩ := hS
  refine Run.of_fin (h0.imp fun h' h0 => ?_)
  refine Run.loop (σ := Int × Nat) (fun x e h => J25 x.1 x.2 h ∧ Agree [(0, (Value.pointer p1)), (3, (Value.pointer (some ⟨k8, 0, none⟩))), (5, (Value.pointer (some ⟨k16, 0, none⟩))), (6, (Value.pointer (some ⟨k18, 0, none⟩))), (18, (Value.int .i64 (x.1)))] e) (fun x => x.2) ((0), m23) ⟨h0, ⟨rfl, rfl, rfl, rfl, rfl, trivial⟩⟩ ?_; clear h0
  rintro ⟨i20, m22⟩ e h21 ⟨hJ, hag⟩ ih24
  have hS := hS i20 m22 h21 hJ; clear hJ
  refine Run.env hag ?_; clear hag
  refine Run.seq ?_
  refine Run.ops0 (idx := [0]) rfl ?_
  obtain ⟨hT, hF⟩ := hS
  by_cases hb26 : (i20 : Int) < (2)
  ·have hS := hT hb26; clear hT hF
   refine Run.go rfl rfl rfl (sem_binI .i64 (i20) (2) (.bool true) rfl rfl (binI_lss_t hb26) ?_)
   refine Run.region_end ?_
   refine Run.seq ?_
   refine Run.condT rfl ?_
   refine Run.skip ?_
   refine Run.seq ?_
   refine Run.block ?_
   refine Run.seq ?_
   refine Run.ops0 (idx := [0, 1]) rfl ?_
   refine Run.go rfl rfl rfl (sem_move ((Value.int .i64 (i20))) rfl ?_)
   refine Run.go rfl rfl rfl (sem_assign ((Value.int .i64 (i20))) rfl ?_)
   refine Run.region_end ?_
   refine Run.seq ?_
   refine Run.ops0 (idx := [0, 1, 2, 3, 4, 5, 6, 7]) rfl ?_
   refine Run.go rfl rfl rfl (sem_move ((Value.pointer p1)) rfl ?_)
   refine Run.go rfl rfl rfl (sem_move ((Value.int .i64 (i20))) rfl ?_)
   refine Run.go rfl rfl rfl (sem_callL [(Value.pointer p1), (Value.int .i64 (i20))] (TF.goes_70) rfl rfl (Spec.mono hS fun v h27 hv => ?_))
   obtain ⟨p28, i29, rfl, hS⟩ := hv
   refine Run.go rfl rfl rfl (sem_move ((Value.tuple #[(Value.pointer p28), (Value.int .i64 (i29))])) rfl ?_)
   refine Run.go rfl rfl rfl (sem_extract #[(Value.pointer p28), (Value.int .i64 (i29))] ((Value.pointer p28)) rfl rfl ?_)
   refine Run.go rfl rfl rfl (sem_extract #[(Value.pointer p28), (Value.int .i64 (i29))] ((Value.int .i64 (i29))) rfl rfl ?_)
   refine Run.go rfl rfl rfl (sem_assign ((Value.pointer p28)) rfl ?_)
   refine Run.go rfl rfl rfl (sem_assign ((Value.int .i64 (i29))) rfl ?_)
   refine Run.region_end ?_
   refine Run.seq ?_
   refine Run.ops0 (idx := [0, 1, 2, 3, 4, 5, 6, 7]) rfl ?_
   refine Run.go rfl rfl rfl (sem_move ((Value.pointer p28)) rfl ?_)
   refine Run.go rfl rfl rfl (sem_callL [(Value.pointer p28)] (TF.goes_71) rfl rfl (Spec.mono hS fun v h30 hv => ?_))
   obtain ⟨i31, s32, a33, n34, c35, rfl, hS⟩ := hv
   refine Run.go rfl rfl rfl (sem_move ((Value.tuple #[(Value.int .i64 (i31)), (Value.agg #[(Value.string s32), (Value.slice a33 n34 c35)])])) rfl ?_)
   refine Run.go rfl rfl rfl (sem_extract #[(Value.int .i64 (i31)), (Value.agg #[(Value.string s32), (Value.slice a33 n34 c35)])] ((Value.int .i64 (i31))) rfl rfl ?_)
   refine Run.go rfl rfl rfl (sem_extract #[(Value.int .i64 (i31)), (Value.agg #[(Value.string s32), (Value.slice a33 n34 c35)])] ((Value.agg #[(Value.string s32), (Value.slice a33 n34 c35)])) rfl rfl ?_)
   refine Run.go rfl rfl rfl (sem_allocN [(Value.string ByteArray.empty), (Value.slice none 0 0)] TF.zero_51 (fun k36 hb1 hb2 h37 hb3 => ?_))
   have hS := hS k36 hb1 hb2 h37 hb3
   refine Run.go rfl rfl rfl (sem_assign ((Value.int .i64 (i31))) rfl ?_)
   obtain ⟨h38, hst, hS⟩ := hS
   refine Run.go rfl rfl rfl (sem_storeN ⟨k36, 0, none⟩ [(Value.string s32), (Value.slice a33 n34 c35)] h38 rfl rfl TF.sz_51 hst ?_)
   refine Run.region_end ?_
   refine Run.seqJ (fun e h41 => ∃ b40 : Bool, Agree [(0, (Value.pointer p1)), (3, (Value.pointer (some ⟨k8, 0, none⟩))), (5, (Value.pointer (some ⟨k16, 0, none⟩))), (6, (Value.pointer (some ⟨k18, 0, none⟩))), (8, (Value.pointer p28)), (10, (Value.int .i64 (i31))), (11, (Value.pointer (some ⟨k36, 0, none⟩))), (18, (Value.int .i64 (i20))), (44, (Value.bool b40))] e ∧ S_vault_Open_J1 B p1 k8 k16 k18 i20 m22 J25 p28 i31 k36 b40 h41 Q) ?_ fun j39 => ?_
   ·rintro e h41 ⟨b40, hag, hS⟩
    refine Run.env hag ?_; clear hag
    obtain ⟨hT, hF⟩ := hS
    cases b40
    ·have hS := hF rfl; clear hT hF
     refine Run.condF rfl ?_
     refine Run.skip ?_
     refine Run.inBlock ?_
     refine Run.ops0 (idx := [0, 1]) rfl ?_
     refine Run.go rfl rfl rfl (sem_binI .i64 (i20) (1) ((Value.int .i64 (IntKind.wrap .i64 ((i20) + (1))))) rfl rfl rfl ?_)
     refine Run.go rfl rfl rfl (sem_move ((Value.int .i64 (IntKind.wrap .i64 ((i20) + (1))))) rfl ?_)
     refine Run.region_end ?_
     exact Run.of_fin (hS.imp fun h' ⟨m', hm, hS⟩ => ih24 ((IntKind.wrap .i64 ((i20) + (1))), m') _ _ ⟨hS, ⟨rfl, rfl, rfl, rfl, rfl, trivial⟩⟩ hm)
    ·have hS := hT rfl; clear hT hF
     refine Run.condT rfl ?_
     skip
     skip
     skip
     skip
     obtain ⟨s46, a47, n48, c49, hl, hS⟩ := hS
     have f50 := hl
     skip
     skip
     refine Run.drawM (fun h' => CellsAt B h' ⟨k36, 0, none⟩ 0 [(Value.string s46), (Value.slice a47 n48 c49)] ∧ True) [11] ⟨[0, 0, 0, 0, 0, 5, 37, 69, 239, 495, 751, 2047], [4095, 4095, 4095, 4095, 4095, 4094, 4063, 4027, 4093, 3839, 3575, 4079], [0, 0, 0, 0, 0, 5, 37, 101, 239, 495, 1007, 2047], 2048⟩ (.q 0 (.q 1 (.q 2 (.q 3 (.q 4 (.q 5 (.q 6 (.x 7 (.q 8 (.q 9 (.x 10 (.x 11 .nil .no) .no))) .no)))))))) TF.mixed (by kernel_rfl) ⟨f50, trivial⟩ ?_
     refine RunT.quiet rfl rfl rfl (fun h' hC => sem_move ((Value.pointer (some ⟨k16, 0, none⟩))) rfl ⟨rfl, rfl⟩) ?_
     refine RunT.quiet rfl rfl rfl (fun h' hC => sem_move ((Value.pointer (some ⟨k16, 0, none⟩))) rfl ⟨rfl, rfl⟩) ?_
     refine RunT.quiet rfl rfl rfl (fun h' hC => sem_move ((Value.pointer p28)) rfl ⟨rfl, rfl⟩) ?_
     refine RunT.quiet rfl rfl rfl (fun h' hC => sem_move ((Value.int .i64 (i31))) rfl ⟨rfl, rfl⟩) ?_
     refine RunT.quiet rfl rfl rfl (fun h' hC => sem_loadN ⟨k36, 0, none⟩ [(Value.string s46), (Value.slice a47 n48 c49)] rfl TF.agg_51 TF.sz_51 hC.1 ⟨rfl, rfl⟩) ?_
     refine RunT.quiet rfl rfl rfl (fun h' hC => sem_nilCheck ⟨k16, 0, none⟩ rfl ⟨rfl, rfl⟩) ?_
     refine RunT.quiet rfl rfl rfl (fun h' hC => sem_fieldAddr ⟨k16, 0, none⟩ 1 rfl TF.fld_138_1 ⟨rfl, rfl⟩) ?_
     refine ⟨?_, trivial⟩
     obtain ⟨h53, hst, hS⟩ := hS
     refine OpH.go rfl rfl rfl (sem_store1 ⟨k16, 1, none⟩ ((Value.pointer p28)) h53 rfl rfl rfl TF.sz_136 hst ?_)
     obtain ⟨g54, hS⟩ := hS
     refine ⟨fun _ => ⟨g54, trivial⟩, ?_⟩
     refine RunT.quiet rfl rfl rfl (fun h' hC => sem_nilCheck ⟨k16, 0, none⟩ rfl ⟨rfl, rfl⟩) ?_
     refine RunT.quiet rfl rfl rfl (fun h' hC => sem_fieldAddr ⟨k16, 0, none⟩ 2 rfl TF.fld_138_2 ⟨rfl, rfl⟩) ?_
     refine ⟨?_, trivial⟩
     obtain ⟨h55, hst, hS⟩ := hS
     refine OpH.go rfl rfl rfl (sem_store1 ⟨k16, 2, none⟩ ((Value.int .i64 (i31))) h55 rfl rfl rfl TF.sz_3 hst ?_)
     obtain ⟨g56, hS⟩ := hS
     refine ⟨fun _ => ⟨g56, trivial⟩, ?_⟩
     refine ⟨?_, trivial⟩
     obtain ⟨h57, hst, hS⟩ := hS
     refine OpH.go rfl rfl rfl (sem_storeN ⟨k18, 0, none⟩ [(Value.string s46), (Value.slice a47 n48 c49)] h57 rfl rfl TF.sz_51 hst ?_)
     refine ⟨fun hz => Bool.noConfusion hz, ?_⟩
     refine Run.inBlock ?_
     refine Run.ops0 (idx := [0, 1]) rfl ?_
     refine Run.go rfl rfl rfl (sem_binI .i64 (i20) (1) ((Value.int .i64 (IntKind.wrap .i64 ((i20) + (1))))) rfl rfl rfl ?_)
     refine Run.go rfl rfl rfl (sem_move ((Value.int .i64 (IntKind.wrap .i64 ((i20) + (1))))) rfl ?_)
     refine Run.region_end ?_
     exact Run.of_fin (hS.imp fun h' ⟨m', hm, hS⟩ => ih24 ((IntKind.wrap .i64 ((i20) + (1))), m') _ _ ⟨hS, ⟨rfl, rfl, rfl, rfl, rfl, trivial⟩⟩ hm)
   refine Run.ops0 (idx := [0, 1, 2, 3, 4, 5, 6, 7, 8, 9, 10, 11, 12]) rfl ?_
   refine Run.go rfl rfl rfl (sem_move ((Value.pointer (some ⟨k16, 0, none⟩))) rfl ?_)
   refine Run.go rfl rfl rfl (sem_nilCheck ⟨k16, 0, none⟩ rfl ?_)
   refine Run.go rfl rfl rfl (sem_fieldAddr ⟨k16, 0, none⟩ 1 rfl TF.fld_138_1 ?_)
   obtain ⟨p58, hl, hS⟩ := hS
   refine Run.go rfl rfl rfl (sem_load1 ⟨k16, 1, none⟩ ((Value.pointer p58)) rfl TF.agg_136 hl ?_)
   obtain ⟨hT, hF⟩ := hS
   by_cases hb59 : p58 = none
   ·have hS := hT hb59; clear hT hF
    refine Run.go rfl rfl rfl (sem_ptrNilT p58 (.inl rfl) true rfl rfl TF.ptr_136 hb59 rfl ?_)
    refine Run.go rfl rfl rfl (sem_move ((Value.bool true)) rfl ?_)
    refine Run.no rfl rfl rfl ?_
    refine Run.no rfl rfl rfl ?_
    refine Run.no rfl rfl rfl ?_
    refine Run.no rfl rfl rfl ?_
    refine Run.no rfl rfl rfl ?_
    refine Run.no rfl rfl rfl ?_
    refine Run.go rfl rfl rfl (sem_pick true ((Value.bool true)) rfl rfl ?_)
    refine Run.region_end ?_
    exact Run.of_fin (hS.imp fun h' hS => j39 _ _ ⟨(true), ⟨rfl, rfl, rfl, rfl, rfl, rfl, rfl, rfl, rfl, trivial⟩, hS⟩)
   ·have hS := hF hb59; clear hT hF
    refine Run.go rfl rfl rfl (sem_ptrNilF p58 (.inl rfl) false rfl rfl TF.ptr_136 hb59 rfl ?_)
    refine Run.go rfl rfl rfl (sem_move ((Value.bool false)) rfl ?_)
    refine Run.go rfl rfl rfl (sem_move ((Value.int .i64 (i31))) rfl ?_)
    refine Run.go rfl rfl rfl (sem_move ((Value.pointer (some ⟨k16, 0, none⟩))) rfl ?_)
    refine Run.go rfl rfl rfl (sem_nilCheck ⟨k16, 0, none⟩ rfl ?_)
    refine Run.go rfl rfl rfl (sem_fieldAddr ⟨k16, 0, none⟩ 2 rfl TF.fld_138_2 ?_)
    obtain ⟨i60, hl, hS⟩ := hS
    refine Run.go rfl rfl rfl (sem_load1 ⟨k16, 2, none⟩ ((Value.int .i64 (i60))) rfl TF.agg_3 hl ?_)
    obtain ⟨hT, hF⟩ := hS
    by_cases hb61 : (i31 : Int) > (i60)
    ·have hS := hT hb61; clear hT hF
     refine Run.go rfl rfl rfl (sem_binI .i64 (i31) (i60) (.bool true) rfl rfl (binI_gtr_t hb61) ?_)
     refine Run.go rfl rfl rfl (sem_pick false ((Value.bool true)) rfl rfl ?_)
     refine Run.region_end ?_
     exact Run.of_fin (hS.imp fun h' hS => j39 _ _ ⟨(true), ⟨rfl, rfl, rfl, rfl, rfl, rfl, rfl, rfl, rfl, trivial⟩, hS⟩)
    ·have hS := hF hb61; clear hT hF
     refine Run.go rfl rfl rfl (sem_binI .i64 (i31) (i60) (.bool false) rfl rfl (binI_gtr_f hb61) ?_)
     refine Run.go rfl rfl rfl (sem_pick false ((Value.bool false)) rfl rfl ?_)
     refine Run.region_end ?_
     exact Run.of_fin (hS.imp fun h' hS => j39 _ _ ⟨(false), ⟨rfl, rfl, rfl, rfl, rfl, rfl, rfl, rfl, rfl, trivial⟩, hS⟩)
  ·have hS := hF hb26; clear hT hF
   refine Run.go rfl rfl rfl (sem_binI .i64 (i20) (2) (.bool false) rfl rfl (binI_lss_f hb26) ?_)
   refine Run.region_end ?_
   refine Run.seq ?_
   refine Run.condF rfl ?_
   refine Run.exit rfl ?_
   refine Run.seq ?_
   skip
   obtain ⟨s63, a64, n65, c66, hl, hS⟩ := hS
   have f67 := hl
   skip
   refine Run.drawM (fun h' => CellsAt B h' ⟨k18, 0, none⟩ 0 [(Value.string s63), (Value.slice a64 n65 c66)] ∧ True) [] ⟨[0, 0, 1, 7, 15], [31, 31, 30, 29, 31], [0, 0, 0, 0, 0], 0⟩ (.q 0 (.q 1 (.q 2 (.x 3 (.q 4 .nil) .no)))) TF.mixed (by kernel_rfl) ⟨f67, trivial⟩ ?_
   refine RunT.quiet rfl rfl rfl (fun h' hC => sem_move ((Value.pointer (some ⟨k16, 0, none⟩))) rfl ⟨rfl, rfl⟩) ?_
   refine RunT.quiet rfl rfl rfl (fun h' hC => sem_loadN ⟨k18, 0, none⟩ [(Value.string s63), (Value.slice a64 n65 c66)] rfl TF.agg_51 TF.sz_51 hC.1 ⟨rfl, rfl⟩) ?_
   refine RunT.quiet rfl rfl rfl (fun h' hC => sem_assign ((Value.pointer (some ⟨k16, 0, none⟩))) rfl ⟨rfl, rfl⟩) ?_
   refine ⟨?_, trivial⟩
   obtain ⟨h69, hst, hS⟩ := hS
   refine OpH.go rfl rfl rfl (sem_storeN ⟨k8, 0, none⟩ [(Value.string s63), (Value.slice a64 n65 c66)] h69 rfl rfl TF.sz_51 hst ?_)
   obtain ⟨g70, hS⟩ := hS
   refine ⟨fun _ => ⟨g70, trivial⟩, ?_⟩
   refine RunT.quiet rfl rfl rfl (fun h' hC => sem_assign ((Value.int .i64 (0))) rfl ⟨rfl, rfl⟩) ?_
   obtain ⟨s71, a72, n73, c74, hl1, hS⟩ := hS
   refine Run.ret ⟨.inr rfl, ?_⟩
   exact ⟨⟨k8, 0, none⟩, (Value.agg #[(Value.string s71), (Value.slice a72 n73 c74)]), rfl, loadHN TF.agg_51 TF.sz_51 hl1, hS.imp fun h' hq => ⟨(some ⟨k16, 0, none⟩), s71, a72, n73, c74, (0), rfl, hq⟩⟩
set_option maxHeartbeats 4000000 in
theorem C_vault_Vault_Settle.of {B : RO} {p1 : Option Addr} {s2 : ByteArray} {h : Heap} {Q : Int → Heap → Prop} (hS : S_vault_Vault_Settle B p1 s2 h Q) : C_vault_Vault_Settle B p1 s2 h Q := by
 unfold S_vault_Vault_Settle at hS
 unfold C_vault_Vault_Settle
 refine Spec.of_run Try.func28 (N := 79) (rs := [ResultVar.tmp 4]) rfl rfl rfl (Nat.le_of_ble_eq_true rfl) ?_
 refine Run.seq ?_
 refine Run.ops0 (idx := [0]) rfl ?_
 refine Run.go rfl rfl rfl (sem_assign ((Value.int .i64 (0))) rfl ?_)
 refine Run.region_end ?_
 refine Run.seqJ (fun e h5 => Agree [(0, (Value.pointer p1)), (1, (Value.string s2))] e ∧ S_vault_Vault_Settle_J1 B p1 s2 h5 Q) ?_ fun j4 => ?_
 ·rintro e h5 ⟨hag, hS⟩
  refine Run.env hag ?_; clear hag
  refine Run.seq ?_
  refine Run.ops0 (idx := [0, 1, 2]) rfl ?_
  refine Run.go rfl rfl rfl (sem_buildSL [] [(Value.slice none 0 0)] TF.zero_146 TF.places_146 rfl rfl ?_)
  refine Run.go rfl rfl rfl (sem_boxNN [(Value.slice none 0 0)] rfl (fun k6 hb1 hb2 h7 hb3 => ?_))
  have hS := hS k6 hb1 hb2 h7 hb3
  refine Run.go rfl rfl rfl (sem_assign ((Value.pointer (some ⟨k6, 0, none⟩))) rfl ?_)
  refine Run.region_end ?_
  refine Run.seq ?_
  refine Run.ops0 (idx := [0, 1, 2, 3, 4, 5, 6, 7]) rfl ?_
  refine Run.go rfl rfl rfl (sem_move ((Value.pointer (some ⟨k6, 0, none⟩))) rfl ?_)
  refine Run.go rfl rfl rfl (sem_move ((Value.pointer p1)) rfl ?_)
  obtain ⟨A8, e9, hS⟩ := hS
  refine Run.go rfl rfl rfl (sem_nilCheck A8 (congrArg Value.pointer e9) ?_)
  refine Run.go rfl rfl rfl (sem_fieldAddr A8 2 rfl TF.fld_138_2 ?_)
  obtain ⟨i10, hl, hS⟩ := hS
  refine Run.go rfl rfl rfl (sem_load1 (Addr.add A8 2) ((Value.int .i64 (i10))) rfl TF.agg_3 hl ?_)
  refine Run.go rfl rfl rfl (sem_binI .i64 (i10) (1) ((Value.int .i64 (IntKind.wrap .i64 ((i10) + (1))))) rfl rfl rfl ?_)
  refine Run.go rfl rfl rfl (sem_buildSliceL [(0, (Value.int .i64 (0))), (1, (Value.int .i64 (IntKind.wrap .i64 ((i10) + (1)))))] [(Value.int .i64 (0)), (Value.int .i64 (IntKind.wrap .i64 ((i10) + (1))))] TF.slc_184 TF.zero_3 rfl (by decide) (by decide) rfl rfl (fun k11 hb1 hb2 h12 hb3 => ?_))
  have hS := hS k11 hb1 hb2 h12 hb3
  refine Run.go rfl rfl rfl (sem_callL [(Value.pointer (some ⟨k6, 0, none⟩)), (Value.slice (some ⟨k11, 0, none⟩) 2 2)] (TF.goes_72) rfl rfl (Spec.mono hS fun v h13 hv => ?_))
  obtain ⟨rfl, hS⟩ := hv
  refine Run.region_end ?_
  refine Run.seq ?_
  refine Run.ops0 (idx := [0, 1, 2]) rfl ?_
  refine Run.go rfl rfl rfl (sem_move ((Value.pointer (some ⟨k6, 0, none⟩))) rfl ?_)
  refine Run.go rfl rfl rfl (sem_move ((Value.string s2)) rfl ?_)
  refine Run.go rfl rfl rfl (sem_callL [(Value.pointer (some ⟨k6, 0, none⟩)), (Value.string s2)] (TF.goes_73) rfl rfl (Spec.mono hS fun v h14 hv => ?_))
  obtain ⟨rfl, hS⟩ := hv
  refine Run.region_end ?_
  refine Run.seq ?_
  refine Run.seq ?_
  refine Run.ops0 (idx := [0, 1, 2, 3]) rfl ?_
  refine Run.go rfl rfl rfl (sem_move ((Value.pointer (some ⟨k6, 0, none⟩))) rfl ?_)
  refine Run.go rfl rfl rfl (sem_callL [(Value.pointer (some ⟨k6, 0, none⟩))] (TF.goes_74) rfl rfl (Spec.mono hS fun v h15 hv => ?_))
  obtain ⟨s16, rfl, hS⟩ := hv
  refine Run.go rfl rfl rfl (sem_lenStr s16 rfl TF.isStr_9 ?_)
  obtain ⟨hT, hF⟩ := hS
  by_cases hb17 : ((ByteArray.size s16 : Nat) : Int) > (1024)
  ·have hS := hT hb17; clear hT hF
   refine Run.go rfl rfl rfl (sem_binI .i64 ((ByteArray.size s16 : Nat)) (1024) (.bool true) rfl rfl (binI_gtr_t hb17) ?_)
   refine Run.region_end ?_
   refine Run.condT rfl ?_
   refine Run.seq ?_
   refine Run.ops0 (idx := [0]) rfl ?_
   refine Run.go rfl rfl rfl (sem_assign ((Value.int .i64 (3))) rfl ?_)
   refine Run.region_end ?_
   refine Run.ret ⟨.inr rfl, ?_⟩
   exact hS.imp fun h' hq => ⟨(3), rfl, hq⟩
  ·have hS := hF hb17; clear hT hF
   refine Run.go rfl rfl rfl (sem_binI .i64 ((ByteArray.size s16 : Nat)) (1024) (.bool false) rfl rfl (binI_gtr_f hb17) ?_)
   refine Run.region_end ?_
   refine Run.condF rfl ?_
   refine Run.skip ?_
   refine Run.seq ?_
   refine Run.ops0 (idx := [0, 1, 2, 3, 4]) rfl ?_
   refine Run.go rfl rfl rfl (sem_move ((Value.pointer p1)) rfl ?_)
   obtain ⟨A18, e19, hS⟩ := hS
   refine Run.go rfl rfl rfl (sem_nilCheck A18 (congrArg Value.pointer e19) ?_)
   refine Run.go rfl rfl rfl (sem_fieldAddr A18 1 rfl TF.fld_138_1 ?_)
   obtain ⟨p20, hl, hS⟩ := hS
   refine Run.go rfl rfl rfl (sem_load1 (Addr.add A18 1) ((Value.pointer p20)) rfl TF.agg_136 hl ?_)
   refine Run.go rfl rfl rfl (sem_assign ((Value.pointer p20)) rfl ?_)
   refine Run.region_end ?_
   refine Run.seq ?_
   skip
   obtain ⟨A22, e23, hS⟩ := hS
   skip
   skip
   obtain ⟨p26, hl, hS⟩ := hS
   have f27 := hl
   skip
   refine Run.drawM (fun h' => cellH B h' A22 = some (Value.pointer p26) ∧ True) [] ⟨[0, 1, 2, 4, 0, 16, 32, 104, 128, 256, 256, 1023, 4095], [8191, 8190, 8189, 8187, 8191, 8175, 8159, 8119, 8063, 7935, 7935, 7679, 7167], [0, 0, 0, 0, 0, 0, 0, 0, 0, 0, 0, 0, 0], 0⟩ (.q 0 (.q 1 (.q 2 (.q 3 (.q 4 (.x 5 (.q 6 (.x 7 (.q 8 (.q 9 (.q 10 (.q 11 (.q 12 .nil))))) .no)) .no)))))) TF.mixed (by kernel_rfl) ⟨f27, trivial⟩ ?_
   refine RunT.quiet rfl rfl rfl (fun h' hC => sem_move ((Value.pointer p1)) rfl ⟨rfl, rfl⟩) ?_
   refine RunT.quiet rfl rfl rfl (fun h' hC => sem_nilCheck A22 (congrArg Value.pointer e23) ⟨rfl, rfl⟩) ?_
   refine RunT.quiet rfl rfl rfl (fun h' hC => sem_fieldAddr A22 0 rfl TF.fld_138_0 ⟨rfl, rfl⟩) ?_
   refine RunT.quiet rfl rfl rfl (fun h' hC => sem_load1 A22 ((Value.pointer p26)) rfl TF.agg_47 hC.1 ⟨rfl, rfl⟩) ?_
   refine RunT.quiet rfl rfl rfl (fun h' hC => sem_move ((Value.pointer p20)) rfl ⟨rfl, rfl⟩) ?_
   refine ⟨?_, trivial⟩
   refine OpH.go rfl rfl rfl (sem_callL [(Value.pointer p20)] (TF.goes_75) rfl rfl (Spec.mono hS fun v h29 hv => ?_))
   obtain ⟨i30, rfl, hS⟩ := hv
   obtain ⟨g31, hS⟩ := hS
   refine ⟨fun _ => ⟨g31, trivial⟩, ?_⟩
   refine RunT.quiet rfl rfl rfl (fun h' hC => sem_binI .i64 (1) (i30) ((Value.int .i64 (IntKind.wrap .i64 ((1) - (i30))))) rfl rfl rfl ⟨rfl, rfl⟩) ?_
   refine ⟨?_, trivial⟩
   refine OpH.go rfl rfl rfl (sem_callL [(Value.pointer p26), (Value.int .i64 (IntKind.wrap .i64 ((1) - (i30))))] (TF.goes_70) rfl rfl (Spec.mono hS fun v h32 hv => ?_))
   obtain ⟨p33, i34, rfl, hS⟩ := hv
   obtain ⟨g35, hS⟩ := hS
   refine ⟨fun _ => ⟨g35, trivial⟩, ?_⟩
   refine RunT.quiet rfl rfl rfl (fun h' hC => sem_move ((Value.tuple #[(Value.pointer p33), (Value.int .i64 (i34))])) rfl ⟨rfl, rfl⟩) ?_
   refine RunT.quiet rfl rfl rfl (fun h' hC => sem_extract #[(Value.pointer p33), (Value.int .i64 (i34))] ((Value.pointer p33)) rfl rfl ⟨rfl, rfl⟩) ?_
   refine RunT.quiet rfl rfl rfl (fun h' hC => sem_extract #[(Value.pointer p33), (Value.int .i64 (i34))] ((Value.int .i64 (i34))) rfl rfl ⟨rfl, rfl⟩) ?_
   refine RunT.quiet rfl rfl rfl (fun h' hC => sem_assign ((Value.pointer p33)) rfl ⟨rfl, rfl⟩) ?_
   refine RunT.quiet rfl rfl rfl (fun h' hC => sem_assign ((Value.int .i64 (i34))) rfl ⟨rfl, rfl⟩) ?_
   refine Run.seq ?_
   refine Run.ops0 (idx := [0, 1]) rfl ?_
   refine Run.go rfl rfl rfl (sem_move ((Value.pointer p33)) rfl ?_)
   refine Run.go rfl rfl rfl (sem_callL [(Value.pointer p33)] (TF.goes_76) rfl rfl (Spec.mono hS fun v h36 hv => ?_))
   obtain ⟨rfl, hS⟩ := hv
   refine Run.region_end ?_
   refine Run.seq ?_
   refine Run.ops0 (idx := [0, 1]) rfl ?_
   refine Run.go rfl rfl rfl (sem_move ((Value.pointer p33)) rfl ?_)
   refine Run.go rfl rfl rfl (sem_callL [(Value.pointer p33)] (TF.goes_77) rfl rfl (Spec.mono hS fun v h37 hv => ?_))
   obtain ⟨rfl, hS⟩ := hv
   refine Run.region_end ?_
   refine Run.seq ?_
   refine Run.ops0 (idx := [0, 1, 2, 3]) rfl ?_
   refine Run.go rfl rfl rfl (sem_move ((Value.pointer p33)) rfl ?_)
   refine Run.go rfl rfl rfl (sem_move ((Value.pointer (some ⟨k6, 0, none⟩))) rfl ?_)
   refine Run.go rfl rfl rfl (sem_callL [(Value.pointer (some ⟨k6, 0, none⟩))] (TF.goes_74) rfl rfl (Spec.mono hS fun v h38 hv => ?_))
   obtain ⟨s39, rfl, hS⟩ := hv
   refine Run.go rfl rfl rfl (sem_callL [(Value.pointer p33), (Value.string s39)] (TF.goes_78) rfl rfl (Spec.mono hS fun v h40 hv => ?_))
   obtain ⟨i41, rfl, hS⟩ := hv
   refine Run.region_end ?_
   refine Run.seq ?_
   refine Run.ops0 (idx := [0, 1]) rfl ?_
   refine Run.go rfl rfl rfl (sem_move ((Value.pointer p33)) rfl ?_)
   refine Run.go rfl rfl rfl (sem_callL [(Value.pointer p33)] (TF.goes_77) rfl rfl (Spec.mono hS fun v h42 hv => ?_))
   obtain ⟨rfl, hS⟩ := hv
   refine Run.region_end ?_
   refine Run.seq ?_
   refine Run.ops0 (idx := [0, 1]) rfl ?_
   refine Run.go rfl rfl rfl (sem_move ((Value.pointer p20)) rfl ?_)
   refine Run.go rfl rfl rfl (sem_callL [(Value.pointer p20)] (TF.goes_76) rfl rfl (Spec.mono hS fun v h43 hv => ?_))
   obtain ⟨rfl, hS⟩ := hv
   refine Run.region_end ?_
   refine Run.seq ?_
   refine Run.ops0 (idx := [0, 1]) rfl ?_
   refine Run.go rfl rfl rfl (sem_move ((Value.pointer p20)) rfl ?_)
   refine Run.go rfl rfl rfl (sem_callL [(Value.pointer p20)] (TF.goes_77) rfl rfl (Spec.mono hS fun v h44 hv => ?_))
   obtain ⟨rfl, hS⟩ := hv
   refine Run.region_end ?_
   refine Run.seq ?_
   refine Run.ops0 (idx := [0, 1, 2, 3, 4, 5, 6, 7, 8, 9, 10, 11, 12, 13, 14, 15, 16, 17]) rfl ?_
   refine Run.go rfl rfl rfl (sem_move ((Value.pointer p1)) rfl ?_)
   refine Run.go rfl rfl rfl (sem_move ((Value.pointer p1)) rfl ?_)
   refine Run.go rfl rfl rfl (sem_move ((Value.pointer p1)) rfl ?_)
   refine Run.go rfl rfl rfl (sem_move ((Value.pointer p33)) rfl ?_)
   refine Run.go rfl rfl rfl (sem_move ((Value.pointer p1)) rfl ?_)
   obtain ⟨A45, e46, hS⟩ := hS
   refine Run.go rfl rfl rfl (sem_nilCheck A45 (congrArg Value.pointer e46) ?_)
   refine Run.go rfl rfl rfl (sem_fieldAddr A45 2 rfl TF.fld_138_2 ?_)
   obtain ⟨i47, hl, hS⟩ := hS
   refine Run.go rfl rfl rfl (sem_load1 (Addr.add A45 2) ((Value.int .i64 (i47))) rfl TF.agg_3 hl ?_)
   refine Run.go rfl rfl rfl (sem_binI .i64 (i47) (1) ((Value.int .i64 (IntKind.wrap .i64 ((i47) + (1))))) rfl rfl rfl ?_)
   obtain ⟨A48, e49, hS⟩ := hS
   refine Run.go rfl rfl rfl (sem_nilCheck A48 (congrArg Value.pointer e49) ?_)
   refine Run.go rfl rfl rfl (sem_fieldAddr A48 1 rfl TF.fld_138_1 ?_)
   obtain ⟨h50, hst, hS⟩ := hS
   refine Run.go rfl rfl rfl (sem_store1 (Addr.add A48 1) ((Value.pointer p33)) h50 rfl rfl rfl TF.sz_136 hst ?_)
   obtain ⟨A51, e52, hS⟩ := hS
   refine Run.go rfl rfl rfl (sem_nilCheck A51 (congrArg Value.pointer e52) ?_)
   refine Run.go rfl rfl rfl (sem_fieldAddr A51 2 rfl TF.fld_138_2 ?_)
   obtain ⟨h53, hst, hS⟩ := hS
   refine Run.go rfl rfl rfl (sem_store1 (Addr.add A51 2) ((Value.int .i64 (IntKind.wrap .i64 ((i47) + (1))))) h53 rfl rfl rfl TF.sz_3 hst ?_)
   obtain ⟨A54, e55, hS⟩ := hS
   refine Run.go rfl rfl rfl (sem_nilCheck A54 (congrArg Value.pointer e55) ?_)
   refine Run.go rfl rfl rfl (sem_fieldAddr A54 3 rfl TF.fld_138_3 ?_)
   obtain ⟨h56, hst, hS⟩ := hS
   refine Run.go rfl rfl rfl (sem_store1 (Addr.add A54 3) ((Value.bool true)) h56 rfl rfl rfl TF.sz_4 hst ?_)
   refine Run.region_end ?_
   refine Run.seq ?_
   refine Run.ops0 (idx := [0]) rfl ?_
   refine Run.go rfl rfl rfl (sem_assign ((Value.int .i64 (0))) rfl ?_)
   refine Run.region_end ?_
   refine Run.ret ⟨.inr rfl, ?_⟩
   exact hS.imp fun h' hq => ⟨(0), rfl, hq⟩
 refine Run.block ?_
 refine Run.seq ?_
 refine Run.ops0 (idx := [0, 1, 2]) rfl ?_
 refine Run.go rfl rfl rfl (sem_move ((Value.pointer p1)) rfl ?_)
 obtain ⟨hT, hF⟩ := hS
 by_cases hb57 : p1 = none
 ·have hS := hT hb57; clear hT hF
  refine Run.go rfl rfl rfl (sem_ptrNilT p1 (.inl rfl) true rfl rfl TF.ptr_49 hb57 rfl ?_)
  refine Run.go rfl rfl rfl (sem_assign ((Value.bool true)) rfl ?_)
  refine Run.region_end ?_
  refine Run.condT rfl ?_
  refine Run.seq ?_
  refine Run.ops0 (idx := [0]) rfl ?_
  refine Run.go rfl rfl rfl (sem_assign ((Value.int .i64 (2))) rfl ?_)
  refine Run.region_end ?_
  refine Run.ret ⟨.inr rfl, ?_⟩
  exact hS.imp fun h' hq => ⟨(2), rfl, hq⟩
 ·have hS := hF hb57; clear hT hF
  refine Run.go rfl rfl rfl (sem_ptrNilF p1 (.inl rfl) false rfl rfl TF.ptr_49 hb57 rfl ?_)
  refine Run.go rfl rfl rfl (sem_assign ((Value.bool false)) rfl ?_)
  refine Run.region_end ?_
  refine Run.condF rfl ?_
  refine Run.seq ?_
  refine Run.ops0 (idx := [0, 1, 2, 3, 4, 5]) rfl ?_
  refine Run.go rfl rfl rfl (sem_move ((Value.pointer p1)) rfl ?_)
  obtain ⟨A58, e59, hS⟩ := hS
  refine Run.go rfl rfl rfl (sem_nilCheck A58 (congrArg Value.pointer e59) ?_)
  refine Run.go rfl rfl rfl (sem_fieldAddr A58 2 rfl TF.fld_138_2 ?_)
  obtain ⟨i60, hl, hS⟩ := hS
  refine Run.go rfl rfl rfl (sem_load1 (Addr.add A58 2) ((Value.int .i64 (i60))) rfl TF.agg_3 hl ?_)
  obtain ⟨hT, hF⟩ := hS
  by_cases hb61 : (i60 : Int) ≥ (1099511627776)
  ·have hS := hT hb61; clear hT hF
   refine Run.go rfl rfl rfl (sem_binI .i64 (i60) (1099511627776) (.bool true) rfl rfl (binI_geq_t hb61) ?_)
   refine Run.go rfl rfl rfl (sem_assign ((Value.bool true)) rfl ?_)
   refine Run.region_end ?_
   refine Run.condT rfl ?_
   refine Run.seq ?_
   refine Run.ops0 (idx := [0]) rfl ?_
   refine Run.go rfl rfl rfl (sem_assign ((Value.int .i64 (6))) rfl ?_)
   refine Run.region_end ?_
   refine Run.ret ⟨.inr rfl, ?_⟩
   exact hS.imp fun h' hq => ⟨(6), rfl, hq⟩
  ·have hS := hF hb61; clear hT hF
   refine Run.go rfl rfl rfl (sem_binI .i64 (i60) (1099511627776) (.bool false) rfl rfl (binI_geq_f hb61) ?_)
   refine Run.go rfl rfl rfl (sem_assign ((Value.bool false)) rfl ?_)
   refine Run.region_end ?_
   refine Run.condF rfl ?_
   refine Run.skip ?_
   refine Run.inBlock ?_
   exact Run.of_fin (hS.imp fun h' hS => j4 _ _ ⟨⟨rfl, rfl, trivial⟩, hS⟩)
set_option maxHeartbeats 4000000 in
theorem C_vault_Vault_Append.of {B : RO} {p1 : Option Addr} {s2 : ByteArray} {h : Heap} {Q : Int → Heap → Prop} (hS : S_vault_Vault_Append B p1 s2 h Q) : C_vault_Vault_Append B p1 s2 h Q := by
 unfold S_vault_Vault_Append at hS
 unfold C_vault_Vault_Append
 refine Spec.of_run Try.func29 (N := 23) (rs := [ResultVar.tmp 4]) rfl rfl rfl (Nat.le_of_ble_eq_true rfl) ?_
 refine Run.seq ?_
 refine Run.ops0 (idx := [0]) rfl ?_
 refine Run.go rfl rfl rfl (sem_assign ((Value.int .i64 (0))) rfl ?_)
 refine Run.region_end ?_
 refine Run.seqJ (fun e h5 => Agree [(0, (Value.pointer p1)), (1, (Value.string s2))] e ∧ S_vault_Vault_Append_J1 B p1 s2 h5 Q) ?_ fun j4 => ?_
 ·rintro e h5 ⟨hag, hS⟩
  refine Run.env hag ?_; clear hag
  refine Run.seq ?_
  skip
  obtain ⟨A7, e8, hS⟩ := hS
  skip
  skip
  obtain ⟨p11, hl, hS⟩ := hS
  have f12 := hl
  skip
  refine Run.drawM (fun h' => cellH B h' (Addr.add A7 1) = some (Value.pointer p11) ∧ True) [] ⟨[0, 1, 2, 4, 0, 16, 0, 96, 136, 511], [1023, 1022, 1021, 1019, 1023, 1007, 1023, 927, 887, 767], [0, 0, 0, 0, 0, 0, 0, 0, 0, 0], 0⟩ (.q 0 (.q 1 (.q 2 (.q 3 (.q 6 (.x 4 (.x 5 (.q 7 (.x 8 (.q 9 .nil) .no)) .no) .no)))))) TF.mixed (by kernel_rfl) ⟨f12, trivial⟩ ?_
  refine RunT.quiet rfl rfl rfl (fun h' hC => sem_move ((Value.pointer p1)) rfl ⟨rfl, rfl⟩) ?_
  refine RunT.quiet rfl rfl rfl (fun h' hC => sem_nilCheck A7 (congrArg Value.pointer e8) ⟨rfl, rfl⟩) ?_
  refine RunT.quiet rfl rfl rfl (fun h' hC => sem_fieldAddr A7 1 rfl TF.fld_138_1 ⟨rfl, rfl⟩) ?_
  refine RunT.quiet rfl rfl rfl (fun h' hC => sem_load1 (Addr.add A7 1) ((Value.pointer p11)) rfl TF.agg_136 hC.1 ⟨rfl, rfl⟩) ?_
  refine RunT.quiet rfl rfl rfl (fun h' hC => sem_move ((Value.string s2)) rfl ⟨rfl, rfl⟩) ?_
  refine ⟨?_, trivial⟩
  refine OpH.go rfl rfl rfl (sem_buildSliceL [(0, (Value.int .u8 (1)))] [(Value.int .u8 (1))] TF.slc_144 TF.zero_5 rfl (by decide) (by decide) rfl rfl (fun k14 hb1 hb2 h15 hb3 => ?_))
  have hS := hS k14 hb1 hb2 h15 hb3
  obtain ⟨g16, hS⟩ := hS
  refine ⟨fun _ => ⟨g16, trivial⟩, ?_⟩
  refine ⟨?_, trivial⟩
  refine OpH.go rfl rfl rfl (sem_convW ((Value.slice (some ⟨k14, 0, none⟩) 1 1)) rfl (semH_mono (fun v h18 hv => ?_) hS))
  obtain ⟨s17, rfl, hS⟩ := hv
  obtain ⟨g19, hS⟩ := hS
  refine ⟨fun _ => ⟨g19, trivial⟩, ?_⟩
  obtain ⟨hi0, hS⟩ := hS
  refine RunT.quiet rfl rfl rfl (fun h' hC => sem_strAdd s17 s2 rfl rfl hi0 ⟨rfl, rfl⟩) ?_
  refine ⟨?_, trivial⟩
  refine OpH.go rfl rfl rfl (sem_callL [(Value.pointer p11), (Value.string (s17 ++ s2))] (TF.goes_78) rfl rfl (Spec.mono hS fun v h20 hv => ?_))
  obtain ⟨i21, rfl, hS⟩ := hv
  obtain ⟨g22, hS⟩ := hS
  refine ⟨fun _ => ⟨g22, trivial⟩, ?_⟩
  refine RunT.quiet rfl rfl rfl (fun h' hC => sem_assign ((Value.int .i64 (i21))) rfl ⟨rfl, rfl⟩) ?_
  refine Run.ret ⟨.inr rfl, ?_⟩
  exact hS.imp fun h' hq => ⟨(i21), rfl, hq⟩
 refine Run.block ?_
 refine Run.seq ?_
 refine Run.ops0 (idx := [0, 1, 2]) rfl ?_
 refine Run.go rfl rfl rfl (sem_move ((Value.pointer p1)) rfl ?_)
 obtain ⟨hT, hF⟩ := hS
 by_cases hb23 : p1 = none
 ·have hS := hT hb23; clear hT hF
  refine Run.go rfl rfl rfl (sem_ptrNilT p1 (.inl rfl) true rfl rfl TF.ptr_49 hb23 rfl ?_)
  refine Run.go rfl rfl rfl (sem_assign ((Value.bool true)) rfl ?_)
  refine Run.region_end ?_
  refine Run.condT rfl ?_
  refine Run.seq ?_
  refine Run.ops0 (idx := [0]) rfl ?_
  refine Run.go rfl rfl rfl (sem_assign ((Value.int .i64 (2))) rfl ?_)
  refine Run.region_end ?_
  refine Run.ret ⟨.inr rfl, ?_⟩
  exact hS.imp fun h' hq => ⟨(2), rfl, hq⟩
 ·have hS := hF hb23; clear hT hF
  refine Run.go rfl rfl rfl (sem_ptrNilF p1 (.inl rfl) false rfl rfl TF.ptr_49 hb23 rfl ?_)
  refine Run.go rfl rfl rfl (sem_assign ((Value.bool false)) rfl ?_)
  refine Run.region_end ?_
  refine Run.condF rfl ?_
  refine Run.seq ?_
  refine Run.ops0 (idx := [0, 1, 2, 3, 4, 5]) rfl ?_
  refine Run.go rfl rfl rfl (sem_move ((Value.pointer p1)) rfl ?_)
  obtain ⟨A24, e25, hS⟩ := hS
  refine Run.go rfl rfl rfl (sem_nilCheck A24 (congrArg Value.pointer e25) ?_)
  refine Run.go rfl rfl rfl (sem_fieldAddr A24 3 rfl TF.fld_138_3 ?_)
  obtain ⟨b26, hl, hS⟩ := hS
  obtain ⟨hT, hF⟩ := hS
  cases b26
  ·have hS := hF rfl; clear hT hF
   refine Run.go rfl rfl rfl (sem_load1 (Addr.add A24 3) (.bool false) rfl TF.agg_4 hl ?_)
   refine Run.go rfl rfl rfl (sem_not false rfl ?_)
   refine Run.go rfl rfl rfl (sem_assign ((Value.bool true)) rfl ?_)
   refine Run.region_end ?_
   refine Run.condT rfl ?_
   refine Run.seq ?_
   refine Run.ops0 (idx := [0]) rfl ?_
   refine Run.go rfl rfl rfl (sem_assign ((Value.int .i64 (9))) rfl ?_)
   refine Run.region_end ?_
   refine Run.ret ⟨.inr rfl, ?_⟩
   exact hS.imp fun h' hq => ⟨(9), rfl, hq⟩
  ·have hS := hT rfl; clear hT hF
   refine Run.go rfl rfl rfl (sem_load1 (Addr.add A24 3) (.bool true) rfl TF.agg_4 hl ?_)
   refine Run.go rfl rfl rfl (sem_not true rfl ?_)
   refine Run.go rfl rfl rfl (sem_assign ((Value.bool false)) rfl ?_)
   refine Run.region_end ?_
   refine Run.condF rfl ?_
   refine Run.skip ?_
   refine Run.inBlock ?_
   exact Run.of_fin (hS.imp fun h' hS => j4 _ _ ⟨⟨rfl, rfl, trivial⟩, hS⟩)
set_option maxHeartbeats 4000000 in
theorem C_vault_Vault_Force.of {B : RO} {p1 : Option Addr} {h : Heap} {Q : Heap → Prop} (hS : S_vault_Vault_Force B p1 h Q) : C_vault_Vault_Force B p1 h Q := by
 unfold S_vault_Vault_Force at hS
 unfold C_vault_Vault_Force
 refine Spec.of_run Try.func30 (N := 9) (rs := []) rfl rfl rfl (Nat.le_of_ble_eq_true rfl) ?_
 refine Run.seq ?_
 refine Run.ops0 (idx := [0, 1]) rfl ?_
 refine Run.go rfl rfl rfl (sem_move ((Value.pointer p1)) rfl ?_)
 obtain ⟨hT, hF⟩ := hS
 by_cases hb2 : p1 = none
 ·have hS := hT hb2; clear hT hF
  refine Run.go rfl rfl rfl (sem_ptrNilT p1 (.inr rfl) false rfl rfl TF.ptr_49 hb2 rfl ?_)
  refine Run.region_end ?_
  refine Run.condF rfl ?_
  refine Run.skip ?_
  refine Run.fall ⟨.inl rfl, ?_⟩
  exact hS.imp fun h' hq => ⟨rfl, hq⟩
 ·have hS := hF hb2; clear hT hF
  refine Run.go rfl rfl rfl (sem_ptrNilF p1 (.inr rfl) true rfl rfl TF.ptr_49 hb2 rfl ?_)
  refine Run.region_end ?_
  refine Run.condT rfl ?_
  refine Run.ops0 (idx := [0, 1, 2, 3, 4]) rfl ?_
  refine Run.go rfl rfl rfl (sem_move ((Value.pointer p1)) rfl ?_)
  obtain ⟨A3, e4, hS⟩ := hS
  refine Run.go rfl rfl rfl (sem_nilCheck A3 (congrArg Value.pointer e4) ?_)
  refine Run.go rfl rfl rfl (sem_fieldAddr A3 1 rfl TF.fld_138_1 ?_)
  obtain ⟨p5, hl, hS⟩ := hS
  refine Run.go rfl rfl rfl (sem_load1 (Addr.add A3 1) ((Value.pointer p5)) rfl TF.agg_136 hl ?_)
  refine Run.go rfl rfl rfl (sem_callL [(Value.pointer p5)] (TF.goes_77) rfl rfl (Spec.mono hS fun v h6 hv => ?_))
  obtain ⟨rfl, hS⟩ := hv
  refine Run.region_end ?_
  refine Run.fall ⟨.inl rfl, ?_⟩
  exact hS.imp fun h' hq => ⟨rfl, hq⟩
set_option maxHeartbeats 4000000 in
theorem C_countermandref05_Image.of {B : RO} {i1 : Int} {s2 : ByteArray} {h : Heap} {Q : ByteArray → Heap → Prop} (hS : S_countermandref05_Image B i1 s2 h Q) : C_countermandref05_Image B i1 s2 h Q := by
 unfold S_countermandref05_Image at hS
 unfold C_countermandref05_Image
 refine Spec.of_run Try.func31 (N := 11) (rs := [ResultVar.tmp 4]) rfl rfl rfl (Nat.le_of_ble_eq_true rfl) ?_
 refine Run.seq ?_
 refine Run.ops0 (idx := [0]) rfl ?_
 refine Run.go rfl rfl rfl (sem_assign ((Value.string (ByteArray.mk #[]))) rfl ?_)
 refine Run.region_end ?_
 refine Run.seq ?_
 refine Run.ops0 (idx := [0, 1, 2, 3, 4, 5, 6]) rfl ?_
 refine Run.go rfl rfl rfl (sem_move ((Value.int .i64 (i1))) rfl ?_)
 refine Run.go rfl rfl rfl (sem_callL [(Value.int .i64 (i1))] (TF.goes_80) rfl rfl (Spec.mono hS fun v h4 hv => ?_))
 obtain ⟨s5, rfl, hS⟩ := hv
 obtain ⟨hi0, hS⟩ := hS
 refine Run.go rfl rfl rfl (sem_strAdd (ByteArray.mk #[0]) s5 rfl rfl hi0 ?_)
 refine Run.go rfl rfl rfl (sem_move ((Value.string s2)) rfl ?_)
 obtain ⟨hi0, hS⟩ := hS
 refine Run.go rfl rfl rfl (sem_strAdd ((ByteArray.mk #[0]) ++ s5) s2 rfl rfl hi0 ?_)
 refine Run.go rfl rfl rfl (sem_callL [(Value.string (((ByteArray.mk #[0]) ++ s5) ++ s2))] (TF.goes_79) rfl rfl (Spec.mono hS fun v h6 hv => ?_))
 obtain ⟨s7, rfl, hS⟩ := hv
 refine Run.go rfl rfl rfl (sem_assign ((Value.string s7)) rfl ?_)
 refine Run.region_end ?_
 refine Run.ret ⟨.inr rfl, ?_⟩
 exact hS.imp fun h' hq => ⟨s7, rfl, hq⟩
set_option maxHeartbeats 4000000 in
theorem C_disk_Disk_Reset.of {B : RO} {p1 : Option Addr} {i2 : Int} {h : Heap} {Q : Int → Heap → Prop} (hS : S_disk_Disk_Reset B p1 i2 h Q) : C_disk_Disk_Reset B p1 i2 h Q := by
 unfold S_disk_Disk_Reset at hS
 unfold C_disk_Disk_Reset
 refine Spec.of_run Try.func32 (N := 29) (rs := [ResultVar.tmp 4]) rfl rfl rfl (Nat.le_of_ble_eq_true rfl) ?_
 refine Run.seq ?_
 refine Run.ops0 (idx := [0]) rfl ?_
 refine Run.go rfl rfl rfl (sem_assign ((Value.int .i64 (0))) rfl ?_)
 refine Run.region_end ?_
 refine Run.seqJ (fun e h5 => Agree [(0, (Value.pointer p1)), (1, (Value.int .i64 (i2)))] e ∧ S_disk_Disk_Reset_J1 B p1 i2 h5 Q) ?_ fun j4 => ?_
 ·rintro e h5 ⟨hag, hS⟩
  refine Run.env hag ?_; clear hag
  refine Run.seq ?_
  refine Run.ops0 (idx := [0, 1, 2, 3, 4, 5, 6]) rfl ?_
  refine Run.go rfl rfl rfl (sem_move ((Value.pointer p1)) rfl ?_)
  refine Run.go rfl rfl rfl (sem_move ((Value.int .i64 (i2))) rfl ?_)
  obtain ⟨A6, e7, hS⟩ := hS
  refine Run.go rfl rfl rfl (sem_nilCheck A6 (congrArg Value.pointer e7) ?_)
  refine Run.go rfl rfl rfl (sem_fieldAddr A6 0 rfl TF.fld_135_0 ?_)
  obtain ⟨hi0, hi1, hS⟩ := hS
  refine Run.go rfl rfl rfl (sem_indexAddrA A6 .i64 (i2) rfl rfl TF.arr_132 hi0 hi1 ?_)
  refine Run.go rfl rfl rfl (sem_fieldAddr (Addr.add A6 (Int.toNat (i2) * 2)) 0 rfl TF.fld_131_0 ?_)
  obtain ⟨h8, hst, hS⟩ := hS
  refine Run.go rfl rfl rfl (sem_store1 (Addr.add A6 (Int.toNat (i2) * 2)) ((Value.string (ByteArray.mk #[]))) h8 rfl rfl rfl TF.sz_9 hst ?_)
  refine Run.region_end ?_
  refine Run.seq ?_
  refine Run.ops0 (idx := [0, 1, 2, 3, 4, 5, 6, 7, 8, 9, 10, 11]) rfl ?_
  refine Run.go rfl rfl rfl (sem_move ((Value.pointer p1)) rfl ?_)
  refine Run.go rfl rfl rfl (sem_move ((Value.pointer p1)) rfl ?_)
  obtain ⟨A9, e10, hS⟩ := hS
  refine Run.go rfl rfl rfl (sem_nilCheck A9 (congrArg Value.pointer e10) ?_)
  refine Run.go rfl rfl rfl (sem_fieldAddr A9 4 rfl TF.fld_135_1 ?_)
  refine Run.ldSl hS fun a11 n12 c13 h14 hl hS => ?_
  refine Run.go rfl rfl rfl (sem_load1 (Addr.add A9 4) ((Value.slice a11 n12 c13)) rfl TF.agg_133 hl ?_)
  refine Run.go rfl rfl rfl (sem_move ((Value.int .i64 (i2))) rfl ?_)
  refine Run.go rfl rfl rfl (sem_buildSL [(0, (Value.int .i64 (i2))), (1, (Value.bool true))] [(Value.int .i64 (i2)), (Value.bool true), (Value.string ByteArray.empty)] TF.zero_151 TF.places_151 rfl rfl ?_)
  refine Run.go rfl rfl rfl (sem_buildSliceL [(0, (Value.agg #[(Value.int .i64 (i2)), (Value.bool true), (Value.string ByteArray.empty)]))] [(Value.int .i64 (i2)), (Value.bool true), (Value.string ByteArray.empty)] TF.slc_133 TF.zero_151 rfl (by decide) (by decide) rfl rfl (fun k15 hb1 hb2 h16 hb3 => ?_))
  have hS := hS k15 hb1 hb2 h16 hb3
  refine Run.go rfl rfl rfl (sem_appendL [(Value.slice a11 n12 c13), (Value.slice (some ⟨k15, 0, none⟩) 1 1)] rfl (semH_mono (fun v h17 hv => ?_) hS))
  obtain ⟨a18, n19, c20, rfl, hS⟩ := hv
  obtain ⟨A21, e22, hS⟩ := hS
  refine Run.go rfl rfl rfl (sem_nilCheck A21 (congrArg Value.pointer e22) ?_)
  refine Run.go rfl rfl rfl (sem_fieldAddr A21 4 rfl TF.fld_135_1 ?_)
  obtain ⟨h23, hst, hS⟩ := hS
  refine Run.go rfl rfl rfl (sem_store1 (Addr.add A21 4) ((Value.slice a18 n19 c20)) h23 rfl rfl rfl TF.sz_133 hst ?_)
  refine Run.region_end ?_
  refine Run.seq ?_
  refine Run.ops0 (idx := [0]) rfl ?_
  refine Run.go rfl rfl rfl (sem_assign ((Value.int .i64 (0))) rfl ?_)
  refine Run.region_end ?_
  refine Run.ret ⟨.inr rfl, ?_⟩
  exact hS.imp fun h' hq => ⟨(0), rfl, hq⟩
 refine Run.block ?_
 refine Run.seq ?_
 refine Run.ops0 (idx := [0, 1, 2]) rfl ?_
 refine Run.go rfl rfl rfl (sem_move ((Value.pointer p1)) rfl ?_)
 obtain ⟨hT, hF⟩ := hS
 by_cases hb24 : p1 = none
 ·have hS := hT hb24; clear hT hF
  refine Run.go rfl rfl rfl (sem_ptrNilT p1 (.inl rfl) true rfl rfl TF.ptr_47 hb24 rfl ?_)
  refine Run.go rfl rfl rfl (sem_assign ((Value.bool true)) rfl ?_)
  refine Run.region_end ?_
  refine Run.condT rfl ?_
  refine Run.seq ?_
  refine Run.ops0 (idx := [0]) rfl ?_
  refine Run.go rfl rfl rfl (sem_assign ((Value.int .i64 (2))) rfl ?_)
  refine Run.region_end ?_
  refine Run.ret ⟨.inr rfl, ?_⟩
  exact hS.imp fun h' hq => ⟨(2), rfl, hq⟩
 ·have hS := hF hb24; clear hT hF
  refine Run.go rfl rfl rfl (sem_ptrNilF p1 (.inl rfl) false rfl rfl TF.ptr_47 hb24 rfl ?_)
  refine Run.go rfl rfl rfl (sem_assign ((Value.bool false)) rfl ?_)
  refine Run.region_end ?_
  refine Run.condF rfl ?_
  refine Run.seq ?_
  refine Run.ops0 (idx := [0, 1, 2, 3]) rfl ?_
  refine Run.go rfl rfl rfl (sem_move ((Value.int .i64 (i2))) rfl ?_)
  refine Run.go rfl rfl rfl (sem_callL [(Value.int .i64 (i2))] (TF.goes_81) rfl rfl (Spec.mono hS fun v h25 hv => ?_))
  obtain ⟨b26, rfl, hS⟩ := hv
  obtain ⟨hT, hF⟩ := hS
  cases b26
  ·have hS := hF rfl; clear hT hF
   refine Run.go rfl rfl rfl (sem_not false rfl ?_)
   refine Run.go rfl rfl rfl (sem_assign ((Value.bool true)) rfl ?_)
   refine Run.region_end ?_
   refine Run.condT rfl ?_
   refine Run.seq ?_
   refine Run.ops0 (idx := [0]) rfl ?_
   refine Run.go rfl rfl rfl (sem_assign ((Value.int .i64 (1))) rfl ?_)
   refine Run.region_end ?_
   refine Run.ret ⟨.inr rfl, ?_⟩
   exact hS.imp fun h' hq => ⟨(1), rfl, hq⟩
  ·have hS := hT rfl; clear hT hF
   refine Run.go rfl rfl rfl (sem_not true rfl ?_)
   refine Run.go rfl rfl rfl (sem_assign ((Value.bool false)) rfl ?_)
   refine Run.region_end ?_
   refine Run.condF rfl ?_
   refine Run.skip ?_
   refine Run.inBlock ?_
   exact Run.of_fin (hS.imp fun h' hS => j4 _ _ ⟨⟨rfl, rfl, trivial⟩, hS⟩)
set_option maxHeartbeats 4000000 in
theorem C_disk_Disk_Sync.of {B : RO} {p1 : Option Addr} {h : Heap} {Q : Heap → Prop} (hS : S_disk_Disk_Sync B p1 h Q) : C_disk_Disk_Sync B p1 h Q := by
 unfold S_disk_Disk_Sync at hS
 unfold C_disk_Disk_Sync
 refine Spec.of_run Try.func33 (N := 22) (rs := []) rfl rfl rfl (Nat.le_of_ble_eq_true rfl) ?_
 refine Run.seq ?_
 refine Run.seq ?_
 refine Run.ops0 (idx := [0, 1]) rfl ?_
 refine Run.go rfl rfl rfl (sem_move ((Value.pointer p1)) rfl ?_)
 obtain ⟨hT, hF⟩ := hS
 by_cases hb2 : p1 = none
 ·have hS := hT hb2; clear hT hF
  refine Run.go rfl rfl rfl (sem_ptrNilT p1 (.inl rfl) true rfl rfl TF.ptr_47 hb2 rfl ?_)
  refine Run.region_end ?_
  refine Run.condT rfl ?_
  refine Run.ret ⟨.inr rfl, ?_⟩
  exact hS.imp fun h' hq => ⟨rfl, hq⟩
 ·have hS := hF hb2; clear hT hF
  refine Run.go rfl rfl rfl (sem_ptrNilF p1 (.inl rfl) false rfl rfl TF.ptr_47 hb2 rfl ?_)
  refine Run.region_end ?_
  refine Run.condF rfl ?_
  refine Run.skip ?_
  refine Run.seq ?_
  refine Run.seq ?_
  refine Run.ops0 (idx := [0, 1, 2, 3, 4, 5]) rfl ?_
  refine Run.go rfl rfl rfl (sem_move ((Value.pointer p1)) rfl ?_)
  obtain ⟨A3, e4, hS⟩ := hS
  refine Run.go rfl rfl rfl (sem_nilCheck A3 (congrArg Value.pointer e4) ?_)
  refine Run.go rfl rfl rfl (sem_fieldAddr A3 4 rfl TF.fld_135_1 ?_)
  refine Run.ldSl hS fun a5 n6 c7 h8 hl hS => ?_
  refine Run.go rfl rfl rfl (sem_load1 (Addr.add A3 4) ((Value.slice a5 n6 c7)) rfl TF.agg_133 hl ?_)
  refine Run.go rfl rfl rfl (sem_lenSl a5 n6 c7 rfl TF.sl_133 ?_)
  refine Run.go rfl rfl rfl (sem_move ((Value.int .i64 (0))) rfl ?_)
  refine Run.region_end ?_
  refine Run.block ?_
  obtain ⟨J14, m12, h0, hS⟩ := hS
  refine Run.of_fin (h0.imp fun h' h0 => ?_)
  refine Run.loop (σ := Int × Nat) (fun x e h => J14 x.1 x.2 h ∧ Agree [(0, (Value.pointer p1)), (9, (Value.slice a5 n6 c7)), (10, (Value.int .i64 ((n6 : Nat)))), (11, (Value.int .i64 (x.1)))] e) (fun x => x.2) ((0), m12) ⟨h0, ⟨rfl, rfl, rfl, rfl, trivial⟩⟩ ?_; clear h0
  rintro ⟨i9, m11⟩ e h10 ⟨hJ, hag⟩ ih13
  have hS := hS i9 m11 h10 hJ; clear hJ
  refine Run.env hag ?_; clear hag
  refine Run.seq ?_
  refine Run.ops0 (idx := [0]) rfl ?_
  obtain ⟨hT, hF⟩ := hS
  by_cases hb15 : (i9 : Int) < ((n6 : Nat))
  ·have hS := hT hb15; clear hT hF
   refine Run.go rfl rfl rfl (sem_binI .i64 (i9) ((n6 : Nat)) (.bool true) rfl rfl (binI_lss_t hb15) ?_)
   refine Run.region_end ?_
   refine Run.seq ?_
   refine Run.condT rfl ?_
   refine Run.skip ?_
   refine Run.seq ?_
   refine Run.block ?_
   refine Run.seq ?_
   refine Run.ops0 (idx := [0, 1, 2, 3]) rfl ?_
   obtain ⟨A16, e17, hi0, hi1, hS⟩ := hS
   refine Run.go rfl rfl rfl (sem_indexAddrS A16 n6 c7 .i64 (i9) (congrArg (fun a => Value.slice a n6 c7) e17) rfl TF.slc_133 hi0 hi1 ?_)
   obtain ⟨i18, b19, s20, hl, hS⟩ := hS
   refine Run.go rfl rfl rfl (sem_loadN (Addr.add A16 (Int.toNat (i9) * 3)) [(Value.int .i64 (i18)), (Value.bool b19), (Value.string s20)] rfl TF.agg_151 TF.sz_151 hl ?_)
   refine Run.go rfl rfl rfl (sem_allocN [(Value.int .i64 (0)), (Value.bool false), (Value.string ByteArray.empty)] TF.zero_151 (fun k21 hb1 hb2 h22 hb3 => ?_))
   have hS := hS k21 hb1 hb2 h22 hb3
   obtain ⟨h23, hst, hS⟩ := hS
   refine Run.go rfl rfl rfl (sem_storeN ⟨k21, 0, none⟩ [(Value.int .i64 (i18)), (Value.bool b19), (Value.string s20)] h23 rfl rfl TF.sz_151 hst ?_)
   refine Run.region_end ?_
   refine Run.ops0 (idx := [0, 1, 2]) rfl ?_
   refine Run.go rfl rfl rfl (sem_move ((Value.pointer p1)) rfl ?_)
   obtain ⟨i24, b25, s26, hl, hS⟩ := hS
   refine Run.go rfl rfl rfl (sem_loadN ⟨k21, 0, none⟩ [(Value.int .i64 (i24)), (Value.bool b25), (Value.string s26)] rfl TF.agg_151 TF.sz_151 hl ?_)
   refine Run.go rfl rfl rfl (sem_callL [(Value.pointer p1), (Value.agg #[(Value.int .i64 (i24)), (Value.bool b25), (Value.string s26)])] (TF.goes_82) rfl rfl (Spec.mono hS fun v h27 hv => ?_))
   obtain ⟨rfl, hS⟩ := hv
   refine Run.region_end ?_
   refine Run.inBlock ?_
   refine Run.ops0 (idx := [0, 1]) rfl ?_
   refine Run.go rfl rfl rfl (sem_binI .i64 (i9) (1) ((Value.int .i64 (IntKind.wrap .i64 ((i9) + (1))))) rfl rfl rfl ?_)
   refine Run.go rfl rfl rfl (sem_move ((Value.int .i64 (IntKind.wrap .i64 ((i9) + (1))))) rfl ?_)
   refine Run.region_end ?_
   exact Run.of_fin (hS.imp fun h' ⟨m', hm, hS⟩ => ih13 ((IntKind.wrap .i64 ((i9) + (1))), m') _ _ ⟨hS, ⟨rfl, rfl, rfl, rfl, trivial⟩⟩ hm)
  ·have hS := hF hb15; clear hT hF
   refine Run.go rfl rfl rfl (sem_binI .i64 (i9) ((n6 : Nat)) (.bool false) rfl rfl (binI_lss_f hb15) ?_)
   refine Run.region_end ?_
   refine Run.seq ?_
   refine Run.condF rfl ?_
   refine Run.exit rfl ?_
   refine Run.ops0 (idx := [0, 1, 2, 3]) rfl ?_
   refine Run.go rfl rfl rfl (sem_move ((Value.pointer p1)) rfl ?_)
   obtain ⟨A28, e29, hS⟩ := hS
   refine Run.go rfl rfl rfl (sem_nilCheck A28 (congrArg Value.pointer e29) ?_)
   refine Run.go rfl rfl rfl (sem_fieldAddr A28 4 rfl TF.fld_135_1 ?_)
   obtain ⟨h30, hst, hS⟩ := hS
   refine Run.go rfl rfl rfl (sem_store1 (Addr.add A28 4) ((Value.slice none 0 0)) h30 rfl rfl rfl TF.sz_133 hst ?_)
   refine Run.region_end ?_
   refine Run.fall ⟨.inl rfl, ?_⟩
   exact hS.imp fun h' hq => ⟨rfl, hq⟩
set_option maxHeartbeats 4000000 in
theorem C_disk_Disk_Append.of {B : RO} {p1 : Option Addr} {i2 : Int} {s3 : ByteArray} {h : Heap} {Q : Int → Heap → Prop} (hS : S_disk_Disk_Append B p1 i2 s3 h Q) : C_disk_Disk_Append B p1 i2 s3 h Q := by
 unfold S_disk_Disk_Append at hS
 unfold C_disk_Disk_Append
 refine Spec.of_run Try.func34 (N := 52) (rs := [ResultVar.tmp 6]) rfl rfl rfl (Nat.le_of_ble_eq_true rfl) ?_
 refine Run.seq ?_
 refine Run.ops0 (idx := [0]) rfl ?_
 refine Run.go rfl rfl rfl (sem_assign ((Value.int .i64 (0))) rfl ?_)
 refine Run.region_end ?_
 refine Run.seqJ (fun e h6 => Agree [(0, (Value.pointer p1)), (1, (Value.int .i64 (i2))), (2, (Value.string s3))] e ∧ S_disk_Disk_Append_J1 B p1 i2 s3 h6 Q) ?_ fun j5 => ?_
 ·rintro e h6 ⟨hag, hS⟩
  refine Run.env hag ?_; clear hag
  refine Run.seq ?_
  refine Run.drawM (fun h' => h' = h6) [13] ⟨[0, 0, 1, 4, 10, 16, 32, 0, 192, 1, 512, 1535, 2559, 4607], [16383, 16383, 16382, 16379, 16373, 16367, 16351, 16383, 16191, 16382, 15871, 15357, 14335, 12031], [0, 0, 1, 5, 15, 31, 63, 0, 255, 1, 513, 2047, 4095, 8191], 8192⟩ (.q 0 (.q 1 (.q 2 (.q 3 (.q 4 (.q 5 (.q 6 (.q 7 (.q 8 (.q 9 (.q 10 (.q 11 (.q 12 (.x 13 .nil .no)))))))))))))) TF.mixed (by kernel_rfl) rfl ?_
  refine RunT.quiet rfl rfl rfl (quiet_eq (sem_move ((Value.pointer p1)) rfl ⟨rfl, rfl⟩)) ?_
  refine RunT.quiet rfl rfl rfl (quiet_eq (sem_move ((Value.int .i64 (i2))) rfl ⟨rfl, rfl⟩)) ?_
  obtain ⟨A7, e8, hS⟩ := hS
  refine RunT.quiet rfl rfl rfl (quiet_eq (sem_nilCheck A7 (congrArg Value.pointer e8) ⟨rfl, rfl⟩)) ?_
  refine RunT.quiet rfl rfl rfl (quiet_eq (sem_fieldAddr A7 0 rfl TF.fld_135_0 ⟨rfl, rfl⟩)) ?_
  obtain ⟨hi0, hi1, hS⟩ := hS
  refine RunT.quiet rfl rfl rfl (quiet_eq (sem_indexAddrA A7 .i64 (i2) rfl rfl TF.arr_132 hi0 hi1 ⟨rfl, rfl⟩)) ?_
  refine RunT.quiet rfl rfl rfl (quiet_eq (sem_fieldAddr (Addr.add A7 (Int.toNat (i2) * 2)) 0 rfl TF.fld_131_0 ⟨rfl, rfl⟩)) ?_
  obtain ⟨s9, hl, hS⟩ := hS
  refine RunT.quiet rfl rfl rfl (quiet_eq (sem_load1 (Addr.add A7 (Int.toNat (i2) * 2)) ((Value.string s9)) rfl TF.agg_9 hl ⟨rfl, rfl⟩)) ?_
  refine RunT.quiet rfl rfl rfl (quiet_eq (sem_move ((Value.string s3)) rfl ⟨rfl, rfl⟩)) ?_
  obtain ⟨hi0, hS⟩ := hS
  refine RunT.quiet rfl rfl rfl (quiet_eq (sem_strAdd s9 s3 rfl rfl hi0 ⟨rfl, rfl⟩)) ?_
  obtain ⟨A10, e11, hS⟩ := hS
  refine RunT.quiet rfl rfl rfl (quiet_eq (sem_nilCheck A10 (congrArg Value.pointer e11) ⟨rfl, rfl⟩)) ?_
  refine RunT.quiet rfl rfl rfl (quiet_eq (sem_fieldAddr A10 0 rfl TF.fld_135_0 ⟨rfl, rfl⟩)) ?_
  obtain ⟨hi0, hi1, hS⟩ := hS
  refine RunT.quiet rfl rfl rfl (quiet_eq (sem_indexAddrA A10 .i64 (i2) rfl rfl TF.arr_132 hi0 hi1 ⟨rfl, rfl⟩)) ?_
  refine RunT.quiet rfl rfl rfl (quiet_eq (sem_fieldAddr (Addr.add A10 (Int.toNat (i2) * 2)) 0 rfl TF.fld_131_0 ⟨rfl, rfl⟩)) ?_
  refine ⟨?_, trivial⟩
  obtain ⟨h12, hst, hS⟩ := hS
  refine OpH.go rfl rfl rfl (sem_store1 (Addr.add A10 (Int.toNat (i2) * 2)) ((Value.string (s9 ++ s3))) h12 rfl rfl rfl TF.sz_9 hst ?_)
  refine ⟨fun hz => Bool.noConfusion hz, ?_⟩
  refine Run.seq ?_
  refine Run.ops0 (idx := [0, 1, 2, 3, 4, 5, 6, 7, 8, 9, 10, 11, 12]) rfl ?_
  refine Run.go rfl rfl rfl (sem_move ((Value.pointer p1)) rfl ?_)
  refine Run.go rfl rfl rfl (sem_move ((Value.pointer p1)) rfl ?_)
  obtain ⟨A13, e14, hS⟩ := hS
  refine Run.go rfl rfl rfl (sem_nilCheck A13 (congrArg Value.pointer e14) ?_)
  refine Run.go rfl rfl rfl (sem_fieldAddr A13 4 rfl TF.fld_135_1 ?_)
  refine Run.ldSl hS fun a15 n16 c17 h18 hl hS => ?_
  refine Run.go rfl rfl rfl (sem_load1 (Addr.add A13 4) ((Value.slice a15 n16 c17)) rfl TF.agg_133 hl ?_)
  refine Run.go rfl rfl rfl (sem_move ((Value.int .i64 (i2))) rfl ?_)
  refine Run.go rfl rfl rfl (sem_move ((Value.string s3)) rfl ?_)
  refine Run.go rfl rfl rfl (sem_buildSL [(0, (Value.int .i64 (i2))), (2, (Value.string s3))] [(Value.int .i64 (i2)), (Value.bool false), (Value.string s3)] TF.zero_151 TF.places_151 rfl rfl ?_)
  refine Run.go rfl rfl rfl (sem_buildSliceL [(0, (Value.agg #[(Value.int .i64 (i2)), (Value.bool false), (Value.string s3)]))] [(Value.int .i64 (i2)), (Value.bool false), (Value.string s3)] TF.slc_133 TF.zero_151 rfl (by decide) (by decide) rfl rfl (fun k19 hb1 hb2 h20 hb3 => ?_))
  have hS := hS k19 hb1 hb2 h20 hb3
  refine Run.go rfl rfl rfl (sem_appendL [(Value.slice a15 n16 c17), (Value.slice (some ⟨k19, 0, none⟩) 1 1)] rfl (semH_mono (fun v h21 hv => ?_) hS))
  obtain ⟨a22, n23, c24, rfl, hS⟩ := hv
  obtain ⟨A25, e26, hS⟩ := hS
  refine Run.go rfl rfl rfl (sem_nilCheck A25 (congrArg Value.pointer e26) ?_)
  refine Run.go rfl rfl rfl (sem_fieldAddr A25 4 rfl TF.fld_135_1 ?_)
  obtain ⟨h27, hst, hS⟩ := hS
  refine Run.go rfl rfl rfl (sem_store1 (Addr.add A25 4) ((Value.slice a22 n23 c24)) h27 rfl rfl rfl TF.sz_133 hst ?_)
  refine Run.region_end ?_
  refine Run.seq ?_
  refine Run.ops0 (idx := [0]) rfl ?_
  refine Run.go rfl rfl rfl (sem_assign ((Value.int .i64 (0))) rfl ?_)
  refine Run.region_end ?_
  refine Run.ret ⟨.inr rfl, ?_⟩
  exact hS.imp fun h' hq => ⟨(0), rfl, hq⟩
 refine Run.block ?_
 refine Run.seq ?_
 refine Run.ops0 (idx := [0, 1, 2]) rfl ?_
 refine Run.go rfl rfl rfl (sem_move ((Value.pointer p1)) rfl ?_)
 obtain ⟨hT, hF⟩ := hS
 by_cases hb28 : p1 = none
 ·have hS := hT hb28; clear hT hF
  refine Run.go rfl rfl rfl (sem_ptrNilT p1 (.inl rfl) true rfl rfl TF.ptr_47 hb28 rfl ?_)
  refine Run.go rfl rfl rfl (sem_assign ((Value.bool true)) rfl ?_)
  refine Run.region_end ?_
  refine Run.condT rfl ?_
  refine Run.seq ?_
  refine Run.ops0 (idx := [0]) rfl ?_
  refine Run.go rfl rfl rfl (sem_assign ((Value.int .i64 (2))) rfl ?_)
  refine Run.region_end ?_
  refine Run.ret ⟨.inr rfl, ?_⟩
  exact hS.imp fun h' hq => ⟨(2), rfl, hq⟩
 ·have hS := hF hb28; clear hT hF
  refine Run.go rfl rfl rfl (sem_ptrNilF p1 (.inl rfl) false rfl rfl TF.ptr_47 hb28 rfl ?_)
  refine Run.go rfl rfl rfl (sem_assign ((Value.bool false)) rfl ?_)
  refine Run.region_end ?_
  refine Run.condF rfl ?_
  refine Run.seq ?_
  refine Run.ops0 (idx := [0, 1, 2, 3]) rfl ?_
  refine Run.go rfl rfl rfl (sem_move ((Value.int .i64 (i2))) rfl ?_)
  refine Run.go rfl rfl rfl (sem_callL [(Value.int .i64 (i2))] (TF.goes_81) rfl rfl (Spec.mono hS fun v h29 hv => ?_))
  obtain ⟨b30, rfl, hS⟩ := hv
  obtain ⟨hT, hF⟩ := hS
  cases b30
  ·have hS := hF rfl; clear hT hF
   refine Run.go rfl rfl rfl (sem_not false rfl ?_)
   refine Run.go rfl rfl rfl (sem_assign ((Value.bool true)) rfl ?_)
   refine Run.region_end ?_
   refine Run.condT rfl ?_
   refine Run.seq ?_
   refine Run.ops0 (idx := [0]) rfl ?_
   refine Run.go rfl rfl rfl (sem_assign ((Value.int .i64 (1))) rfl ?_)
   refine Run.region_end ?_
   refine Run.ret ⟨.inr rfl, ?_⟩
   exact hS.imp fun h' hq => ⟨(1), rfl, hq⟩
  ·have hS := hT rfl; clear hT hF
   refine Run.go rfl rfl rfl (sem_not true rfl ?_)
   refine Run.go rfl rfl rfl (sem_assign ((Value.bool false)) rfl ?_)
   refine Run.region_end ?_
   refine Run.condF rfl ?_
   refine Run.seq ?_
   refine Run.ops0 (idx := [0, 1, 2, 3, 4, 5, 6, 7, 8, 9, 10, 11, 12]) rfl ?_
   refine Run.go rfl rfl rfl (sem_move ((Value.string s3)) rfl ?_)
   refine Run.go rfl rfl rfl (sem_lenStr s3 rfl TF.isStr_9 ?_)
   refine Run.go rfl rfl rfl (sem_move ((Value.pointer p1)) rfl ?_)
   refine Run.go rfl rfl rfl (sem_move ((Value.int .i64 (i2))) rfl ?_)
   obtain ⟨A31, e32, hS⟩ := hS
   refine Run.go rfl rfl rfl (sem_nilCheck A31 (congrArg Value.pointer e32) ?_)
   refine Run.go rfl rfl rfl (sem_fieldAddr A31 0 rfl TF.fld_135_0 ?_)
   obtain ⟨hi0, hi1, hS⟩ := hS
   refine Run.go rfl rfl rfl (sem_indexAddrA A31 .i64 (i2) rfl rfl TF.arr_132 hi0 hi1 ?_)
   refine Run.go rfl rfl rfl (sem_fieldAddr (Addr.add A31 (Int.toNat (i2) * 2)) 0 rfl TF.fld_131_0 ?_)
   obtain ⟨s33, hl, hS⟩ := hS
   refine Run.go rfl rfl rfl (sem_load1 (Addr.add A31 (Int.toNat (i2) * 2)) ((Value.string s33)) rfl TF.agg_9 hl ?_)
   refine Run.go rfl rfl rfl (sem_lenStr s33 rfl TF.isStr_9 ?_)
   refine Run.go rfl rfl rfl (sem_binI .i64 (16384) ((ByteArray.size s33 : Nat)) ((Value.int .i64 (IntKind.wrap .i64 ((16384) - ((ByteArray.size s33 : Nat)))))) rfl rfl rfl ?_)
   obtain ⟨hT, hF⟩ := hS
   by_cases hb34 : ((ByteArray.size s3 : Nat) : Int) > (IntKind.wrap .i64 ((16384) - ((ByteArray.size s33 : Nat))))
   ·have hS := hT hb34; clear hT hF
    refine Run.go rfl rfl rfl (sem_binI .i64 ((ByteArray.size s3 : Nat)) (IntKind.wrap .i64 ((16384) - ((ByteArray.size s33 : Nat)))) (.bool true) rfl rfl (binI_gtr_t hb34) ?_)
    refine Run.go rfl rfl rfl (sem_assign ((Value.bool true)) rfl ?_)
    refine Run.region_end ?_
    refine Run.condT rfl ?_
    refine Run.seq ?_
    refine Run.ops0 (idx := [0]) rfl ?_
    refine Run.go rfl rfl rfl (sem_assign ((Value.int .i64 (6))) rfl ?_)
    refine Run.region_end ?_
    refine Run.ret ⟨.inr rfl, ?_⟩
    exact hS.imp fun h' hq => ⟨(6), rfl, hq⟩
   ·have hS := hF hb34; clear hT hF
    refine Run.go rfl rfl rfl (sem_binI .i64 ((ByteArray.size s3 : Nat)) (IntKind.wrap .i64 ((16384) - ((ByteArray.size s33 : Nat)))) (.bool false) rfl rfl (binI_gtr_f hb34) ?_)
    refine Run.go rfl rfl rfl (sem_assign ((Value.bool false)) rfl ?_)
    refine Run.region_end ?_
    refine Run.condF rfl ?_
    refine Run.skip ?_
    refine Run.inBlock ?_
    exact Run.of_fin (hS.imp fun h' hS => j5 _ _ ⟨⟨rfl, rfl, rfl, trivial⟩, hS⟩)
set_option maxHeartbeats 4000000 in
theorem C_disk_Disk_Crash.of {B : RO} {p1 : Option Addr} {i2 : Int} {i3 : Int} {h : Heap} {Q : Heap → Prop} (hS : S_disk_Disk_Crash B p1 i2 i3 h Q) : C_disk_Disk_Crash B p1 i2 i3 h Q := by
 unfold S_disk_Disk_Crash at hS
 unfold C_disk_Disk_Crash
 refine Spec.of_run Try.func35 (N := 64) (rs := []) rfl rfl rfl (Nat.le_of_ble_eq_true rfl) ?_
 refine Run.seq ?_
 refine Run.seq ?_
 refine Run.ops0 (idx := [0, 1]) rfl ?_
 refine Run.go rfl rfl rfl (sem_move ((Value.pointer p1)) rfl ?_)
 obtain ⟨hT, hF⟩ := hS
 by_cases hb4 : p1 = none
 ·have hS := hT hb4; clear hT hF
  refine Run.go rfl rfl rfl (sem_ptrNilT p1 (.inl rfl) true rfl rfl TF.ptr_47 hb4 rfl ?_)
  refine Run.region_end ?_
  refine Run.condT rfl ?_
  refine Run.ret ⟨.inr rfl, ?_⟩
  exact hS.imp fun h' hq => ⟨rfl, hq⟩
 ·have hS := hF hb4; clear hT hF
  refine Run.go rfl rfl rfl (sem_ptrNilF p1 (.inl rfl) false rfl rfl TF.ptr_47 hb4 rfl ?_)
  refine Run.region_end ?_
  refine Run.condF rfl ?_
  refine Run.skip ?_
  refine Run.seqJ (fun e h6 => Agree [(0, (Value.pointer p1))] e ∧ S_disk_Disk_Crash_J1 B p1 h6 Q) ?_ fun j5 => ?_
  ·rintro e h6 ⟨hag, hS⟩
   refine Run.env hag ?_; clear hag
   refine Run.seq ?_
   refine Run.ops0 (idx := [0, 1, 2, 3]) rfl ?_
   refine Run.go rfl rfl rfl (sem_move ((Value.pointer p1)) rfl ?_)
   obtain ⟨A7, e8, hS⟩ := hS
   refine Run.go rfl rfl rfl (sem_nilCheck A7 (congrArg Value.pointer e8) ?_)
   refine Run.go rfl rfl rfl (sem_fieldAddr A7 4 rfl TF.fld_135_1 ?_)
   obtain ⟨h9, hst, hS⟩ := hS
   refine Run.go rfl rfl rfl (sem_store1 (Addr.add A7 4) ((Value.slice none 0 0)) h9 rfl rfl rfl TF.sz_133 hst ?_)
   refine Run.region_end ?_
   refine Run.seq ?_
   refine Run.ops0 (idx := [0]) rfl ?_
   refine Run.go rfl rfl rfl (sem_move ((Value.int .i64 (0))) rfl ?_)
   refine Run.region_end ?_
   refine Run.block ?_
   obtain ⟨J15, m13, h0, hS⟩ := hS
   refine Run.of_fin (h0.imp fun h' h0 => ?_)
   refine Run.loop (σ := Int × Nat) (fun x e h => J15 x.1 x.2 h ∧ Agree [(0, (Value.pointer p1)), (47, (Value.int .i64 (x.1)))] e) (fun x => x.2) ((0), m13) ⟨h0, ⟨rfl, rfl, trivial⟩⟩ ?_; clear h0
   rintro ⟨i10, m12⟩ e h11 ⟨hJ, hag⟩ ih14
   have hS := hS i10 m12 h11 hJ; clear hJ
   refine Run.env hag ?_; clear hag
   refine Run.seq ?_
   refine Run.ops0 (idx := [0]) rfl ?_
   obtain ⟨hT, hF⟩ := hS
   by_cases hb16 : (i10 : Int) < (2)
   ·have hS := hT hb16; clear hT hF
    refine Run.go rfl rfl rfl (sem_binI .i64 (i10) (2) (.bool true) rfl rfl (binI_lss_t hb16) ?_)
    refine Run.region_end ?_
    refine Run.seq ?_
    refine Run.condT rfl ?_
    refine Run.skip ?_
    refine Run.seq ?_
    refine Run.block ?_
    refine Run.seq ?_
    refine Run.ops0 (idx := [0, 1]) rfl ?_
    refine Run.go rfl rfl rfl (sem_move ((Value.int .i64 (i10))) rfl ?_)
    refine Run.go rfl rfl rfl (sem_assign ((Value.int .i64 (i10))) rfl ?_)
    refine Run.region_end ?_
    refine Run.drawM (fun h' => h' = h11) [13] ⟨[0, 0, 0, 0, 4, 16, 40, 64, 128, 1, 512, 1535, 2559, 4607], [16383, 16383, 16383, 16383, 16379, 16367, 16343, 16319, 16255, 16382, 15871, 15357, 14335, 12031], [0, 0, 0, 0, 4, 20, 60, 124, 252, 1, 513, 2047, 4095, 8191], 8192⟩ (.q 0 (.q 1 (.q 2 (.q 3 (.q 4 (.q 5 (.q 6 (.q 7 (.q 8 (.q 9 (.q 10 (.q 11 (.q 12 (.x 13 .nil .no)))))))))))))) TF.mixed (by kernel_rfl) rfl ?_
    refine RunT.quiet rfl rfl rfl (quiet_eq (sem_move ((Value.pointer p1)) rfl ⟨rfl, rfl⟩)) ?_
    refine RunT.quiet rfl rfl rfl (quiet_eq (sem_move ((Value.int .i64 (i10))) rfl ⟨rfl, rfl⟩)) ?_
    refine RunT.quiet rfl rfl rfl (quiet_eq (sem_move ((Value.pointer p1)) rfl ⟨rfl, rfl⟩)) ?_
    refine RunT.quiet rfl rfl rfl (quiet_eq (sem_move ((Value.int .i64 (i10))) rfl ⟨rfl, rfl⟩)) ?_
    obtain ⟨A17, e18, hS⟩ := hS
    refine RunT.quiet rfl rfl rfl (quiet_eq (sem_nilCheck A17 (congrArg Value.pointer e18) ⟨rfl, rfl⟩)) ?_
    refine RunT.quiet rfl rfl rfl (quiet_eq (sem_fieldAddr A17 0 rfl TF.fld_135_0 ⟨rfl, rfl⟩)) ?_
    obtain ⟨hi0, hi1, hS⟩ := hS
    refine RunT.quiet rfl rfl rfl (quiet_eq (sem_indexAddrA A17 .i64 (i10) rfl rfl TF.arr_132 hi0 hi1 ⟨rfl, rfl⟩)) ?_
    refine RunT.quiet rfl rfl rfl (quiet_eq (sem_fieldAddr (Addr.add A17 (Int.toNat (i10) * 2)) 1 rfl TF.fld_131_1 ⟨rfl, rfl⟩)) ?_
    obtain ⟨s19, hl, hS⟩ := hS
    refine RunT.quiet rfl rfl rfl (quiet_eq (sem_load1 (Addr.add (Addr.add A17 (Int.toNat (i10) * 2)) 1) ((Value.string s19)) rfl TF.agg_9 hl ⟨rfl, rfl⟩)) ?_
    obtain ⟨A20, e21, hS⟩ := hS
    refine RunT.quiet rfl rfl rfl (quiet_eq (sem_nilCheck A20 (congrArg Value.pointer e21) ⟨rfl, rfl⟩)) ?_
    refine RunT.quiet rfl rfl rfl (quiet_eq (sem_fieldAddr A20 0 rfl TF.fld_135_0 ⟨rfl, rfl⟩)) ?_
    obtain ⟨hi0, hi1, hS⟩ := hS
    refine RunT.quiet rfl rfl rfl (quiet_eq (sem_indexAddrA A20 .i64 (i10) rfl rfl TF.arr_132 hi0 hi1 ⟨rfl, rfl⟩)) ?_
    refine RunT.quiet rfl rfl rfl (quiet_eq (sem_fieldAddr (Addr.add A20 (Int.toNat (i10) * 2)) 0 rfl TF.fld_131_0 ⟨rfl, rfl⟩)) ?_
    refine ⟨?_, trivial⟩
    obtain ⟨h22, hst, hS⟩ := hS
    refine OpH.go rfl rfl rfl (sem_store1 (Addr.add A20 (Int.toNat (i10) * 2)) ((Value.string s19)) h22 rfl rfl rfl TF.sz_9 hst ?_)
    refine ⟨fun hz => Bool.noConfusion hz, ?_⟩
    refine Run.inBlock ?_
    refine Run.ops0 (idx := [0, 1]) rfl ?_
    refine Run.go rfl rfl rfl (sem_binI .i64 (i10) (1) ((Value.int .i64 (IntKind.wrap .i64 ((i10) + (1))))) rfl rfl rfl ?_)
    refine Run.go rfl rfl rfl (sem_move ((Value.int .i64 (IntKind.wrap .i64 ((i10) + (1))))) rfl ?_)
    refine Run.region_end ?_
    exact Run.of_fin (hS.imp fun h' ⟨m', hm, hS⟩ => ih14 ((IntKind.wrap .i64 ((i10) + (1))), m') _ _ ⟨hS, ⟨rfl, rfl, trivial⟩⟩ hm)
   ·have hS := hF hb16; clear hT hF
    refine Run.go rfl rfl rfl (sem_binI .i64 (i10) (2) (.bool false) rfl rfl (binI_lss_f hb16) ?_)
    refine Run.region_end ?_
    refine Run.seq ?_
    refine Run.condF rfl ?_
    refine Run.exit rfl ?_
    refine Run.fall ⟨.inl rfl, ?_⟩
    exact hS.imp fun h' hq => ⟨rfl, hq⟩
  refine Run.seq ?_
  refine Run.ops0 (idx := [0, 1, 2, 3, 4, 5]) rfl ?_
  refine Run.go rfl rfl rfl (sem_move ((Value.pointer p1)) rfl ?_)
  obtain ⟨A23, e24, hS⟩ := hS
  refine Run.go rfl rfl rfl (sem_nilCheck A23 (congrArg Value.pointer e24) ?_)
  refine Run.go rfl rfl rfl (sem_fieldAddr A23 4 rfl TF.fld_135_1 ?_)
  refine Run.ldSl hS fun a25 n26 c27 h28 hl hS => ?_
  refine Run.go rfl rfl rfl (sem_load1 (Addr.add A23 4) ((Value.slice a25 n26 c27)) rfl TF.agg_133 hl ?_)
  refine Run.go rfl rfl rfl (sem_lenSl a25 n26 c27 rfl TF.sl_133 ?_)
  refine Run.go rfl rfl rfl (sem_move ((Value.int .i64 (0))) rfl ?_)
  refine Run.region_end ?_
  refine Run.block ?_
  obtain ⟨J34, m32, h0, hS⟩ := hS
  refine Run.of_fin (h0.imp fun h' h0 => ?_)
  refine Run.loop (σ := Int × Nat) (fun x e h => J34 x.1 x.2 h ∧ Agree [(0, (Value.pointer p1)), (1, (Value.int .i64 (i2))), (2, (Value.int .i64 (i3))), (14, (Value.slice a25 n26 c27)), (15, (Value.int .i64 ((n26 : Nat)))), (16, (Value.int .i64 (x.1)))] e) (fun x => x.2) ((0), m32) ⟨h0, ⟨rfl, rfl, rfl, rfl, rfl, rfl, trivial⟩⟩ ?_; clear h0
  rintro ⟨i29, m31⟩ e h30 ⟨hJ, hag⟩ ih33
  have hS := hS i29 m31 h30 hJ; clear hJ
  refine Run.env hag ?_; clear hag
  refine Run.seq ?_
  refine Run.ops0 (idx := [0]) rfl ?_
  obtain ⟨hT, hF⟩ := hS
  by_cases hb35 : (i29 : Int) < ((n26 : Nat))
  ·have hS := hT hb35; clear hT hF
   refine Run.go rfl rfl rfl (sem_binI .i64 (i29) ((n26 : Nat)) (.bool true) rfl rfl (binI_lss_t hb35) ?_)
   refine Run.region_end ?_
   refine Run.seq ?_
   refine Run.condT rfl ?_
   refine Run.skip ?_
   refine Run.seq ?_
   refine Run.block ?_
   refine Run.seq ?_
   refine Run.ops0 (idx := [0, 1, 2, 3, 4, 5]) rfl ?_
   refine Run.go rfl rfl rfl (sem_move ((Value.int .i64 (i29))) rfl ?_)
   obtain ⟨A36, e37, hi0, hi1, hS⟩ := hS
   refine Run.go rfl rfl rfl (sem_indexAddrS A36 n26 c27 .i64 (i29) (congrArg (fun a => Value.slice a n26 c27) e37) rfl TF.slc_133 hi0 hi1 ?_)
   obtain ⟨i38, b39, s40, hl, hS⟩ := hS
   refine Run.go rfl rfl rfl (sem_loadN (Addr.add A36 (Int.toNat (i29) * 3)) [(Value.int .i64 (i38)), (Value.bool b39), (Value.string s40)] rfl TF.agg_151 TF.sz_151 hl ?_)
   refine Run.go rfl rfl rfl (sem_allocN [(Value.int .i64 (0)), (Value.bool false), (Value.string ByteArray.empty)] TF.zero_151 (fun k41 hb1 hb2 h42 hb3 => ?_))
   have hS := hS k41 hb1 hb2 h42 hb3
   refine Run.go rfl rfl rfl (sem_assign ((Value.int .i64 (i29))) rfl ?_)
   obtain ⟨h43, hst, hS⟩ := hS
   refine Run.go rfl rfl rfl (sem_storeN ⟨k41, 0, none⟩ [(Value.int .i64 (i38)), (Value.bool b39), (Value.string s40)] h43 rfl rfl TF.sz_151 hst ?_)
   refine Run.region_end ?_
   refine Run.seq ?_
   refine Run.seq ?_
   refine Run.ops0 (idx := [0, 1, 2]) rfl ?_
   refine Run.go rfl rfl rfl (sem_move ((Value.int .i64 (i29))) rfl ?_)
   refine Run.go rfl rfl rfl (sem_move ((Value.int .i64 (i2))) rfl ?_)
   obtain ⟨hT, hF⟩ := hS
   by_cases hb44 : (i29 : Int) ≥ (i2)
   ·have hS := hT hb44; clear hT hF
    refine Run.go rfl rfl rfl (sem_binI .i64 (i29) (i2) (.bool true) rfl rfl (binI_geq_t hb44) ?_)
    refine Run.region_end ?_
    refine Run.condT rfl ?_
    refine Run.seq ?_
    refine Run.seq ?_
    refine Run.ops0 (idx := [0, 1, 2]) rfl ?_
    refine Run.go rfl rfl rfl (sem_fieldAddr ⟨k41, 0, none⟩ 1 rfl TF.fld_151_1 ?_)
    obtain ⟨b45, hl, hS⟩ := hS
    obtain ⟨hT, hF⟩ := hS
    cases b45
    ·have hS := hF rfl; clear hT hF
     refine Run.go rfl rfl rfl (sem_load1 ⟨k41, 1, none⟩ (.bool false) rfl TF.agg_4 hl ?_)
     refine Run.go rfl rfl rfl (sem_not false rfl ?_)
     refine Run.region_end ?_
     refine Run.condT rfl ?_
     refine Run.seq ?_
     refine Run.ops0 (idx := [0, 1, 2, 3, 4, 5, 6, 7, 8, 9, 10]) rfl ?_
     refine Run.go rfl rfl rfl (sem_fieldAddr ⟨k41, 0, none⟩ 2 rfl TF.fld_151_2 ?_)
     obtain ⟨s46, hl, hS⟩ := hS
     refine Run.go rfl rfl rfl (sem_load1 ⟨k41, 2, none⟩ ((Value.string s46)) rfl TF.agg_9 hl ?_)
     refine Run.go rfl rfl rfl (sem_move ((Value.int .i64 (i3))) rfl ?_)
     refine Run.go rfl rfl rfl (sem_max .i64 (i3) (0) rfl rfl ?_)
     refine Run.go rfl rfl rfl (sem_fieldAddr ⟨k41, 0, none⟩ 2 rfl TF.fld_151_2 ?_)
     obtain ⟨s47, hl, hS⟩ := hS
     refine Run.go rfl rfl rfl (sem_load1 ⟨k41, 2, none⟩ ((Value.string s47)) rfl TF.agg_9 hl ?_)
     refine Run.go rfl rfl rfl (sem_lenStr s47 rfl TF.isStr_9 ?_)
     refine Run.go rfl rfl rfl (sem_min .i64 (if (0 : Int) > (i3) then (0 : Int) else (i3)) ((ByteArray.size s47 : Nat)) rfl rfl ?_)
     obtain ⟨hi0, hi1, hi2, hS⟩ := hS
     refine Run.go rfl rfl rfl (sem_sliceStrI s46 (0) (if ((ByteArray.size s47 : Nat) : Int) < (if (0 : Int) > (i3) then (0 : Int) else (i3)) then ((ByteArray.size s47 : Nat) : Int) else (if (0 : Int) > (i3) then (0 : Int) else (i3))) rfl TF.isStr_9 rfl ⟨_, rfl⟩ hi0 hi1 hi2 ?_)
     refine Run.go rfl rfl rfl (sem_fieldAddr ⟨k41, 0, none⟩ 2 rfl TF.fld_151_2 ?_)
     obtain ⟨h48, hst, hS⟩ := hS
     refine Run.go rfl rfl rfl (sem_store1 ⟨k41, 2, none⟩ ((Value.string (ByteArray.extract s46 (Int.toNat (0)) (Int.toNat (if ((ByteArray.size s47 : Nat) : Int) < (if (0 : Int) > (i3) then (0 : Int) else (i3)) then ((ByteArray.size s47 : Nat) : Int) else (if (0 : Int) > (i3) then (0 : Int) else (i3))))))) h48 rfl rfl rfl TF.sz_9 hst ?_)
     refine Run.region_end ?_
     refine Run.ops0 (idx := [0, 1, 2]) rfl ?_
     refine Run.go rfl rfl rfl (sem_move ((Value.pointer p1)) rfl ?_)
     obtain ⟨i49, b50, s51, hl, hS⟩ := hS
     refine Run.go rfl rfl rfl (sem_loadN ⟨k41, 0, none⟩ [(Value.int .i64 (i49)), (Value.bool b50), (Value.string s51)] rfl TF.agg_151 TF.sz_151 hl ?_)
     refine Run.go rfl rfl rfl (sem_callL [(Value.pointer p1), (Value.agg #[(Value.int .i64 (i49)), (Value.bool b50), (Value.string s51)])] (TF.goes_82) rfl rfl (Spec.mono hS fun v h52 hv => ?_))
     obtain ⟨rfl, hS⟩ := hv
     refine Run.region_end ?_
     refine Run.exit rfl ?_
     exact Run.of_fin (hS.imp fun h' hS => j5 _ _ ⟨⟨rfl, trivial⟩, hS⟩)
    ·have hS := hT rfl; clear hT hF
     refine Run.go rfl rfl rfl (sem_load1 ⟨k41, 1, none⟩ (.bool true) rfl TF.agg_4 hl ?_)
     refine Run.go rfl rfl rfl (sem_not true rfl ?_)
     refine Run.region_end ?_
     refine Run.condF rfl ?_
     refine Run.skip ?_
     refine Run.exit rfl ?_
     exact Run.of_fin (hS.imp fun h' hS => j5 _ _ ⟨⟨rfl, trivial⟩, hS⟩)
   ·have hS := hF hb44; clear hT hF
    refine Run.go rfl rfl rfl (sem_binI .i64 (i29) (i2) (.bool false) rfl rfl (binI_geq_f hb44) ?_)
    refine Run.region_end ?_
    refine Run.condF rfl ?_
    refine Run.skip ?_
    refine Run.ops0 (idx := [0, 1, 2]) rfl ?_
    refine Run.go rfl rfl rfl (sem_move ((Value.pointer p1)) rfl ?_)
    obtain ⟨i53, b54, s55, hl, hS⟩ := hS
    refine Run.go rfl rfl rfl (sem_loadN ⟨k41, 0, none⟩ [(Value.int .i64 (i53)), (Value.bool b54), (Value.string s55)] rfl TF.agg_151 TF.sz_151 hl ?_)
    refine Run.go rfl rfl rfl (sem_callL [(Value.pointer p1), (Value.agg #[(Value.int .i64 (i53)), (Value.bool b54), (Value.string s55)])] (TF.goes_82) rfl rfl (Spec.mono hS fun v h56 hv => ?_))
    obtain ⟨rfl, hS⟩ := hv
    refine Run.region_end ?_
    refine Run.inBlock ?_
    refine Run.ops0 (idx := [0, 1]) rfl ?_
    refine Run.go rfl rfl rfl (sem_binI .i64 (i29) (1) ((Value.int .i64 (IntKind.wrap .i64 ((i29) + (1))))) rfl rfl rfl ?_)
    refine Run.go rfl rfl rfl (sem_move ((Value.int .i64 (IntKind.wrap .i64 ((i29) + (1))))) rfl ?_)
    refine Run.region_end ?_
    exact Run.of_fin (hS.imp fun h' ⟨m', hm, hS⟩ => ih33 ((IntKind.wrap .i64 ((i29) + (1))), m') _ _ ⟨hS, ⟨rfl, rfl, rfl, rfl, rfl, rfl, trivial⟩⟩ hm)
  ·have hS := hF hb35; clear hT hF
   refine Run.go rfl rfl rfl (sem_binI .i64 (i29) ((n26 : Nat)) (.bool false) rfl rfl (binI_lss_f hb35) ?_)
   refine Run.region_end ?_
   refine Run.seq ?_
   refine Run.condF rfl ?_
   refine Run.exit rfl ?_
   exact Run.of_fin (hS.imp fun h' hS => j5 _ _ ⟨⟨rfl, trivial⟩, hS⟩)
set_option maxHeartbeats 4000000 in
theorem C_countermandref05_Same.of {B : RO} {a1 : Option Addr} {n2 : Nat} {c3 : Nat} {a4 : Option Addr} {n5 : Nat} {c6 : Nat} {h : Heap} {Q : Bool → Heap → Prop} (hS : S_countermandref05_Same B a1 n2 c3 a4 n5 c6 h Q) : C_countermandref05_Same B a1 n2 c3 a4 n5 c6 h Q := by
 unfold S_countermandref05_Same at hS
 unfold C_countermandref05_Same
 refine Spec.of_run Try.func36 (N := 26) (rs := [ResultVar.tmp 4]) rfl rfl rfl (Nat.le_of_ble_eq_true rfl) ?_
 refine Run.seq ?_
 refine Run.ops0 (idx := [0]) rfl ?_
 refine Run.go rfl rfl rfl (sem_assign ((Value.bool false)) rfl ?_)
 refine Run.region_end ?_
 refine Run.seq ?_
 refine Run.seq ?_
 refine Run.ops0 (idx := [0, 1, 2, 3, 4]) rfl ?_
 refine Run.go rfl rfl rfl (sem_move ((Value.slice a1 n2 c3)) rfl ?_)
 refine Run.go rfl rfl rfl (sem_lenSl a1 n2 c3 rfl TF.sl_45 ?_)
 refine Run.go rfl rfl rfl (sem_move ((Value.slice a4 n5 c6)) rfl ?_)
 refine Run.go rfl rfl rfl (sem_lenSl a4 n5 c6 rfl TF.sl_45 ?_)
 obtain ⟨hT, hF⟩ := hS
 by_cases hb8 : ((n2 : Nat) : Int) = (n5 : Nat)
 ·have hS := hT hb8; clear hT hF
  refine Run.go rfl rfl rfl (sem_binI .i64 ((n2 : Nat)) ((n5 : Nat)) (.bool false) rfl rfl (binI_neq_t hb8) ?_)
  refine Run.region_end ?_
  refine Run.condF rfl ?_
  refine Run.skip ?_
  refine Run.seq ?_
  refine Run.seq ?_
  refine Run.ops0 (idx := [0, 1, 2]) rfl ?_
  refine Run.go rfl rfl rfl (sem_move ((Value.slice a1 n2 c3)) rfl ?_)
  refine Run.go rfl rfl rfl (sem_lenSl a1 n2 c3 rfl TF.sl_45 ?_)
  refine Run.go rfl rfl rfl (sem_move ((Value.int .i64 (0))) rfl ?_)
  refine Run.region_end ?_
  refine Run.block ?_
  obtain ⟨J14, m12, h0, hS⟩ := hS
  refine Run.of_fin (h0.imp fun h' h0 => ?_)
  refine Run.loop (σ := Int × Nat) (fun x e h => J14 x.1 x.2 h ∧ Agree [(0, (Value.slice a1 n2 c3)), (1, (Value.slice a4 n5 c6)), (12, (Value.int .i64 ((n2 : Nat)))), (13, (Value.int .i64 (x.1)))] e) (fun x => x.2) ((0), m12) ⟨h0, ⟨rfl, rfl, rfl, rfl, trivial⟩⟩ ?_; clear h0
  rintro ⟨i9, m11⟩ e h10 ⟨hJ, hag⟩ ih13
  have hS := hS i9 m11 h10 hJ; clear hJ
  refine Run.env hag ?_; clear hag
  refine Run.seq ?_
  refine Run.ops0 (idx := [0]) rfl ?_
  obtain ⟨hT, hF⟩ := hS
  by_cases hb15 : (i9 : Int) < ((n2 : Nat))
  ·have hS := hT hb15; clear hT hF
   refine Run.go rfl rfl rfl (sem_binI .i64 (i9) ((n2 : Nat)) (.bool true) rfl rfl (binI_lss_t hb15) ?_)
   refine Run.region_end ?_
   refine Run.seq ?_
   refine Run.condT rfl ?_
   refine Run.skip ?_
   refine Run.seq ?_
   refine Run.block ?_
   refine Run.seq ?_
   refine Run.ops0 (idx := [0, 1]) rfl ?_
   refine Run.go rfl rfl rfl (sem_move ((Value.int .i64 (i9))) rfl ?_)
   refine Run.go rfl rfl rfl (sem_assign ((Value.int .i64 (i9))) rfl ?_)
   refine Run.region_end ?_
   refine Run.seq ?_
   refine Run.drawM (fun h' => h' = h10) [] ⟨[0, 0, 3, 4, 0, 0, 48, 64, 136], [511, 511, 508, 507, 511, 511, 463, 447, 375], [0, 0, 0, 0, 0, 0, 0, 0, 0], 0⟩ (.q 0 (.q 1 (.q 2 (.q 3 (.q 4 (.q 5 (.q 6 (.q 7 (.q 8 .nil))))))))) TF.mixed (by kernel_rfl) rfl ?_
   refine RunT.quiet rfl rfl rfl (quiet_eq (sem_move ((Value.slice a1 n2 c3)) rfl ⟨rfl, rfl⟩)) ?_
   refine RunT.quiet rfl rfl rfl (quiet_eq (sem_move ((Value.int .i64 (i9))) rfl ⟨rfl, rfl⟩)) ?_
   obtain ⟨A16, e17, hi0, hi1, hS⟩ := hS
   refine RunT.quiet rfl rfl rfl (quiet_eq (sem_indexAddrS A16 n2 c3 .i64 (i9) (congrArg (fun a => Value.slice a n2 c3) e17) rfl TF.slc_45 hi0 hi1 ⟨rfl, rfl⟩)) ?_
   obtain ⟨s18, hl, hS⟩ := hS
   refine RunT.quiet rfl rfl rfl (quiet_eq (sem_load1 (Addr.add A16 (Int.toNat (i9) * 1)) ((Value.string s18)) rfl TF.agg_9 hl ⟨rfl, rfl⟩)) ?_
   refine RunT.quiet rfl rfl rfl (quiet_eq (sem_move ((Value.slice a4 n5 c6)) rfl ⟨rfl, rfl⟩)) ?_
   refine RunT.quiet rfl rfl rfl (quiet_eq (sem_move ((Value.int .i64 (i9))) rfl ⟨rfl, rfl⟩)) ?_
   obtain ⟨A19, e20, hi0, hi1, hS⟩ := hS
   refine RunT.quiet rfl rfl rfl (quiet_eq (sem_indexAddrS A19 n5 c6 .i64 (i9) (congrArg (fun a => Value.slice a n5 c6) e20) rfl TF.slc_45 hi0 hi1 ⟨rfl, rfl⟩)) ?_
   obtain ⟨s21, hl, hS⟩ := hS
   refine RunT.quiet rfl rfl rfl (quiet_eq (sem_load1 (Addr.add A19 (Int.toNat (i9) * 1)) ((Value.string s21)) rfl TF.agg_9 hl ⟨rfl, rfl⟩)) ?_
   obtain ⟨hT, hF⟩ := hS
   by_cases hb22 : s18 = s21
   ·have hS := hT hb22; clear hT hF
    refine RunT.quiet rfl rfl rfl (quiet_eq (sem_strNeT s18 s21 rfl rfl hb22 ⟨rfl, rfl⟩)) ?_
    refine Run.condF rfl ?_
    refine Run.skip ?_
    refine Run.inBlock ?_
    refine Run.ops0 (idx := [0, 1]) rfl ?_
    refine Run.go rfl rfl rfl (sem_binI .i64 (i9) (1) ((Value.int .i64 (IntKind.wrap .i64 ((i9) + (1))))) rfl rfl rfl ?_)
    refine Run.go rfl rfl rfl (sem_move ((Value.int .i64 (IntKind.wrap .i64 ((i9) + (1))))) rfl ?_)
    refine Run.region_end ?_
    exact Run.of_fin (hS.imp fun h' ⟨m', hm, hS⟩ => ih13 ((IntKind.wrap .i64 ((i9) + (1))), m') _ _ ⟨hS, ⟨rfl, rfl, rfl, rfl, trivial⟩⟩ hm)
   ·have hS := hF hb22; clear hT hF
    refine RunT.quiet rfl rfl rfl (quiet_eq (sem_strNeF s18 s21 rfl rfl hb22 ⟨rfl, rfl⟩)) ?_
    refine Run.condT rfl ?_
    refine Run.seq ?_
    refine Run.ops0 (idx := [0]) rfl ?_
    refine Run.go rfl rfl rfl (sem_assign ((Value.bool false)) rfl ?_)
    refine Run.region_end ?_
    refine Run.ret ⟨.inr rfl, ?_⟩
    exact hS.imp fun h' hq => ⟨(false), rfl, hq⟩
  ·have hS := hF hb15; clear hT hF
   refine Run.go rfl rfl rfl (sem_binI .i64 (i9) ((n2 : Nat)) (.bool false) rfl rfl (binI_lss_f hb15) ?_)
   refine Run.region_end ?_
   refine Run.seq ?_
   refine Run.condF rfl ?_
   refine Run.exit rfl ?_
   refine Run.seq ?_
   refine Run.ops0 (idx := [0]) rfl ?_
   refine Run.go rfl rfl rfl (sem_assign ((Value.bool true)) rfl ?_)
   refine Run.region_end ?_
   refine Run.ret ⟨.inr rfl, ?_⟩
   exact hS.imp fun h' hq => ⟨(true), rfl, hq⟩
 ·have hS := hF hb8; clear hT hF
  refine Run.go rfl rfl rfl (sem_binI .i64 ((n2 : Nat)) ((n5 : Nat)) (.bool true) rfl rfl (binI_neq_f hb8) ?_)
  refine Run.region_end ?_
  refine Run.condT rfl ?_
  refine Run.seq ?_
  refine Run.ops0 (idx := [0]) rfl ?_
  refine Run.go rfl rfl rfl (sem_assign ((Value.bool false)) rfl ?_)
  refine Run.region_end ?_
  refine Run.ret ⟨.inr rfl, ?_⟩
  exact hS.imp fun h' hq => ⟨(false), rfl, hq⟩
set_option maxHeartbeats 4000000 in
theorem C_countermandref05_Found.of {B : RO} {s1 : ByteArray} {s2 : ByteArray} {h : Heap} {Q : Int → ByteArray → Option Addr → Nat → Nat → Heap → Prop} (hS : S_countermandref05_Found B s1 s2 h Q) : C_countermandref05_Found B s1 s2 h Q := by
 unfold S_countermandref05_Found at hS
 unfold C_countermandref05_Found
 refine Spec.of_run Try.func37 (N := 34) (rs := [ResultVar.tmp 4, ResultVar.tmp 5, ResultVar.tmp 6]) rfl rfl rfl (Nat.le_of_ble_eq_true rfl) ?_
 refine Run.seq ?_
 refine Run.ops0 (idx := [0, 1, 2]) rfl ?_
 refine Run.go rfl rfl rfl (sem_assign ((Value.int .i64 (0))) rfl ?_)
 refine Run.go rfl rfl rfl (sem_assign ((Value.string (ByteArray.mk #[]))) rfl ?_)
 refine Run.go rfl rfl rfl (sem_assign ((Value.slice none 0 0)) rfl ?_)
 refine Run.region_end ?_
 refine Run.seq ?_
 refine Run.ops0 (idx := [0, 1, 2, 3, 4, 5, 6, 7, 8]) rfl ?_
 refine Run.go rfl rfl rfl (sem_move ((Value.string s1)) rfl ?_)
 refine Run.go rfl rfl rfl (sem_callL [(Value.string s1)] (TF.goes_83) rfl rfl (Spec.mono hS fun v h8 hv => ?_))
 obtain ⟨i9, s10, a11, n12, c13, rfl, hS⟩ := hv
 refine Run.go rfl rfl rfl (sem_move ((Value.tuple #[(Value.int .i64 (i9)), (Value.string s10), (Value.slice a11 n12 c13)])) rfl ?_)
 refine Run.go rfl rfl rfl (sem_extract #[(Value.int .i64 (i9)), (Value.string s10), (Value.slice a11 n12 c13)] ((Value.int .i64 (i9))) rfl rfl ?_)
 refine Run.go rfl rfl rfl (sem_extract #[(Value.int .i64 (i9)), (Value.string s10), (Value.slice a11 n12 c13)] ((Value.string s10)) rfl rfl ?_)
 refine Run.go rfl rfl rfl (sem_extract #[(Value.int .i64 (i9)), (Value.string s10), (Value.slice a11 n12 c13)] ((Value.slice a11 n12 c13)) rfl rfl ?_)
 refine Run.go rfl rfl rfl (sem_assign ((Value.int .i64 (i9))) rfl ?_)
 refine Run.go rfl rfl rfl (sem_assign ((Value.string s10)) rfl ?_)
 refine Run.go rfl rfl rfl (sem_assign ((Value.slice a11 n12 c13)) rfl ?_)
 refine Run.region_end ?_
 refine Run.seq ?_
 refine Run.ops0 (idx := [0, 1, 2, 3, 4, 5, 6, 7, 8]) rfl ?_
 refine Run.go rfl rfl rfl (sem_move ((Value.string s2)) rfl ?_)
 refine Run.go rfl rfl rfl (sem_callL [(Value.string s2)] (TF.goes_83) rfl rfl (Spec.mono hS fun v h14 hv => ?_))
 obtain ⟨i15, s16, a17, n18, c19, rfl, hS⟩ := hv
 refine Run.go rfl rfl rfl (sem_move ((Value.tuple #[(Value.int .i64 (i15)), (Value.string s16), (Value.slice a17 n18 c19)])) rfl ?_)
 refine Run.go rfl rfl rfl (sem_extract #[(Value.int .i64 (i15)), (Value.string s16), (Value.slice a17 n18 c19)] ((Value.int .i64 (i15))) rfl rfl ?_)
 refine Run.go rfl rfl rfl (sem_extract #[(Value.int .i64 (i15)), (Value.string s16), (Value.slice a17 n18 c19)] ((Value.string s16)) rfl rfl ?_)
 refine Run.go rfl rfl rfl (sem_extract #[(Value.int .i64 (i15)), (Value.string s16), (Value.slice a17 n18 c19)] ((Value.slice a17 n18 c19)) rfl rfl ?_)
 refine Run.go rfl rfl rfl (sem_assign ((Value.int .i64 (i15))) rfl ?_)
 refine Run.go rfl rfl rfl (sem_assign ((Value.string s16)) rfl ?_)
 refine Run.go rfl rfl rfl (sem_assign ((Value.slice a17 n18 c19)) rfl ?_)
 refine Run.region_end ?_
 refine Run.seq ?_
 refine Run.seq ?_
 refine Run.ops0 (idx := [0, 1, 2]) rfl ?_
 refine Run.go rfl rfl rfl (sem_move ((Value.int .i64 (i15))) rfl ?_)
 refine Run.go rfl rfl rfl (sem_move ((Value.int .i64 (i9))) rfl ?_)
 obtain ⟨hT, hF⟩ := hS
 by_cases hb20 : (i15 : Int) > (i9)
 ·have hS := hT hb20; clear hT hF
  refine Run.go rfl rfl rfl (sem_binI .i64 (i15) (i9) (.bool true) rfl rfl (binI_gtr_t hb20) ?_)
  refine Run.region_end ?_
  refine Run.condT rfl ?_
  refine Run.seq ?_
  refine Run.ops0 (idx := [0, 1, 2, 3, 4, 5]) rfl ?_
  refine Run.go rfl rfl rfl (sem_move ((Value.int .i64 (i15))) rfl ?_)
  refine Run.go rfl rfl rfl (sem_move ((Value.string s16)) rfl ?_)
  refine Run.go rfl rfl rfl (sem_move ((Value.slice a17 n18 c19)) rfl ?_)
  refine Run.go rfl rfl rfl (sem_assign ((Value.int .i64 (i15))) rfl ?_)
  refine Run.go rfl rfl rfl (sem_assign ((Value.string s16)) rfl ?_)
  refine Run.go rfl rfl rfl (sem_assign ((Value.slice a17 n18 c19)) rfl ?_)
  refine Run.region_end ?_
  refine Run.ret ⟨.inr rfl, ?_⟩
  exact hS.imp fun h' hq => ⟨(i15), s16, a17, n18, c19, rfl, hq⟩
 ·have hS := hF hb20; clear hT hF
  refine Run.go rfl rfl rfl (sem_binI .i64 (i15) (i9) (.bool false) rfl rfl (binI_gtr_f hb20) ?_)
  refine Run.region_end ?_
  refine Run.condF rfl ?_
  refine Run.skip ?_
  refine Run.seq ?_
  refine Run.ops0 (idx := [0, 1, 2, 3, 4, 5]) rfl ?_
  refine Run.go rfl rfl rfl (sem_move ((Value.int .i64 (i9))) rfl ?_)
  refine Run.go rfl rfl rfl (sem_move ((Value.string s10)) rfl ?_)
  refine Run.go rfl rfl rfl (sem_move ((Value.slice a11 n12 c13)) rfl ?_)
  refine Run.go rfl rfl rfl (sem_assign ((Value.int .i64 (i9))) rfl ?_)
  refine Run.go rfl rfl rfl (sem_assign ((Value.string s10)) rfl ?_)
  refine Run.go rfl rfl rfl (sem_assign ((Value.slice a11 n12 c13)) rfl ?_)
  refine Run.region_end ?_
  refine Run.ret ⟨.inr rfl, ?_⟩
  exact hS.imp fun h' hq => ⟨(i9), s10, a11, n12, c13, rfl, hq⟩
set_option maxHeartbeats 4000000 in
theorem C_vault_Vault_Epoch.of {B : RO} {p1 : Option Addr} {h : Heap} {Q : Int → Heap → Prop} (hS : S_vault_Vault_Epoch B p1 h Q) : C_vault_Vault_Epoch B p1 h Q := by
 unfold S_vault_Vault_Epoch at hS
 unfold C_vault_Vault_Epoch
 refine Spec.of_run Try.func38 (N := 9) (rs := [ResultVar.tmp 2]) rfl rfl rfl (Nat.le_of_ble_eq_true rfl) ?_
 refine Run.seq ?_
 refine Run.ops0 (idx := [0]) rfl ?_
 refine Run.go rfl rfl rfl (sem_assign ((Value.int .i64 (0))) rfl ?_)
 refine Run.region_end ?_
 refine Run.seq ?_
 refine Run.seq ?_
 refine Run.ops0 (idx := [0, 1]) rfl ?_
 refine Run.go rfl rfl rfl (sem_move ((Value.pointer p1)) rfl ?_)
 obtain ⟨hT, hF⟩ := hS
 by_cases hb3 : p1 = none
 ·have hS := hT hb3; clear hT hF
  refine Run.go rfl rfl rfl (sem_ptrNilT p1 (.inl rfl) true rfl rfl TF.ptr_49 hb3 rfl ?_)
  refine Run.region_end ?_
  refine Run.condT rfl ?_
  refine Run.seq ?_
  refine Run.ops0 (idx := [0]) rfl ?_
  refine Run.go rfl rfl rfl (sem_assign ((Value.int .i64 (0))) rfl ?_)
  refine Run.region_end ?_
  refine Run.ret ⟨.inr rfl, ?_⟩
  exact hS.imp fun h' hq => ⟨(0), rfl, hq⟩
 ·have hS := hF hb3; clear hT hF
  refine Run.go rfl rfl rfl (sem_ptrNilF p1 (.inl rfl) false rfl rfl TF.ptr_49 hb3 rfl ?_)
  refine Run.region_end ?_
  refine Run.condF rfl ?_
  refine Run.skip ?_
  refine Run.seq ?_
  refine Run.ops0 (idx := [0, 1, 2, 3, 4]) rfl ?_
  refine Run.go rfl rfl rfl (sem_move ((Value.pointer p1)) rfl ?_)
  obtain ⟨A4, e5, hS⟩ := hS
  refine Run.go rfl rfl rfl (sem_nilCheck A4 (congrArg Value.pointer e5) ?_)
  refine Run.go rfl rfl rfl (sem_fieldAddr A4 2 rfl TF.fld_138_2 ?_)
  obtain ⟨i6, hl, hS⟩ := hS
  refine Run.go rfl rfl rfl (sem_load1 (Addr.add A4 2) ((Value.int .i64 (i6))) rfl TF.agg_3 hl ?_)
  refine Run.go rfl rfl rfl (sem_assign ((Value.int .i64 (i6))) rfl ?_)
  refine Run.region_end ?_
  refine Run.ret ⟨.inr rfl, ?_⟩
  exact hS.imp fun h' hq => ⟨(i6), rfl, hq⟩
set_option maxHeartbeats 4000000 in
theorem C_disk_Disk_Read.of {B : RO} {p1 : Option Addr} {i2 : Int} {h : Heap} {Q : ByteArray → Heap → Prop} (hS : S_disk_Disk_Read B p1 i2 h Q) : C_disk_Disk_Read B p1 i2 h Q := by
 unfold S_disk_Disk_Read at hS
 unfold C_disk_Disk_Read
 refine Spec.of_run Try.func39 (N := 19) (rs := [ResultVar.tmp 4]) rfl rfl rfl (Nat.le_of_ble_eq_true rfl) ?_
 refine Run.seq ?_
 refine Run.ops0 (idx := [0]) rfl ?_
 refine Run.go rfl rfl rfl (sem_assign ((Value.string (ByteArray.mk #[]))) rfl ?_)
 refine Run.region_end ?_
 refine Run.seqJ (fun e h5 => Agree [(0, (Value.pointer p1)), (1, (Value.int .i64 (i2)))] e ∧ S_disk_Disk_Read_J1 B p1 i2 h5 Q) ?_ fun j4 => ?_
 ·rintro e h5 ⟨hag, hS⟩
  refine Run.env hag ?_; clear hag
  refine Run.seq ?_
  refine Run.ops0 (idx := [0, 1, 2, 3, 4, 5, 6, 7]) rfl ?_
  refine Run.go rfl rfl rfl (sem_move ((Value.pointer p1)) rfl ?_)
  refine Run.go rfl rfl rfl (sem_move ((Value.int .i64 (i2))) rfl ?_)
  obtain ⟨A6, e7, hS⟩ := hS
  refine Run.go rfl rfl rfl (sem_nilCheck A6 (congrArg Value.pointer e7) ?_)
  refine Run.go rfl rfl rfl (sem_fieldAddr A6 0 rfl TF.fld_135_0 ?_)
  obtain ⟨hi0, hi1, hS⟩ := hS
  refine Run.go rfl rfl rfl (sem_indexAddrA A6 .i64 (i2) rfl rfl TF.arr_132 hi0 hi1 ?_)
  refine Run.go rfl rfl rfl (sem_fieldAddr (Addr.add A6 (Int.toNat (i2) * 2)) 0 rfl TF.fld_131_0 ?_)
  obtain ⟨s8, hl, hS⟩ := hS
  refine Run.go rfl rfl rfl (sem_load1 (Addr.add A6 (Int.toNat (i2) * 2)) ((Value.string s8)) rfl TF.agg_9 hl ?_)
  refine Run.go rfl rfl rfl (sem_assign ((Value.string s8)) rfl ?_)
  refine Run.region_end ?_
  refine Run.ret ⟨.inr rfl, ?_⟩
  exact hS.imp fun h' hq => ⟨s8, rfl, hq⟩
 refine Run.seq ?_
 refine Run.ops0 (idx := [0, 1, 2, 3, 4, 5, 6]) rfl ?_
 refine Run.go rfl rfl rfl (sem_move ((Value.pointer p1)) rfl ?_)
 obtain ⟨hT, hF⟩ := hS
 by_cases hb9 : p1 = none
 ·have hS := hT hb9; clear hT hF
  refine Run.go rfl rfl rfl (sem_ptrNilT p1 (.inl rfl) true rfl rfl TF.ptr_47 hb9 rfl ?_)
  refine Run.go rfl rfl rfl (sem_move ((Value.bool true)) rfl ?_)
  refine Run.no rfl rfl rfl ?_
  refine Run.no rfl rfl rfl ?_
  refine Run.no rfl rfl rfl ?_
  refine Run.go rfl rfl rfl (sem_pick true ((Value.bool true)) rfl rfl ?_)
  refine Run.region_end ?_
  refine Run.condT rfl ?_
  refine Run.seq ?_
  refine Run.ops0 (idx := [0]) rfl ?_
  refine Run.go rfl rfl rfl (sem_assign ((Value.string (ByteArray.mk #[]))) rfl ?_)
  refine Run.region_end ?_
  refine Run.ret ⟨.inr rfl, ?_⟩
  exact hS.imp fun h' hq => ⟨(ByteArray.mk #[]), rfl, hq⟩
 ·have hS := hF hb9; clear hT hF
  refine Run.go rfl rfl rfl (sem_ptrNilF p1 (.inl rfl) false rfl rfl TF.ptr_47 hb9 rfl ?_)
  refine Run.go rfl rfl rfl (sem_move ((Value.bool false)) rfl ?_)
  refine Run.go rfl rfl rfl (sem_move ((Value.int .i64 (i2))) rfl ?_)
  refine Run.go rfl rfl rfl (sem_callL [(Value.int .i64 (i2))] (TF.goes_81) rfl rfl (Spec.mono hS fun v h10 hv => ?_))
  obtain ⟨b11, rfl, hS⟩ := hv
  obtain ⟨hT, hF⟩ := hS
  cases b11
  ·have hS := hF rfl; clear hT hF
   refine Run.go rfl rfl rfl (sem_not false rfl ?_)
   refine Run.go rfl rfl rfl (sem_pick false ((Value.bool true)) rfl rfl ?_)
   refine Run.region_end ?_
   refine Run.condT rfl ?_
   refine Run.seq ?_
   refine Run.ops0 (idx := [0]) rfl ?_
   refine Run.go rfl rfl rfl (sem_assign ((Value.string (ByteArray.mk #[]))) rfl ?_)
   refine Run.region_end ?_
   refine Run.ret ⟨.inr rfl, ?_⟩
   exact hS.imp fun h' hq => ⟨(ByteArray.mk #[]), rfl, hq⟩
  ·have hS := hT rfl; clear hT hF
   refine Run.go rfl rfl rfl (sem_not true rfl ?_)
   refine Run.go rfl rfl rfl (sem_pick false ((Value.bool false)) rfl rfl ?_)
   refine Run.region_end ?_
   refine Run.condF rfl ?_
   refine Run.skip ?_
   exact Run.of_fin (hS.imp fun h' hS => j4 _ _ ⟨⟨rfl, rfl, trivial⟩, hS⟩)
set_option maxHeartbeats 4000000 in
theorem C_disk_Disk_Waits.of {B : RO} {p1 : Option Addr} {h : Heap} {Q : Int → Heap → Prop} (hS : S_disk_Disk_Waits B p1 h Q) : C_disk_Disk_Waits B p1 h Q := by
 unfold S_disk_Disk_Waits at hS
 unfold C_disk_Disk_Waits
 refine Spec.of_run Try.func40 (N := 10) (rs := [ResultVar.tmp 2]) rfl rfl rfl (Nat.le_of_ble_eq_true rfl) ?_
 refine Run.seq ?_
 refine Run.ops0 (idx := [0]) rfl ?_
 refine Run.go rfl rfl rfl (sem_assign ((Value.int .i64 (0))) rfl ?_)
 refine Run.region_end ?_
 refine Run.seq ?_
 refine Run.seq ?_
 refine Run.ops0 (idx := [0, 1]) rfl ?_
 refine Run.go rfl rfl rfl (sem_move ((Value.pointer p1)) rfl ?_)
 obtain ⟨hT, hF⟩ := hS
 by_cases hb3 : p1 = none
 ·have hS := hT hb3; clear hT hF
  refine Run.go rfl rfl rfl (sem_ptrNilT p1 (.inl rfl) true rfl rfl TF.ptr_47 hb3 rfl ?_)
  refine Run.region_end ?_
  refine Run.condT rfl ?_
  refine Run.seq ?_
  refine Run.ops0 (idx := [0]) rfl ?_
  refine Run.go rfl rfl rfl (sem_assign ((Value.int .i64 (0))) rfl ?_)
  refine Run.region_end ?_
  refine Run.ret ⟨.inr rfl, ?_⟩
  exact hS.imp fun h' hq => ⟨(0), rfl, hq⟩
 ·have hS := hF hb3; clear hT hF
  refine Run.go rfl rfl rfl (sem_ptrNilF p1 (.inl rfl) false rfl rfl TF.ptr_47 hb3 rfl ?_)
  refine Run.region_end ?_
  refine Run.condF rfl ?_
  refine Run.skip ?_
  refine Run.seq ?_
  refine Run.ops0 (idx := [0, 1, 2, 3, 4, 5]) rfl ?_
  refine Run.go rfl rfl rfl (sem_move ((Value.pointer p1)) rfl ?_)
  obtain ⟨A4, e5, hS⟩ := hS
  refine Run.go rfl rfl rfl (sem_nilCheck A4 (congrArg Value.pointer e5) ?_)
  refine Run.go rfl rfl rfl (sem_fieldAddr A4 4 rfl TF.fld_135_1 ?_)
  refine Run.ldSl hS fun a6 n7 c8 h9 hl hS => ?_
  refine Run.go rfl rfl rfl (sem_load1 (Addr.add A4 4) ((Value.slice a6 n7 c8)) rfl TF.agg_133 hl ?_)
  refine Run.go rfl rfl rfl (sem_lenSl a6 n7 c8 rfl TF.sl_133 ?_)
  refine Run.go rfl rfl rfl (sem_assign ((Value.int .i64 ((n7 : Nat)))) rfl ?_)
  refine Run.region_end ?_
  refine Run.ret ⟨.inr rfl, ?_⟩
  exact hS.imp fun h' hq => ⟨((n7 : Nat)), rfl, hq⟩
set_option maxHeartbeats 4000000 in
theorem C_vault_Vault_Size.of {B : RO} {p1 : Option Addr} {h : Heap} {Q : Int → Heap → Prop} (hS : S_vault_Vault_Size B p1 h Q) : C_vault_Vault_Size B p1 h Q := by
 unfold S_vault_Vault_Size at hS
 unfold C_vault_Vault_Size
 refine Spec.of_run Try.func41 (N := 10) (rs := [ResultVar.tmp 2]) rfl rfl rfl (Nat.le_of_ble_eq_true rfl) ?_
 refine Run.seq ?_
 refine Run.ops0 (idx := [0]) rfl ?_
 refine Run.go rfl rfl rfl (sem_assign ((Value.int .i64 (0))) rfl ?_)
 refine Run.region_end ?_
 refine Run.seq ?_
 refine Run.seq ?_
 refine Run.ops0 (idx := [0, 1]) rfl ?_
 refine Run.go rfl rfl rfl (sem_move ((Value.pointer p1)) rfl ?_)
 obtain ⟨hT, hF⟩ := hS
 by_cases hb3 : p1 = none
 ·have hS := hT hb3; clear hT hF
  refine Run.go rfl rfl rfl (sem_ptrNilT p1 (.inl rfl) true rfl rfl TF.ptr_49 hb3 rfl ?_)
  refine Run.region_end ?_
  refine Run.condT rfl ?_
  refine Run.seq ?_
  refine Run.ops0 (idx := [0]) rfl ?_
  refine Run.go rfl rfl rfl (sem_assign ((Value.int .i64 (0))) rfl ?_)
  refine Run.region_end ?_
  refine Run.ret ⟨.inr rfl, ?_⟩
  exact hS.imp fun h' hq => ⟨(0), rfl, hq⟩
 ·have hS := hF hb3; clear hT hF
  refine Run.go rfl rfl rfl (sem_ptrNilF p1 (.inl rfl) false rfl rfl TF.ptr_49 hb3 rfl ?_)
  refine Run.region_end ?_
  refine Run.condF rfl ?_
  refine Run.skip ?_
  refine Run.seq ?_
  refine Run.ops0 (idx := [0, 1, 2, 3, 4, 5]) rfl ?_
  refine Run.go rfl rfl rfl (sem_move ((Value.pointer p1)) rfl ?_)
  obtain ⟨A4, e5, hS⟩ := hS
  refine Run.go rfl rfl rfl (sem_nilCheck A4 (congrArg Value.pointer e5) ?_)
  refine Run.go rfl rfl rfl (sem_fieldAddr A4 1 rfl TF.fld_138_1 ?_)
  obtain ⟨p6, hl, hS⟩ := hS
  refine Run.go rfl rfl rfl (sem_load1 (Addr.add A4 1) ((Value.pointer p6)) rfl TF.agg_136 hl ?_)
  refine Run.go rfl rfl rfl (sem_callL [(Value.pointer p6)] (TF.goes_84) rfl rfl (Spec.mono hS fun v h7 hv => ?_))
  obtain ⟨i8, rfl, hS⟩ := hv
  refine Run.go rfl rfl rfl (sem_assign ((Value.int .i64 (i8))) rfl ?_)
  refine Run.region_end ?_
  refine Run.ret ⟨.inr rfl, ?_⟩
  exact hS.imp fun h' hq => ⟨(i8), rfl, hq⟩
set_option maxHeartbeats 4000000 in
theorem C_wal_Open.of {B : RO} {p1 : Option Addr} {i2 : Int} {h : Heap} {Q : Option Addr → Int → Heap → Prop} (hS : S_wal_Open B p1 i2 h Q) : C_wal_Open B p1 i2 h Q := by
 unfold S_wal_Open at hS
 unfold C_wal_Open
 refine Spec.of_run Try.func70 (N := 32) (rs := [ResultVar.tmp 4, ResultVar.tmp 5]) rfl rfl rfl (Nat.le_of_ble_eq_true rfl) ?_
 refine Run.seq ?_
 refine Run.ops0 (idx := [0, 1]) rfl ?_
 refine Run.go rfl rfl rfl (sem_assign ((Value.pointer none)) rfl ?_)
 refine Run.go rfl rfl rfl (sem_assign ((Value.int .i64 (0))) rfl ?_)
 refine Run.region_end ?_
 refine Run.seqJ (fun e h6 => Agree [(0, (Value.pointer p1)), (1, (Value.int .i64 (i2)))] e ∧ S_wal_Open_J1 B p1 i2 h6 Q) ?_ fun j5 => ?_
 ·rintro e h6 ⟨hag, hS⟩
  refine Run.env hag ?_; clear hag
  refine Run.seq ?_
  refine Run.ops0 (idx := [0, 1, 2, 3]) rfl ?_
  refine Run.go rfl rfl rfl (sem_move ((Value.pointer p1)) rfl ?_)
  refine Run.go rfl rfl rfl (sem_move ((Value.int .i64 (i2))) rfl ?_)
  refine Run.go rfl rfl rfl (sem_callL [(Value.pointer p1), (Value.int .i64 (i2))] (TF.goes_39) rfl rfl (Spec.mono hS fun v h7 hv => ?_))
  obtain ⟨s8, rfl, hS⟩ := hv
  refine Run.go rfl rfl rfl (sem_assign ((Value.string s8)) rfl ?_)
  refine Run.region_end ?_
  refine Run.seq ?_
  refine Run.ops0 (idx := [0, 1, 2]) rfl ?_
  refine Run.go rfl rfl rfl (sem_move ((Value.string s8)) rfl ?_)
  refine Run.go rfl rfl rfl (sem_callL [(Value.string s8)] (TF.goes_106) rfl rfl (Spec.mono hS fun v h9 hv => ?_))
  obtain ⟨i10, rfl, hS⟩ := hv
  refine Run.go rfl rfl rfl (sem_assign ((Value.int .i64 (i10))) rfl ?_)
  refine Run.region_end ?_
  refine Run.seq ?_
  refine Run.ops0 (idx := [0, 1, 2, 3, 4, 5, 6, 7, 8, 9, 10]) rfl ?_
  refine Run.go rfl rfl rfl (sem_move ((Value.pointer p1)) rfl ?_)
  refine Run.go rfl rfl rfl (sem_move ((Value.int .i64 (i2))) rfl ?_)
  refine Run.go rfl rfl rfl (sem_move ((Value.int .i64 (i10))) rfl ?_)
  refine Run.go rfl rfl rfl (sem_move ((Value.int .i64 (i10))) rfl ?_)
  refine Run.go rfl rfl rfl (sem_move ((Value.string s8)) rfl ?_)
  refine Run.go rfl rfl rfl (sem_lenStr s8 rfl TF.isStr_9 ?_)
  refine Run.go rfl rfl rfl (sem_binI .i64 (i10) ((ByteArray.size s8 : Nat)) ((Value.bool (decide ((i10 : Int) < ((ByteArray.size s8 : Nat)))))) rfl rfl rfl ?_)
  refine Run.go rfl rfl rfl (sem_buildSL [(0, (Value.pointer p1)), (1, (Value.int .i64 (i2))), (2, (Value.int .i64 (i10))), (3, (Value.bool (decide ((i10 : Int) < ((ByteArray.size s8 : Nat))))))] [(Value.pointer p1), (Value.int .i64 (i2)), (Value.int .i64 (i10)), (Value.bool (decide ((i10 : Int) < ((ByteArray.size s8 : Nat)))))] TF.zero_178 TF.places_178 rfl rfl ?_)
  refine Run.go rfl rfl rfl (sem_boxNN [(Value.pointer p1), (Value.int .i64 (i2)), (Value.int .i64 (i10)), (Value.bool (decide ((i10 : Int) < ((ByteArray.size s8 : Nat)))))] rfl (fun k11 hb1 hb2 h12 hb3 => ?_))
  have hS := hS k11 hb1 hb2 h12 hb3
  refine Run.go rfl rfl rfl (sem_assign ((Value.pointer (some ⟨k11, 0, none⟩))) rfl ?_)
  refine Run.go rfl rfl rfl (sem_assign ((Value.int .i64 (0))) rfl ?_)
  refine Run.region_end ?_
  refine Run.ret ⟨.inr rfl, ?_⟩
  exact hS.imp fun h' hq => ⟨(some ⟨k11, 0, none⟩), (0), rfl, hq⟩
 refine Run.block ?_
 refine Run.seq ?_
 refine Run.ops0 (idx := [0, 1, 2]) rfl ?_
 refine Run.go rfl rfl rfl (sem_move ((Value.pointer p1)) rfl ?_)
 obtain ⟨hT, hF⟩ := hS
 by_cases hb13 : p1 = none
 ·have hS := hT hb13; clear hT hF
  refine Run.go rfl rfl rfl (sem_ptrNilT p1 (.inl rfl) true rfl rfl TF.ptr_47 hb13 rfl ?_)
  refine Run.go rfl rfl rfl (sem_assign ((Value.bool true)) rfl ?_)
  refine Run.region_end ?_
  refine Run.condT rfl ?_
  refine Run.seq ?_
  refine Run.ops0 (idx := [0, 1]) rfl ?_
  refine Run.go rfl rfl rfl (sem_assign ((Value.pointer none)) rfl ?_)
  refine Run.go rfl rfl rfl (sem_assign ((Value.int .i64 (2))) rfl ?_)
  refine Run.region_end ?_
  refine Run.ret ⟨.inr rfl, ?_⟩
  exact hS.imp fun h' hq => ⟨none, (2), rfl, hq⟩
 ·have hS := hF hb13; clear hT hF
  refine Run.go rfl rfl rfl (sem_ptrNilF p1 (.inl rfl) false rfl rfl TF.ptr_47 hb13 rfl ?_)
  refine Run.go rfl rfl rfl (sem_assign ((Value.bool false)) rfl ?_)
  refine Run.region_end ?_
  refine Run.condF rfl ?_
  refine Run.seq ?_
  refine Run.ops0 (idx := [0, 1, 2, 3, 4, 5, 6]) rfl ?_
  refine Run.go rfl rfl rfl (sem_move ((Value.int .i64 (i2))) rfl ?_)
  obtain ⟨hT, hF⟩ := hS
  by_cases hb14 : (i2 : Int) = 0
  ·have hS := hT hb14; clear hT hF
   refine Run.go rfl rfl rfl (sem_binI .i64 (i2) (0) (.bool false) rfl rfl (binI_neq_t hb14) ?_)
   refine Run.go rfl rfl rfl (sem_move ((Value.bool false)) rfl ?_)
   refine Run.no rfl rfl rfl ?_
   refine Run.no rfl rfl rfl ?_
   refine Run.go rfl rfl rfl (sem_pick false ((Value.bool false)) rfl rfl ?_)
   refine Run.go rfl rfl rfl (sem_assign ((Value.bool false)) rfl ?_)
   refine Run.region_end ?_
   refine Run.condF rfl ?_
   refine Run.skip ?_
   refine Run.inBlock ?_
   exact Run.of_fin (hS.imp fun h' hS => j5 _ _ ⟨⟨rfl, rfl, trivial⟩, hS⟩)
  ·have hS := hF hb14; clear hT hF
   refine Run.go rfl rfl rfl (sem_binI .i64 (i2) (0) (.bool true) rfl rfl (binI_neq_f hb14) ?_)
   refine Run.go rfl rfl rfl (sem_move ((Value.bool true)) rfl ?_)
   refine Run.go rfl rfl rfl (sem_move ((Value.int .i64 (i2))) rfl ?_)
   obtain ⟨hT, hF⟩ := hS
   by_cases hb15 : (i2 : Int) = 1
   ·have hS := hT hb15; clear hT hF
    refine Run.go rfl rfl rfl (sem_binI .i64 (i2) (1) (.bool false) rfl rfl (binI_neq_t hb15) ?_)
    refine Run.go rfl rfl rfl (sem_pick true ((Value.bool false)) rfl rfl ?_)
    refine Run.go rfl rfl rfl (sem_assign ((Value.bool false)) rfl ?_)
    refine Run.region_end ?_
    refine Run.condF rfl ?_
    refine Run.skip ?_
    refine Run.inBlock ?_
    exact Run.of_fin (hS.imp fun h' hS => j5 _ _ ⟨⟨rfl, rfl, trivial⟩, hS⟩)
   ·have hS := hF hb15; clear hT hF
    refine Run.go rfl rfl rfl (sem_binI .i64 (i2) (1) (.bool true) rfl rfl (binI_neq_f hb15) ?_)
    refine Run.go rfl rfl rfl (sem_pick true ((Value.bool true)) rfl rfl ?_)
    refine Run.go rfl rfl rfl (sem_assign ((Value.bool true)) rfl ?_)
    refine Run.region_end ?_
    refine Run.condT rfl ?_
    refine Run.seq ?_
    refine Run.ops0 (idx := [0, 1]) rfl ?_
    refine Run.go rfl rfl rfl (sem_assign ((Value.pointer none)) rfl ?_)
    refine Run.go rfl rfl rfl (sem_assign ((Value.int .i64 (1))) rfl ?_)
    refine Run.region_end ?_
    refine Run.ret ⟨.inr rfl, ?_⟩
    exact hS.imp fun h' hq => ⟨none, (1), rfl, hq⟩
set_option maxHeartbeats 4000000 in
theorem C_vault_look.of {B : RO} {p1 : Option Addr} {h : Heap} {Q : Int → ByteArray → Option Addr → Nat → Nat → Heap → Prop} (hS : S_vault_look B p1 h Q) : C_vault_look B p1 h Q := by
 unfold S_vault_look at hS
 unfold C_vault_look
 refine Spec.of_run Try.func71 (N := 46) (rs := [ResultVar.cell 2 3, ResultVar.cell 3 51]) rfl rfl rfl (Nat.le_of_ble_eq_true rfl) ?_
 refine Run.seq ?_
 refine Run.ops0 (idx := [0, 1]) rfl ?_
 refine Run.go rfl rfl rfl (sem_allocN [(Value.int .i64 (0))] TF.zero_3 (fun k7 hb1 hb2 h8 hb3 => ?_))
 have hS := hS k7 hb1 hb2 h8 hb3
 refine Run.go rfl rfl rfl (sem_allocN [(Value.string ByteArray.empty), (Value.slice none 0 0)] TF.zero_51 (fun k9 hb1 hb2 h10 hb3 => ?_))
 have hS := hS k9 hb1 hb2 h10 hb3
 refine Run.region_end ?_
 refine Run.seq ?_
 refine Run.ops0 (idx := [0]) rfl ?_
 refine Run.go rfl rfl rfl (sem_allocN [(Value.string ByteArray.empty), (Value.slice none 0 0)] TF.zero_51 (fun k11 hb1 hb2 h12 hb3 => ?_))
 have hS := hS k11 hb1 hb2 h12 hb3
 refine Run.region_end ?_
 refine Run.seq ?_
 refine Run.ops0 (idx := [0, 1, 2, 3]) rfl ?_
 refine Run.go rfl rfl rfl (sem_allocN [(Value.int .i64 (0))] TF.zero_3 (fun k13 hb1 hb2 h14 hb3 => ?_))
 have hS := hS k13 hb1 hb2 h14 hb3
 refine Run.go rfl rfl rfl (sem_allocN [(Value.int .i64 (0))] TF.zero_3 (fun k15 hb1 hb2 h16 hb3 => ?_))
 have hS := hS k15 hb1 hb2 h16 hb3
 obtain ⟨h17, hst, hS⟩ := hS
 refine Run.go rfl rfl rfl (sem_store1 ⟨k13, 0, none⟩ ((Value.int .i64 (0))) h17 rfl rfl rfl TF.sz_3 hst ?_)
 obtain ⟨h18, hst, hS⟩ := hS
 refine Run.go rfl rfl rfl (sem_store1 ⟨k15, 0, none⟩ ((Value.int .i64 (0))) h18 rfl rfl rfl TF.sz_3 hst ?_)
 refine Run.region_end ?_
 refine Run.seq ?_
 refine Run.seq ?_
 refine Run.ops0 (idx := [0, 1]) rfl ?_
 refine Run.go rfl rfl rfl (sem_move ((Value.pointer p1)) rfl ?_)
 refine Run.go rfl rfl rfl (sem_callL [(Value.pointer p1)] (TF.goes_107) rfl rfl (Spec.mono hS fun v20 h19 hv => ?_))
 obtain ⟨_, rfl, hS⟩ := hv
 refine Run.region_end ?_
 refine Run.block ?_
 obtain ⟨xs26, G22, J25, hit, hins, hG, h0, hS, hR⟩ := hS
 refine Run.of_fin (h0.imp fun h' h0 => ?_)
 refine Run.range (v20) (xs26.map (fun x : ByteArray => [(Value.string x)])) G22 J25 rfl hit hins hG h0 rfl (fun a ha => by obtain ⟨x, _, rfl⟩ := List.mem_map.1 ha; rfl) ?_ ?_
 ·rintro q24 args h23 ha hJ
  obtain ⟨s21, hx, rfl⟩ := Option.map_eq_some_iff.1 ((List.getElem?_map ..).symm.trans ha)
  have hS := hS q24 h23 s21 hx hJ; clear hJ hx ha
  refine Run.ops0 (idx := [0]) rfl ?_
  refine Run.go rfl rfl rfl (sem_assign ((Value.string s21)) rfl ?_)
  refine Run.region_end ?_
  refine Run.begin ⟨rfl, ?_⟩
  refine Run.block ?_
  refine Run.seq ?_
  refine Run.seq ?_
  refine Run.ops0 (idx := [0, 1, 2]) rfl ?_
  obtain ⟨i27, hl, hS⟩ := hS
  refine Run.go rfl rfl rfl (sem_load1 ⟨k15, 0, none⟩ ((Value.int .i64 (i27))) rfl TF.agg_3 hl ?_)
  refine Run.go rfl rfl rfl (sem_binI .i64 (i27) (1) ((Value.int .i64 (IntKind.wrap .i64 ((i27) + (1))))) rfl rfl rfl ?_)
  obtain ⟨h28, hst, hS⟩ := hS
  refine Run.go rfl rfl rfl (sem_store1 ⟨k15, 0, none⟩ ((Value.int .i64 (IntKind.wrap .i64 ((i27) + (1))))) h28 rfl rfl rfl TF.sz_3 hst ?_)
  refine Run.region_end ?_
  refine Run.seq ?_
  refine Run.ops0 (idx := [0, 1]) rfl ?_
  obtain ⟨i29, hl, hS⟩ := hS
  refine Run.go rfl rfl rfl (sem_load1 ⟨k15, 0, none⟩ ((Value.int .i64 (i29))) rfl TF.agg_3 hl ?_)
  obtain ⟨hT, hF⟩ := hS
  by_cases hb30 : (i29 : Int) = 1
  ·have hS := hT hb30; clear hT hF
   refine Run.go rfl rfl rfl (sem_binI .i64 (i29) (1) (.bool true) rfl rfl (binI_eql_t hb30) ?_)
   refine Run.region_end ?_
   refine Run.condT rfl ?_
   refine Run.seq ?_
   refine Run.ops0 (idx := [0, 1, 2, 3, 4, 5, 6, 7, 8]) rfl ?_
   refine Run.go rfl rfl rfl (sem_move ((Value.string s21)) rfl ?_)
   refine Run.go rfl rfl rfl (sem_callL [(Value.string s21)] (TF.goes_108) rfl rfl (Spec.mono hS fun v h31 hv => ?_))
   obtain ⟨i32, s33, b34, rfl, hS⟩ := hv
   refine Run.go rfl rfl rfl (sem_move ((Value.tuple #[(Value.int .i64 (i32)), (Value.string s33), (Value.bool b34)])) rfl ?_)
   refine Run.go rfl rfl rfl (sem_extract #[(Value.int .i64 (i32)), (Value.string s33), (Value.bool b34)] ((Value.int .i64 (i32))) rfl rfl ?_)
   refine Run.go rfl rfl rfl (sem_extract #[(Value.int .i64 (i32)), (Value.string s33), (Value.bool b34)] ((Value.string s33)) rfl rfl ?_)
   obtain ⟨hT, hF⟩ := hS
   cases b34
   ·have hS := hF rfl; clear hT hF
    refine Run.go rfl rfl rfl (sem_extract #[(Value.int .i64 (i32)), (Value.string s33), (Value.bool false)] (.bool false) rfl rfl ?_)
    refine Run.go rfl rfl rfl (sem_assign ((Value.int .i64 (i32))) rfl ?_)
    refine Run.go rfl rfl rfl (sem_assign ((Value.string s33)) rfl ?_)
    refine Run.go rfl rfl rfl (sem_assign ((Value.bool false)) rfl ?_)
    refine Run.region_end ?_
    refine Run.seq ?_
    refine Run.seq ?_
    refine Run.ops0 (idx := [0, 1]) rfl ?_
    refine Run.go rfl rfl rfl (sem_move ((Value.bool false)) rfl ?_)
    refine Run.go rfl rfl rfl (sem_not false rfl ?_)
    refine Run.region_end ?_
    refine Run.condT rfl ?_
    refine Run.seq ?_
    refine Run.ops0 (idx := [0, 1, 2]) rfl ?_
    refine Run.go rfl rfl rfl (sem_buildSL [] [(Value.string ByteArray.empty), (Value.slice none 0 0)] TF.zero_51 TF.places_51 rfl rfl ?_)
    obtain ⟨h35, hst, hS⟩ := hS
    refine Run.go rfl rfl rfl (sem_store1 ⟨k7, 0, none⟩ ((Value.int .i64 (0))) h35 rfl rfl rfl TF.sz_3 hst ?_)
    obtain ⟨h36, hst, hS⟩ := hS
    refine Run.go rfl rfl rfl (sem_storeN ⟨k9, 0, none⟩ [(Value.string ByteArray.empty), (Value.slice none 0 0)] h36 rfl rfl TF.sz_51 hst ?_)
    refine Run.region_end ?_
    refine Run.ret (.inr ⟨_, rfl, ?_⟩)
    obtain ⟨i37, hl0, hS⟩ := hS
    obtain ⟨s38, a39, n40, c41, hl1, hS⟩ := hS
    refine Run.ret ⟨.inr rfl, ?_⟩
    exact ⟨⟨k7, 0, none⟩, (Value.int .i64 (i37)), rfl, loadH1 TF.agg_3 hl0, ⟨⟨k9, 0, none⟩, (Value.agg #[(Value.string s38), (Value.slice a39 n40 c41)]), rfl, loadHN TF.agg_51 TF.sz_51 hl1, hS.imp fun h' hq => ⟨(i37), s38, a39, n40, c41, rfl, hq⟩⟩⟩
   ·have hS := hT rfl; clear hT hF
    refine Run.go rfl rfl rfl (sem_extract #[(Value.int .i64 (i32)), (Value.string s33), (Value.bool true)] (.bool true) rfl rfl ?_)
    refine Run.go rfl rfl rfl (sem_assign ((Value.int .i64 (i32))) rfl ?_)
    refine Run.go rfl rfl rfl (sem_assign ((Value.string s33)) rfl ?_)
    refine Run.go rfl rfl rfl (sem_assign ((Value.bool true)) rfl ?_)
    refine Run.region_end ?_
    refine Run.seq ?_
    refine Run.seq ?_
    refine Run.ops0 (idx := [0, 1]) rfl ?_
    refine Run.go rfl rfl rfl (sem_move ((Value.bool true)) rfl ?_)
    refine Run.go rfl rfl rfl (sem_not true rfl ?_)
    refine Run.region_end ?_
    refine Run.condF rfl ?_
    refine Run.skip ?_
    refine Run.seq ?_
    refine Run.ops0 (idx := [0, 1, 2, 3, 4]) rfl ?_
    refine Run.go rfl rfl rfl (sem_move ((Value.int .i64 (i32))) rfl ?_)
    refine Run.go rfl rfl rfl (sem_move ((Value.string s33)) rfl ?_)
    obtain ⟨h42, hst, hS⟩ := hS
    refine Run.go rfl rfl rfl (sem_store1 ⟨k13, 0, none⟩ ((Value.int .i64 (i32))) h42 rfl rfl rfl TF.sz_3 hst ?_)
    refine Run.go rfl rfl rfl (sem_fieldAddr ⟨k11, 0, none⟩ 0 rfl TF.fld_51_0 ?_)
    obtain ⟨h43, hst, hS⟩ := hS
    refine Run.go rfl rfl rfl (sem_store1 ⟨k11, 0, none⟩ ((Value.string s33)) h43 rfl rfl rfl TF.sz_9 hst ?_)
    refine Run.region_end ?_
    refine Run.exit rfl ?_
    refine Run.of_fin (hS.imp fun h' hS => ?_)
    exact Run.fall (.inl ⟨rfl, hS⟩)
  ·have hS := hF hb30; clear hT hF
   refine Run.go rfl rfl rfl (sem_binI .i64 (i29) (1) (.bool false) rfl rfl (binI_eql_f hb30) ?_)
   refine Run.region_end ?_
   refine Run.condF rfl ?_
   refine Run.skip ?_
   refine Run.seqJ (fun e h45 => Agree [(4, (Value.pointer (some ⟨k11, 0, none⟩))), (7, (Value.string s21))] e ∧ S_vault_look_J1 B k11 s21 q24 J25 h45 Q) ?_ fun j44 => ?_
   ·rintro e h45 ⟨hag, hS⟩
    refine Run.env hag ?_; clear hag
    skip
    obtain ⟨a47, n48, c49, hl, hS⟩ := hS
    have f50 := hl
    skip
    obtain ⟨hi0, hi1, hi2, hS⟩ := hS
    have f53 := hi0; have f54 := hi1; have f55 := hi2
    refine Run.drawM (fun h' => cellH B h' ⟨k11, 1, none⟩ = some (Value.slice a47 n48 c49) ∧ True) [7] ⟨[0, 1, 0, 4, 8, 18, 63, 127], [255, 254, 255, 251, 247, 237, 255, 159], [0, 1, 0, 4, 12, 31, 63, 127], 128⟩ (.q 0 (.q 1 (.q 2 (.q 3 (.x 4 (.x 5 (.q 6 (.x 7 .nil .no)) .no) .no))))) TF.mixed (by kernel_rfl) ⟨f50, trivial⟩ ?_
    refine RunT.quiet rfl rfl rfl (fun h' hC => sem_fieldAddr ⟨k11, 0, none⟩ 1 rfl TF.fld_51_1 ⟨rfl, rfl⟩) ?_
    refine RunT.quiet rfl rfl rfl (fun h' hC => sem_load1 ⟨k11, 1, none⟩ ((Value.slice a47 n48 c49)) rfl TF.agg_45 hC.1 ⟨rfl, rfl⟩) ?_
    refine RunT.quiet rfl rfl rfl (fun h' hC => sem_move ((Value.string s21)) rfl ⟨rfl, rfl⟩) ?_
    refine RunT.quiet rfl rfl rfl (fun h' hC => sem_sliceStrI s21 (1) ((ByteArray.size s21 : Nat)) rfl TF.isStr_9 ⟨_, rfl⟩ rfl f53 f54 f55 ⟨rfl, rfl⟩) ?_
    refine ⟨?_, trivial⟩
    refine OpH.go rfl rfl rfl (sem_buildSliceL [(0, (Value.string (ByteArray.extract s21 (Int.toNat (1)) (Int.toNat ((ByteArray.size s21 : Nat))))))] [(Value.string (ByteArray.extract s21 (Int.toNat (1)) (Int.toNat ((ByteArray.size s21 : Nat)))))] TF.slc_45 TF.zero_9 rfl (by decide) (by decide) rfl rfl (fun k56 hb1 hb2 h57 hb3 => ?_))
    have hS := hS k56 hb1 hb2 h57 hb3
    obtain ⟨g58, hS⟩ := hS
    refine ⟨fun _ => ⟨g58, trivial⟩, ?_⟩
    refine ⟨?_, trivial⟩
    refine OpH.go rfl rfl rfl (sem_appendL [(Value.slice a47 n48 c49), (Value.slice (some ⟨k56, 0, none⟩) 1 1)] rfl (semH_mono (fun v h59 hv => ?_) hS))
    obtain ⟨a60, n61, c62, rfl, hS⟩ := hv
    obtain ⟨g63, hS⟩ := hS
    refine ⟨fun _ => ⟨g63, trivial⟩, ?_⟩
    refine RunT.quiet rfl rfl rfl (fun h' hC => sem_fieldAddr ⟨k11, 0, none⟩ 1 rfl TF.fld_51_1 ⟨rfl, rfl⟩) ?_
    refine ⟨?_, trivial⟩
    obtain ⟨h64, hst, hS⟩ := hS
    refine OpH.go rfl rfl rfl (sem_store1 ⟨k11, 1, none⟩ ((Value.slice a60 n61 c62)) h64 rfl rfl rfl TF.sz_45 hst ?_)
    refine ⟨fun hz => Bool.noConfusion hz, ?_⟩
    refine Run.inBlock ?_
    refine Run.of_fin (hS.imp fun h' hS => ?_)
    exact Run.fall (.inl ⟨rfl, hS⟩)
   refine Run.seq ?_
   refine Run.ops0 (idx := [0, 1, 2, 3, 4, 5, 6]) rfl ?_
   refine Run.go rfl rfl rfl (sem_move ((Value.string s21)) rfl ?_)
   obtain ⟨hT, hF⟩ := hS
   by_cases hb65 : s21 = (ByteArray.mk #[])
   ·have hS := hT hb65; clear hT hF
    refine Run.go rfl rfl rfl (sem_strEqT s21 (ByteArray.mk #[]) rfl rfl hb65 ?_)
    refine Run.go rfl rfl rfl (sem_move ((Value.bool true)) rfl ?_)
    refine Run.no rfl rfl rfl ?_
    refine Run.no rfl rfl rfl ?_
    refine Run.no rfl rfl rfl ?_
    refine Run.go rfl rfl rfl (sem_pick true ((Value.bool true)) rfl rfl ?_)
    refine Run.region_end ?_
    refine Run.condT rfl ?_
    refine Run.out rfl (.inr ⟨_, rfl, ?_⟩)
    refine Run.exit rfl ?_
    refine Run.seq ?_
    obtain ⟨i66, hl, hS⟩ := hS
    have f67 := hl
    obtain ⟨s68, a69, n70, c71, hl, hS⟩ := hS
    have f72 := hl
    refine Run.drawM (fun h' => cellH B h' ⟨k13, 0, none⟩ = some (Value.int .i64 (i66)) ∧ CellsAt B h' ⟨k11, 0, none⟩ 0 [(Value.string s68), (Value.slice a69 n70 c71)] ∧ True) [3] ⟨[0, 0, 1, 7], [15, 15, 14, 13], [0, 0, 1, 7], 8⟩ (.q 0 (.q 1 (.x 2 (.x 3 .nil .no) .no))) TF.mixed (by kernel_rfl) ⟨f67, f72, trivial⟩ ?_
    refine RunT.quiet rfl rfl rfl (fun h' hC => sem_load1 ⟨k13, 0, none⟩ ((Value.int .i64 (i66))) rfl TF.agg_3 hC.1 ⟨rfl, rfl⟩) ?_
    refine RunT.quiet rfl rfl rfl (fun h' hC => sem_loadN ⟨k11, 0, none⟩ [(Value.string s68), (Value.slice a69 n70 c71)] rfl TF.agg_51 TF.sz_51 hC.2.1 ⟨rfl, rfl⟩) ?_
    refine ⟨?_, trivial⟩
    obtain ⟨h73, hst, hS⟩ := hS
    refine OpH.go rfl rfl rfl (sem_store1 ⟨k7, 0, none⟩ ((Value.int .i64 (i66))) h73 rfl rfl rfl TF.sz_3 hst ?_)
    obtain ⟨g74, g75, hS⟩ := hS
    refine ⟨fun _ => ⟨g74, g75, trivial⟩, ?_⟩
    refine ⟨?_, trivial⟩
    obtain ⟨h76, hst, hS⟩ := hS
    refine OpH.go rfl rfl rfl (sem_storeN ⟨k9, 0, none⟩ [(Value.string s68), (Value.slice a69 n70 c71)] h76 rfl rfl TF.sz_51 hst ?_)
    refine ⟨fun hz => Bool.noConfusion hz, ?_⟩
    obtain ⟨i77, hl0, hS⟩ := hS
    obtain ⟨s78, a79, n80, c81, hl1, hS⟩ := hS
    refine Run.ret ⟨.inr rfl, ?_⟩
    exact ⟨⟨k7, 0, none⟩, (Value.int .i64 (i77)), rfl, loadH1 TF.agg_3 hl0, ⟨⟨k9, 0, none⟩, (Value.agg #[(Value.string s78), (Value.slice a79 n80 c81)]), rfl, loadHN TF.agg_51 TF.sz_51 hl1, hS.imp fun h' hq => ⟨(i77), s78, a79, n80, c81, rfl, hq⟩⟩⟩
   ·have hS := hF hb65; clear hT hF
    refine Run.go rfl rfl rfl (sem_strEqF s21 (ByteArray.mk #[]) rfl rfl hb65 ?_)
    refine Run.go rfl rfl rfl (sem_move ((Value.bool false)) rfl ?_)
    refine Run.go rfl rfl rfl (sem_move ((Value.string s21)) rfl ?_)
    obtain ⟨hi0, hi1, hS⟩ := hS
    refine Run.go rfl rfl rfl (sem_indexStr' s21 .i64 (0) rfl rfl TF.isStr_9 hi0 hi1 ?_)
    obtain ⟨hT, hF⟩ := hS
    by_cases hb82 : (byteAt s21 (Int.toNat (0)) : Int) = 1
    ·have hS := hT hb82; clear hT hF
     refine Run.go rfl rfl rfl (sem_binI .u8 (byteAt s21 (Int.toNat (0))) (1) (.bool false) rfl rfl (binI_neq_t hb82) ?_)
     refine Run.go rfl rfl rfl (sem_pick false ((Value.bool false)) rfl rfl ?_)
     refine Run.region_end ?_
     refine Run.condF rfl ?_
     refine Run.skip ?_
     exact Run.of_fin (hS.imp fun h' hS => j44 _ _ ⟨⟨rfl, rfl, trivial⟩, hS⟩)
    ·have hS := hF hb82; clear hT hF
     refine Run.go rfl rfl rfl (sem_binI .u8 (byteAt s21 (Int.toNat (0))) (1) (.bool true) rfl rfl (binI_neq_f hb82) ?_)
     refine Run.go rfl rfl rfl (sem_pick false ((Value.bool true)) rfl rfl ?_)
     refine Run.region_end ?_
     refine Run.condT rfl ?_
     refine Run.out rfl (.inr ⟨_, rfl, ?_⟩)
     refine Run.exit rfl ?_
     refine Run.seq ?_
     obtain ⟨i83, hl, hS⟩ := hS
     have f84 := hl
     obtain ⟨s85, a86, n87, c88, hl, hS⟩ := hS
     have f89 := hl
     refine Run.drawM (fun h' => cellH B h' ⟨k13, 0, none⟩ = some (Value.int .i64 (i83)) ∧ CellsAt B h' ⟨k11, 0, none⟩ 0 [(Value.string s85), (Value.slice a86 n87 c88)] ∧ True) [3] ⟨[0, 0, 1, 7], [15, 15, 14, 13], [0, 0, 1, 7], 8⟩ (.q 0 (.q 1 (.x 2 (.x 3 .nil .no) .no))) TF.mixed (by kernel_rfl) ⟨f84, f89, trivial⟩ ?_
     refine RunT.quiet rfl rfl rfl (fun h' hC => sem_load1 ⟨k13, 0, none⟩ ((Value.int .i64 (i83))) rfl TF.agg_3 hC.1 ⟨rfl, rfl⟩) ?_
     refine RunT.quiet rfl rfl rfl (fun h' hC => sem_loadN ⟨k11, 0, none⟩ [(Value.string s85), (Value.slice a86 n87 c88)] rfl TF.agg_51 TF.sz_51 hC.2.1 ⟨rfl, rfl⟩) ?_
     refine ⟨?_, trivial⟩
     obtain ⟨h90, hst, hS⟩ := hS
     refine OpH.go rfl rfl rfl (sem_store1 ⟨k7, 0, none⟩ ((Value.int .i64 (i83))) h90 rfl rfl rfl TF.sz_3 hst ?_)
     obtain ⟨g91, g92, hS⟩ := hS
     refine ⟨fun _ => ⟨g91, g92, trivial⟩, ?_⟩
     refine ⟨?_, trivial⟩
     obtain ⟨h93, hst, hS⟩ := hS
     refine OpH.go rfl rfl rfl (sem_storeN ⟨k9, 0, none⟩ [(Value.string s85), (Value.slice a86 n87 c88)] h93 rfl rfl TF.sz_51 hst ?_)
     refine ⟨fun hz => Bool.noConfusion hz, ?_⟩
     obtain ⟨i94, hl0, hS⟩ := hS
     obtain ⟨s95, a96, n97, c98, hl1, hS⟩ := hS
     refine Run.ret ⟨.inr rfl, ?_⟩
     exact ⟨⟨k7, 0, none⟩, (Value.int .i64 (i94)), rfl, loadH1 TF.agg_3 hl0, ⟨⟨k9, 0, none⟩, (Value.agg #[(Value.string s95), (Value.slice a96 n97 c98)]), rfl, loadHN TF.agg_51 TF.sz_51 hl1, hS.imp fun h' hq => ⟨(i94), s95, a96, n97, c98, rfl, hq⟩⟩⟩
 ·intro h23 hJ
  have hS := hR h23 (by simpa using hJ); clear hJ hR
  refine Run.inBlock ?_
  refine Run.seq ?_
  obtain ⟨i99, hl, hS⟩ := hS
  have f100 := hl
  obtain ⟨s101, a102, n103, c104, hl, hS⟩ := hS
  have f105 := hl
  refine Run.drawM (fun h' => cellH B h' ⟨k13, 0, none⟩ = some (Value.int .i64 (i99)) ∧ CellsAt B h' ⟨k11, 0, none⟩ 0 [(Value.string s101), (Value.slice a102 n103 c104)] ∧ True) [3] ⟨[0, 0, 1, 7], [15, 15, 14, 13], [0, 0, 1, 7], 8⟩ (.q 0 (.q 1 (.x 2 (.x 3 .nil .no) .no))) TF.mixed (by kernel_rfl) ⟨f100, f105, trivial⟩ ?_
  refine RunT.quiet rfl rfl rfl (fun h' hC => sem_load1 ⟨k13, 0, none⟩ ((Value.int .i64 (i99))) rfl TF.agg_3 hC.1 ⟨rfl, rfl⟩) ?_
  refine RunT.quiet rfl rfl rfl (fun h' hC => sem_loadN ⟨k11, 0, none⟩ [(Value.string s101), (Value.slice a102 n103 c104)] rfl TF.agg_51 TF.sz_51 hC.2.1 ⟨rfl, rfl⟩) ?_
  refine ⟨?_, trivial⟩
  obtain ⟨h106, hst, hS⟩ := hS
  refine OpH.go rfl rfl rfl (sem_store1 ⟨k7, 0, none⟩ ((Value.int .i64 (i99))) h106 rfl rfl rfl TF.sz_3 hst ?_)
  obtain ⟨g107, g108, hS⟩ := hS
  refine ⟨fun _ => ⟨g107, g108, trivial⟩, ?_⟩
  refine ⟨?_, trivial⟩
  obtain ⟨h109, hst, hS⟩ := hS
  refine OpH.go rfl rfl rfl (sem_storeN ⟨k9, 0, none⟩ [(Value.string s101), (Value.slice a102 n103 c104)] h109 rfl rfl TF.sz_51 hst ?_)
  refine ⟨fun hz => Bool.noConfusion hz, ?_⟩
  obtain ⟨i110, hl0, hS⟩ := hS
  obtain ⟨s111, a112, n113, c114, hl1, hS⟩ := hS
  refine Run.ret ⟨.inr rfl, ?_⟩
  exact ⟨⟨k7, 0, none⟩, (Value.int .i64 (i110)), rfl, loadH1 TF.agg_3 hl0, ⟨⟨k9, 0, none⟩, (Value.agg #[(Value.string s111), (Value.slice a112 n113 c114)]), rfl, loadHN TF.agg_51 TF.sz_51 hl1, hS.imp fun h' hq => ⟨(i110), s111, a112, n113, c114, rfl, hq⟩⟩⟩
set_option maxHeartbeats 4000000 in
theorem C_stylus_Stylus_Nat.of {B : RO} {p1 : Option Addr} {a2 : Option Addr} {n3 : Nat} {c4 : Nat} {h : Heap} {Q : Heap → Prop} (hS : S_stylus_Stylus_Nat B p1 a2 n3 c4 h Q) : C_stylus_Stylus_Nat B p1 a2 n3 c4 h Q := by
 unfold S_stylus_Stylus_Nat at hS
 unfold C_stylus_Stylus_Nat
 refine Spec.of_run Try.func72 (N := 42) (rs := []) rfl rfl rfl (Nat.le_of_ble_eq_true rfl) ?_
 refine Run.seq ?_
 refine Run.ops0 (idx := [0, 1, 2]) rfl ?_
 refine Run.go rfl rfl rfl (sem_move ((Value.slice a2 n3 c4)) rfl ?_)
 refine Run.go rfl rfl rfl (sem_lenSl a2 n3 c4 rfl TF.sl_184 ?_)
 refine Run.go rfl rfl rfl (sem_move ((Value.int .i64 (0))) rfl ?_)
 refine Run.region_end ?_
 refine Run.block ?_
 obtain ⟨J10, m8, h0, hS⟩ := hS
 refine Run.of_fin (h0.imp fun h' h0 => ?_)
 refine Run.loop (σ := Int × Nat) (fun x e h => J10 x.1 x.2 h ∧ Agree [(0, (Value.pointer p1)), (6, (Value.slice a2 n3 c4)), (7, (Value.int .i64 ((n3 : Nat)))), (8, (Value.int .i64 (x.1)))] e) (fun x => x.2) ((0), m8) ⟨h0, ⟨rfl, rfl, rfl, rfl, trivial⟩⟩ ?_; clear h0
 rintro ⟨i5, m7⟩ e h6 ⟨hJ, hag⟩ ih9
 have hS := hS i5 m7 h6 hJ; clear hJ
 refine Run.env hag ?_; clear hag
 refine Run.seq ?_
 refine Run.ops0 (idx := [0]) rfl ?_
 obtain ⟨hT, hF⟩ := hS
 by_cases hb11 : (i5 : Int) < ((n3 : Nat))
 ·have hS := hT hb11; clear hT hF
  refine Run.go rfl rfl rfl (sem_binI .i64 (i5) ((n3 : Nat)) (.bool true) rfl rfl (binI_lss_t hb11) ?_)
  refine Run.region_end ?_
  refine Run.seq ?_
  refine Run.condT rfl ?_
  refine Run.skip ?_
  refine Run.seq ?_
  refine Run.block ?_
  refine Run.seq ?_
  refine Run.ops0 (idx := [0, 1, 2]) rfl ?_
  obtain ⟨A12, e13, hi0, hi1, hS⟩ := hS
  refine Run.go rfl rfl rfl (sem_indexAddrS A12 n3 c4 .i64 (i5) (congrArg (fun a => Value.slice a n3 c4) e13) rfl TF.slc_184 hi0 hi1 ?_)
  obtain ⟨i14, hl, hS⟩ := hS
  refine Run.go rfl rfl rfl (sem_load1 (Addr.add A12 (Int.toNat (i5) * 1)) ((Value.int .i64 (i14))) rfl TF.agg_3 hl ?_)
  refine Run.go rfl rfl rfl (sem_assign ((Value.int .i64 (i14))) rfl ?_)
  refine Run.region_end ?_
  refine Run.seq ?_
  refine Run.seq ?_
  refine Run.ops0 (idx := [0, 1]) rfl ?_
  refine Run.go rfl rfl rfl (sem_move ((Value.int .i64 (i14))) rfl ?_)
  obtain ⟨hT, hF⟩ := hS
  by_cases hb15 : (i14 : Int) < (0)
  ·have hS := hT hb15; clear hT hF
   refine Run.go rfl rfl rfl (sem_binI .i64 (i14) (0) (.bool true) rfl rfl (binI_lss_t hb15) ?_)
   refine Run.region_end ?_
   refine Run.condT rfl ?_
   refine Run.exit rfl ?_
   refine Run.ops0 (idx := [0, 1]) rfl ?_
   refine Run.go rfl rfl rfl (sem_binI .i64 (i5) (1) ((Value.int .i64 (IntKind.wrap .i64 ((i5) + (1))))) rfl rfl rfl ?_)
   refine Run.go rfl rfl rfl (sem_move ((Value.int .i64 (IntKind.wrap .i64 ((i5) + (1))))) rfl ?_)
   refine Run.region_end ?_
   exact Run.of_fin (hS.imp fun h' ⟨m', hm, hS⟩ => ih9 ((IntKind.wrap .i64 ((i5) + (1))), m') _ _ ⟨hS, ⟨rfl, rfl, rfl, rfl, trivial⟩⟩ hm)
  ·have hS := hF hb15; clear hT hF
   refine Run.go rfl rfl rfl (sem_binI .i64 (i14) (0) (.bool false) rfl rfl (binI_lss_f hb15) ?_)
   refine Run.region_end ?_
   refine Run.condF rfl ?_
   refine Run.skip ?_
   refine Run.seqJ (fun e h18 => ∃ i17 : Int, Agree [(0, (Value.pointer p1)), (5, (Value.int .i64 (i17))), (6, (Value.slice a2 n3 c4)), (7, (Value.int .i64 ((n3 : Nat)))), (8, (Value.int .i64 (i5)))] e ∧ S_stylus_Stylus_Nat_J1 B p1 a2 n3 c4 i5 m7 J10 i17 h18 Q) ?_ fun j16 => ?_
   ·rintro e h18 ⟨i17, hag, hS⟩
    refine Run.env hag ?_; clear hag
    refine Run.ops0 (idx := [0, 1, 2, 3, 4, 5, 6, 7, 8, 9, 10, 11]) rfl ?_
    refine Run.go rfl rfl rfl (sem_move ((Value.pointer p1)) rfl ?_)
    refine Run.go rfl rfl rfl (sem_move ((Value.pointer p1)) rfl ?_)
    obtain ⟨A19, e20, hS⟩ := hS
    refine Run.go rfl rfl rfl (sem_nilCheck A19 (congrArg Value.pointer e20) ?_)
    refine Run.go rfl rfl rfl (sem_fieldAddr A19 0 rfl TF.fld_146_0 ?_)
    refine Run.ldSl hS fun a21 n22 c23 h24 hl hS => ?_
    refine Run.go rfl rfl rfl (sem_load1 A19 ((Value.slice a21 n22 c23)) rfl TF.agg_144 hl ?_)
    refine Run.go rfl rfl rfl (sem_move ((Value.int .i64 (i17))) rfl ?_)
    refine Run.go rfl rfl rfl (sem_convI .i64 .u8 (i17) rfl TF.int_3 TF.int_5 ?_)
    refine Run.go rfl rfl rfl (sem_buildSliceL [(0, (Value.int .u8 (IntKind.wrap .u8 (i17))))] [(Value.int .u8 (IntKind.wrap .u8 (i17)))] TF.slc_144 TF.zero_5 rfl (by decide) (by decide) rfl rfl (fun k25 hb1 hb2 h26 hb3 => ?_))
    have hS := hS k25 hb1 hb2 h26 hb3
    refine Run.go rfl rfl rfl (sem_appendL [(Value.slice a21 n22 c23), (Value.slice (some ⟨k25, 0, none⟩) 1 1)] rfl (semH_mono (fun v h27 hv => ?_) hS))
    obtain ⟨a28, n29, c30, rfl, hS⟩ := hv
    obtain ⟨A31, e32, hS⟩ := hS
    refine Run.go rfl rfl rfl (sem_nilCheck A31 (congrArg Value.pointer e32) ?_)
    refine Run.go rfl rfl rfl (sem_fieldAddr A31 0 rfl TF.fld_146_0 ?_)
    obtain ⟨h33, hst, hS⟩ := hS
    refine Run.go rfl rfl rfl (sem_store1 A31 ((Value.slice a28 n29 c30)) h33 rfl rfl rfl TF.sz_144 hst ?_)
    refine Run.region_end ?_
    refine Run.inBlock ?_
    refine Run.ops0 (idx := [0, 1]) rfl ?_
    refine Run.go rfl rfl rfl (sem_binI .i64 (i5) (1) ((Value.int .i64 (IntKind.wrap .i64 ((i5) + (1))))) rfl rfl rfl ?_)
    refine Run.go rfl rfl rfl (sem_move ((Value.int .i64 (IntKind.wrap .i64 ((i5) + (1))))) rfl ?_)
    refine Run.region_end ?_
    exact Run.of_fin (hS.imp fun h' ⟨m', hm, hS⟩ => ih9 ((IntKind.wrap .i64 ((i5) + (1))), m') _ _ ⟨hS, ⟨rfl, rfl, rfl, rfl, trivial⟩⟩ hm)
   refine Run.block ?_
   obtain ⟨J39, m37, h0, hS⟩ := hS
   refine Run.of_fin (h0.imp fun h' h0 => ?_)
   refine Run.loop (σ := Int × Nat) (fun x e h => J39 x.1 x.2 h ∧ Agree [(0, (Value.pointer p1)), (5, (Value.int .i64 (x.1))), (6, (Value.slice a2 n3 c4)), (7, (Value.int .i64 ((n3 : Nat)))), (8, (Value.int .i64 (i5)))] e) (fun x => x.2) ((i14), m37) ⟨h0, ⟨rfl, rfl, rfl, rfl, rfl, trivial⟩⟩ ?_; clear h0
   rintro ⟨i34, m36⟩ e h35 ⟨hJ, hag⟩ ih38
   have hS := hS i34 m36 h35 hJ; clear hJ
   refine Run.env hag ?_; clear hag
   refine Run.seq ?_
   refine Run.seq ?_
   refine Run.ops0 (idx := [0, 1]) rfl ?_
   refine Run.go rfl rfl rfl (sem_move ((Value.int .i64 (i34))) rfl ?_)
   obtain ⟨hT, hF⟩ := hS
   by_cases hb40 : (i34 : Int) ≥ (128)
   ·have hS := hT hb40; clear hT hF
    refine Run.go rfl rfl rfl (sem_binI .i64 (i34) (128) (.bool true) rfl rfl (binI_geq_t hb40) ?_)
    refine Run.region_end ?_
    refine Run.condT rfl ?_
    refine Run.skip ?_
    refine Run.block ?_
    refine Run.seq ?_
    refine Run.ops0 (idx := [0, 1, 2, 3, 4, 5, 6, 7, 8, 9, 10, 11, 12]) rfl ?_
    refine Run.go rfl rfl rfl (sem_move ((Value.pointer p1)) rfl ?_)
    refine Run.go rfl rfl rfl (sem_move ((Value.pointer p1)) rfl ?_)
    obtain ⟨A41, e42, hS⟩ := hS
    refine Run.go rfl rfl rfl (sem_nilCheck A41 (congrArg Value.pointer e42) ?_)
    refine Run.go rfl rfl rfl (sem_fieldAddr A41 0 rfl TF.fld_146_0 ?_)
    refine Run.ldSl hS fun a43 n44 c45 h46 hl hS => ?_
    refine Run.go rfl rfl rfl (sem_load1 A41 ((Value.slice a43 n44 c45)) rfl TF.agg_144 hl ?_)
    refine Run.go rfl rfl rfl (sem_move ((Value.int .i64 (i34))) rfl ?_)
    refine Run.go rfl rfl rfl (sem_convI .i64 .u8 (i34) rfl TF.int_3 TF.int_5 ?_)
    refine Run.go rfl rfl rfl (sem_binI .u8 (IntKind.wrap .u8 (i34)) (128) ((Value.int .u8 (IntKind.wrap .u8 ((BitVec.ofInt (IntKind.bits .u8) (IntKind.wrap .u8 (i34)) ||| BitVec.ofInt (IntKind.bits .u8) (128)).toNat : Int)))) rfl rfl rfl ?_)
    refine Run.go rfl rfl rfl (sem_buildSliceL [(0, (Value.int .u8 (IntKind.wrap .u8 ((BitVec.ofInt (IntKind.bits .u8) (IntKind.wrap .u8 (i34)) ||| BitVec.ofInt (IntKind.bits .u8) (128)).toNat : Int))))] [(Value.int .u8 (IntKind.wrap .u8 ((BitVec.ofInt (IntKind.bits .u8) (IntKind.wrap .u8 (i34)) ||| BitVec.ofInt (IntKind.bits .u8) (128)).toNat : Int)))] TF.slc_144 TF.zero_5 rfl (by decide) (by decide) rfl rfl (fun k47 hb1 hb2 h48 hb3 => ?_))
    have hS := hS k47 hb1 hb2 h48 hb3
    refine Run.go rfl rfl rfl (sem_appendL [(Value.slice a43 n44 c45), (Value.slice (some ⟨k47, 0, none⟩) 1 1)] rfl (semH_mono (fun v h49 hv => ?_) hS))
    obtain ⟨a50, n51, c52, rfl, hS⟩ := hv
    obtain ⟨A53, e54, hS⟩ := hS
    refine Run.go rfl rfl rfl (sem_nilCheck A53 (congrArg Value.pointer e54) ?_)
    refine Run.go rfl rfl rfl (sem_fieldAddr A53 0 rfl TF.fld_146_0 ?_)
    obtain ⟨h55, hst, hS⟩ := hS
    refine Run.go rfl rfl rfl (sem_store1 A53 ((Value.slice a50 n51 c52)) h55 rfl rfl rfl TF.sz_144 hst ?_)
    refine Run.region_end ?_
    refine Run.ops0 (idx := [0, 1, 2]) rfl ?_
    refine Run.go rfl rfl rfl (sem_move ((Value.int .i64 (i34))) rfl ?_)
    obtain ⟨hi0, hS⟩ := hS
    refine Run.go rfl rfl rfl (sem_shr .i64 .u64 (i34) (7) rfl rfl hi0 ?_)
    refine Run.go rfl rfl rfl (sem_assign ((Value.int .i64 (Int.fdiv (i34) (2 ^ (min (Int.toNat (7)) (IntKind.bits .i64)))))) rfl ?_)
    refine Run.region_end ?_
    refine Run.inBlock ?_
    exact Run.of_fin (hS.imp fun h' ⟨m', hm, hS⟩ => ih38 ((Int.fdiv (i34) (2 ^ (min (Int.toNat (7)) (IntKind.bits .i64)))), m') _ _ ⟨hS, ⟨rfl, rfl, rfl, rfl, rfl, trivial⟩⟩ hm)
   ·have hS := hF hb40; clear hT hF
    refine Run.go rfl rfl rfl (sem_binI .i64 (i34) (128) (.bool false) rfl rfl (binI_geq_f hb40) ?_)
    refine Run.region_end ?_
    refine Run.condF rfl ?_
    refine Run.exit rfl ?_
    exact Run.of_fin (hS.imp fun h' hS => j16 _ _ ⟨(i34), ⟨rfl, rfl, rfl, rfl, rfl, trivial⟩, hS⟩)
 ·have hS := hF hb11; clear hT hF
  refine Run.go rfl rfl rfl (sem_binI .i64 (i5) ((n3 : Nat)) (.bool false) rfl rfl (binI_lss_f hb11) ?_)
  refine Run.region_end ?_
  refine Run.seq ?_
  refine Run.condF rfl ?_
  refine Run.exit rfl ?_
  refine Run.fall ⟨.inl rfl, ?_⟩
  exact hS.imp fun h' hq => ⟨rfl, hq⟩
set_option maxHeartbeats 4000000 in
theorem C_stylus_Stylus_Raw.of {B : RO} {p1 : Option Addr} {s2 : ByteArray} {h : Heap} {Q : Heap → Prop} (hS : S_stylus_Stylus_Raw B p1 s2 h Q) : C_stylus_Stylus_Raw B p1 s2 h Q := by
 unfold S_stylus_Stylus_Raw at hS
 unfold C_stylus_Stylus_Raw
 refine Spec.of_run Try.func73 (N := 13) (rs := []) rfl rfl rfl (Nat.le_of_ble_eq_true rfl) ?_
 refine Run.ops0 (idx := [0, 1, 2, 3, 4, 5, 6, 7, 8, 9]) rfl ?_
 refine Run.go rfl rfl rfl (sem_move ((Value.pointer p1)) rfl ?_)
 refine Run.go rfl rfl rfl (sem_move ((Value.pointer p1)) rfl ?_)
 obtain ⟨A3, e4, hS⟩ := hS
 refine Run.go rfl rfl rfl (sem_nilCheck A3 (congrArg Value.pointer e4) ?_)
 refine Run.go rfl rfl rfl (sem_fieldAddr A3 0 rfl TF.fld_146_0 ?_)
 refine Run.ldSl hS fun a5 n6 c7 h8 hl hS => ?_
 refine Run.go rfl rfl rfl (sem_load1 A3 ((Value.slice a5 n6 c7)) rfl TF.agg_144 hl ?_)
 refine Run.go rfl rfl rfl (sem_move ((Value.string s2)) rfl ?_)
 refine Run.go rfl rfl rfl (sem_appendL [(Value.slice a5 n6 c7), (Value.string s2)] rfl (semH_mono (fun v h9 hv => ?_) hS))
 obtain ⟨a10, n11, c12, rfl, hS⟩ := hv
 obtain ⟨A13, e14, hS⟩ := hS
 refine Run.go rfl rfl rfl (sem_nilCheck A13 (congrArg Value.pointer e14) ?_)
 refine Run.go rfl rfl rfl (sem_fieldAddr A13 0 rfl TF.fld_146_0 ?_)
 obtain ⟨h15, hst, hS⟩ := hS
 refine Run.go rfl rfl rfl (sem_store1 A13 ((Value.slice a10 n11 c12)) h15 rfl rfl rfl TF.sz_144 hst ?_)
 refine Run.region_end ?_
 refine Run.fall ⟨.inl rfl, ?_⟩
 exact hS.imp fun h' hq => ⟨rfl, hq⟩
set_option maxHeartbeats 4000000 in
theorem C_stylus_Stylus_Bytes.of {B : RO} {p1 : Option Addr} {h : Heap} {Q : ByteArray → Heap → Prop} (hS : S_stylus_Stylus_Bytes B p1 h Q) : C_stylus_Stylus_Bytes B p1 h Q := by
 unfold S_stylus_Stylus_Bytes at hS
 unfold C_stylus_Stylus_Bytes
 refine Spec.of_run Try.func74 (N := 8) (rs := [ResultVar.tmp 2]) rfl rfl rfl (Nat.le_of_ble_eq_true rfl) ?_
 refine Run.seq ?_
 refine Run.ops0 (idx := [0]) rfl ?_
 refine Run.go rfl rfl rfl (sem_assign ((Value.string (ByteArray.mk #[]))) rfl ?_)
 refine Run.region_end ?_
 refine Run.seq ?_
 refine Run.ops0 (idx := [0, 1, 2, 3, 4, 5]) rfl ?_
 refine Run.go rfl rfl rfl (sem_move ((Value.pointer p1)) rfl ?_)
 obtain ⟨A3, e4, hS⟩ := hS
 refine Run.go rfl rfl rfl (sem_nilCheck A3 (congrArg Value.pointer e4) ?_)
 refine Run.go rfl rfl rfl (sem_fieldAddr A3 0 rfl TF.fld_146_0 ?_)
 refine Run.ldSl hS fun a5 n6 c7 h8 hl hS => ?_
 refine Run.go rfl rfl rfl (sem_load1 A3 ((Value.slice a5 n6 c7)) rfl TF.agg_144 hl ?_)
 refine Run.go rfl rfl rfl (sem_convW ((Value.slice a5 n6 c7)) rfl (semH_mono (fun v h10 hv => ?_) hS))
 obtain ⟨s9, rfl, hS⟩ := hv
 refine Run.go rfl rfl rfl (sem_assign ((Value.string s9)) rfl ?_)
 refine Run.region_end ?_
 refine Run.ret ⟨.inr rfl, ?_⟩
 exact hS.imp fun h' hq => ⟨s9, rfl, hq⟩
set_option maxHeartbeats 4000000 in
theorem C_wal_Log_Area.of {B : RO} {p1 : Option Addr} {h : Heap} {Q : Int → Heap → Prop} (hS : S_wal_Log_Area B p1 h Q) : C_wal_Log_Area B p1 h Q := by
 unfold S_wal_Log_Area at hS
 unfold C_wal_Log_Area
 refine Spec.of_run Try.func75 (N := 9) (rs := [ResultVar.tmp 2]) rfl rfl rfl (Nat.le_of_ble_eq_true rfl) ?_
 refine Run.seq ?_
 refine Run.ops0 (idx := [0]) rfl ?_
 refine Run.go rfl rfl rfl (sem_assign ((Value.int .i64 (0))) rfl ?_)
 refine Run.region_end ?_
 refine Run.seq ?_
 refine Run.seq ?_
 refine Run.ops0 (idx := [0, 1]) rfl ?_
 refine Run.go rfl rfl rfl (sem_move ((Value.pointer p1)) rfl ?_)
 obtain ⟨hT, hF⟩ := hS
 by_cases hb3 : p1 = none
 ·have hS := hT hb3; clear hT hF
  refine Run.go rfl rfl rfl (sem_ptrNilT p1 (.inl rfl) true rfl rfl TF.ptr_136 hb3 rfl ?_)
  refine Run.region_end ?_
  refine Run.condT rfl ?_
  refine Run.seq ?_
  refine Run.ops0 (idx := [0]) rfl ?_
  refine Run.go rfl rfl rfl (sem_assign ((Value.int .i64 (0))) rfl ?_)
  refine Run.region_end ?_
  refine Run.ret ⟨.inr rfl, ?_⟩
  exact hS.imp fun h' hq => ⟨(0), rfl, hq⟩
 ·have hS := hF hb3; clear hT hF
  refine Run.go rfl rfl rfl (sem_ptrNilF p1 (.inl rfl) false rfl rfl TF.ptr_136 hb3 rfl ?_)
  refine Run.region_end ?_
  refine Run.condF rfl ?_
  refine Run.skip ?_
  refine Run.seq ?_
  refine Run.ops0 (idx := [0, 1, 2, 3, 4]) rfl ?_
  refine Run.go rfl rfl rfl (sem_move ((Value.pointer p1)) rfl ?_)
  obtain ⟨A4, e5, hS⟩ := hS
  refine Run.go rfl rfl rfl (sem_nilCheck A4 (congrArg Value.pointer e5) ?_)
  refine Run.go rfl rfl rfl (sem_fieldAddr A4 1 rfl TF.fld_178_1 ?_)
  obtain ⟨i6, hl, hS⟩ := hS
  refine Run.go rfl rfl rfl (sem_load1 (Addr.add A4 1) ((Value.int .i64 (i6))) rfl TF.agg_3 hl ?_)
  refine Run.go rfl rfl rfl (sem_assign ((Value.int .i64 (i6))) rfl ?_)
  refine Run.region_end ?_
  refine Run.ret ⟨.inr rfl, ?_⟩
  exact hS.imp fun h' hq => ⟨(i6), rfl, hq⟩
set_option maxHeartbeats 4000000 in
theorem C_wal_Log_Clear.of {B : RO} {p1 : Option Addr} {h : Heap} {Q : Heap → Prop} (hS : S_wal_Log_Clear B p1 h Q) : C_wal_Log_Clear B p1 h Q := by
 unfold S_wal_Log_Clear at hS
 unfold C_wal_Log_Clear
 refine Spec.of_run Try.func76 (N := 19) (rs := []) rfl rfl rfl (Nat.le_of_ble_eq_true rfl) ?_
 refine Run.seq ?_
 refine Run.ops0 (idx := [0, 1]) rfl ?_
 refine Run.go rfl rfl rfl (sem_move ((Value.pointer p1)) rfl ?_)
 obtain ⟨hT, hF⟩ := hS
 by_cases hb2 : p1 = none
 ·have hS := hT hb2; clear hT hF
  refine Run.go rfl rfl rfl (sem_ptrNilT p1 (.inr rfl) false rfl rfl TF.ptr_136 hb2 rfl ?_)
  refine Run.region_end ?_
  refine Run.condF rfl ?_
  refine Run.skip ?_
  refine Run.fall ⟨.inl rfl, ?_⟩
  exact hS.imp fun h' hq => ⟨rfl, hq⟩
 ·have hS := hF hb2; clear hT hF
  refine Run.go rfl rfl rfl (sem_ptrNilF p1 (.inr rfl) true rfl rfl TF.ptr_136 hb2 rfl ?_)
  refine Run.region_end ?_
  refine Run.condT rfl ?_
  refine Run.seq ?_
  refine Run.drawM (fun h' => h' = h) [8] ⟨[0, 1, 2, 4, 0, 16, 32, 64, 136], [511, 510, 509, 507, 511, 495, 479, 447, 375], [0, 1, 3, 7, 0, 16, 48, 112, 255], 256⟩ (.q 0 (.q 1 (.q 2 (.q 3 (.q 4 (.q 5 (.q 6 (.q 7 (.x 8 .nil .no))))))))) TF.mixed (by kernel_rfl) rfl ?_
  refine RunT.quiet rfl rfl rfl (quiet_eq (sem_move ((Value.pointer p1)) rfl ⟨rfl, rfl⟩)) ?_
  obtain ⟨A3, e4, hS⟩ := hS
  refine RunT.quiet rfl rfl rfl (quiet_eq (sem_nilCheck A3 (congrArg Value.pointer e4) ⟨rfl, rfl⟩)) ?_
  refine RunT.quiet rfl rfl rfl (quiet_eq (sem_fieldAddr A3 0 rfl TF.fld_178_0 ⟨rfl, rfl⟩)) ?_
  obtain ⟨p5, hl, hS⟩ := hS
  refine RunT.quiet rfl rfl rfl (quiet_eq (sem_load1 A3 ((Value.pointer p5)) rfl TF.agg_47 hl ⟨rfl, rfl⟩)) ?_
  refine RunT.quiet rfl rfl rfl (quiet_eq (sem_move ((Value.pointer p1)) rfl ⟨rfl, rfl⟩)) ?_
  obtain ⟨A6, e7, hS⟩ := hS
  refine RunT.quiet rfl rfl rfl (quiet_eq (sem_nilCheck A6 (congrArg Value.pointer e7) ⟨rfl, rfl⟩)) ?_
  refine RunT.quiet rfl rfl rfl (quiet_eq (sem_fieldAddr A6 1 rfl TF.fld_178_1 ⟨rfl, rfl⟩)) ?_
  obtain ⟨i8, hl, hS⟩ := hS
  refine RunT.quiet rfl rfl rfl (quiet_eq (sem_load1 (Addr.add A6 1) ((Value.int .i64 (i8))) rfl TF.agg_3 hl ⟨rfl, rfl⟩)) ?_
  refine ⟨?_, trivial⟩
  refine OpH.go rfl rfl rfl (sem_callL [(Value.pointer p5), (Value.int .i64 (i8))] (TF.goes_32) rfl rfl (Spec.mono hS fun v h9 hv => ?_))
  obtain ⟨i10, rfl, hS⟩ := hv
  refine ⟨fun hz => Bool.noConfusion hz, ?_⟩
  refine Run.ops0 (idx := [0, 1, 2, 3, 4, 5, 6, 7]) rfl ?_
  refine Run.go rfl rfl rfl (sem_move ((Value.pointer p1)) rfl ?_)
  refine Run.go rfl rfl rfl (sem_move ((Value.pointer p1)) rfl ?_)
  obtain ⟨A11, e12, hS⟩ := hS
  refine Run.go rfl rfl rfl (sem_nilCheck A11 (congrArg Value.pointer e12) ?_)
  refine Run.go rfl rfl rfl (sem_fieldAddr A11 2 rfl TF.fld_178_2 ?_)
  obtain ⟨h13, hst, hS⟩ := hS
  refine Run.go rfl rfl rfl (sem_store1 (Addr.add A11 2) ((Value.int .i64 (0))) h13 rfl rfl rfl TF.sz_3 hst ?_)
  obtain ⟨A14, e15, hS⟩ := hS
  refine Run.go rfl rfl rfl (sem_nilCheck A14 (congrArg Value.pointer e15) ?_)
  refine Run.go rfl rfl rfl (sem_fieldAddr A14 3 rfl TF.fld_178_3 ?_)
  obtain ⟨h16, hst, hS⟩ := hS
  refine Run.go rfl rfl rfl (sem_store1 (Addr.add A14 3) ((Value.bool false)) h16 rfl rfl rfl TF.sz_4 hst ?_)
  refine Run.region_end ?_
  refine Run.fall ⟨.inl rfl, ?_⟩
  exact hS.imp fun h' hq => ⟨rfl, hq⟩
set_option maxHeartbeats 4000000 in
theorem C_wal_Log_Force.of {B : RO} {p1 : Option Addr} {h : Heap} {Q : Heap → Prop} (hS : S_wal_Log_Force B p1 h Q) : C_wal_Log_Force B p1 h Q := by
 unfold S_wal_Log_Force at hS
 unfold C_wal_Log_Force
 refine Spec.of_run Try.func77 (N := 9) (rs := []) rfl rfl rfl (Nat.le_of_ble_eq_true rfl) ?_
 refine Run.seq ?_
 refine Run.ops0 (idx := [0, 1]) rfl ?_
 refine Run.go rfl rfl rfl (sem_move ((Value.pointer p1)) rfl ?_)
 obtain ⟨hT, hF⟩ := hS
 by_cases hb2 : p1 = none
 ·have hS := hT hb2; clear hT hF
  refine Run.go rfl rfl rfl (sem_ptrNilT p1 (.inr rfl) false rfl rfl TF.ptr_136 hb2 rfl ?_)
  refine Run.region_end ?_
  refine Run.condF rfl ?_
  refine Run.skip ?_
  refine Run.fall ⟨.inl rfl, ?_⟩
  exact hS.imp fun h' hq => ⟨rfl, hq⟩
 ·have hS := hF hb2; clear hT hF
  refine Run.go rfl rfl rfl (sem_ptrNilF p1 (.inr rfl) true rfl rfl TF.ptr_136 hb2 rfl ?_)
  refine Run.region_end ?_
  refine Run.condT rfl ?_
  refine Run.ops0 (idx := [0, 1, 2, 3, 4]) rfl ?_
  refine Run.go rfl rfl rfl (sem_move ((Value.pointer p1)) rfl ?_)
  obtain ⟨A3, e4, hS⟩ := hS
  refine Run.go rfl rfl rfl (sem_nilCheck A3 (congrArg Value.pointer e4) ?_)
  refine Run.go rfl rfl rfl (sem_fieldAddr A3 0 rfl TF.fld_178_0 ?_)
  obtain ⟨p5, hl, hS⟩ := hS
  refine Run.go rfl rfl rfl (sem_load1 A3 ((Value.pointer p5)) rfl TF.agg_47 hl ?_)
  refine Run.go rfl rfl rfl (sem_callL [(Value.pointer p5)] (TF.goes_33) rfl rfl (Spec.mono hS fun v h6 hv => ?_))
  obtain ⟨rfl, hS⟩ := hv
  refine Run.region_end ?_
  refine Run.fall ⟨.inl rfl, ?_⟩
  exact hS.imp fun h' hq => ⟨rfl, hq⟩
set_option maxHeartbeats 4000000 in
theorem C_wal_Log_Append.of {B : RO} {p1 : Option Addr} {s2 : ByteArray} {h : Heap} {Q : Int → Heap → Prop} (hS : S_wal_Log_Append B p1 s2 h Q) : C_wal_Log_Append B p1 s2 h Q := by
 unfold S_wal_Log_Append at hS
 unfold C_wal_Log_Append
 refine Spec.of_run Try.func78 (N := 43) (rs := [ResultVar.tmp 4]) rfl rfl rfl (Nat.le_of_ble_eq_true rfl) ?_
 refine Run.seq ?_
 refine Run.ops0 (idx := [0]) rfl ?_
 refine Run.go rfl rfl rfl (sem_assign ((Value.int .i64 (0))) rfl ?_)
 refine Run.region_end ?_
 refine Run.seqJ (fun e h5 => Agree [(0, (Value.pointer p1)), (1, (Value.string s2))] e ∧ S_wal_Log_Append_J1 B p1 s2 h5 Q) ?_ fun j4 => ?_
 ·rintro e h5 ⟨hag, hS⟩
  refine Run.env hag ?_; clear hag
  refine Run.seq ?_
  refine Run.ops0 (idx := [0, 1, 2]) rfl ?_
  refine Run.go rfl rfl rfl (sem_move ((Value.string s2)) rfl ?_)
  refine Run.go rfl rfl rfl (sem_callL [(Value.string s2)] (TF.goes_109) rfl rfl (Spec.mono hS fun v h6 hv => ?_))
  obtain ⟨s7, rfl, hS⟩ := hv
  refine Run.go rfl rfl rfl (sem_assign ((Value.string s7)) rfl ?_)
  refine Run.region_end ?_
  refine Run.seq ?_
  refine Run.seq ?_
  skip
  obtain ⟨A9, e10, hS⟩ := hS
  skip
  skip
  obtain ⟨p13, hl, hS⟩ := hS
  have f14 := hl
  skip
  obtain ⟨A16, e17, hS⟩ := hS
  skip
  skip
  obtain ⟨i20, hl, hS⟩ := hS
  have f21 := hl
  skip
  refine Run.drawM (fun h' => cellH B h' A9 = some (Value.pointer p13) ∧ cellH B h' (Addr.add A16 1) = some (Value.int .i64 (i20)) ∧ True) [] ⟨[0, 1, 2, 4, 0, 16, 32, 64, 0, 392, 1023], [2047, 2046, 2045, 2043, 2047, 2031, 2015, 1983, 2047, 1655, 1535], [0, 0, 0, 0, 0, 0, 0, 0, 0, 0, 0], 0⟩ (.q 0 (.q 1 (.q 2 (.q 3 (.q 4 (.q 5 (.q 6 (.q 7 (.q 8 (.x 9 (.q 10 .nil) .no)))))))))) TF.mixed (by kernel_rfl) ⟨f14, f21, trivial⟩ ?_
  refine RunT.quiet rfl rfl rfl (fun h' hC => sem_move ((Value.pointer p1)) rfl ⟨rfl, rfl⟩) ?_
  refine RunT.quiet rfl rfl rfl (fun h' hC => sem_nilCheck A9 (congrArg Value.pointer e10) ⟨rfl, rfl⟩) ?_
  refine RunT.quiet rfl rfl rfl (fun h' hC => sem_fieldAddr A9 0 rfl TF.fld_178_0 ⟨rfl, rfl⟩) ?_
  refine RunT.quiet rfl rfl rfl (fun h' hC => sem_load1 A9 ((Value.pointer p13)) rfl TF.agg_47 hC.1 ⟨rfl, rfl⟩) ?_
  refine RunT.quiet rfl rfl rfl (fun h' hC => sem_move ((Value.pointer p1)) rfl ⟨rfl, rfl⟩) ?_
  refine RunT.quiet rfl rfl rfl (fun h' hC => sem_nilCheck A16 (congrArg Value.pointer e17) ⟨rfl, rfl⟩) ?_
  refine RunT.quiet rfl rfl rfl (fun h' hC => sem_fieldAddr A16 1 rfl TF.fld_178_1 ⟨rfl, rfl⟩) ?_
  refine RunT.quiet rfl rfl rfl (fun h' hC => sem_load1 (Addr.add A16 1) ((Value.int .i64 (i20))) rfl TF.agg_3 hC.2.1 ⟨rfl, rfl⟩) ?_
  refine RunT.quiet rfl rfl rfl (fun h' hC => sem_move ((Value.string s7)) rfl ⟨rfl, rfl⟩) ?_
  refine ⟨?_, trivial⟩
  refine OpH.go rfl rfl rfl (sem_callL [(Value.pointer p13), (Value.int .i64 (i20)), (Value.string s7)] (TF.goes_34) rfl rfl (Spec.mono hS fun v h23 hv => ?_))
  obtain ⟨i24, rfl, hS⟩ := hv
  obtain ⟨g25, g26, hS⟩ := hS
  refine ⟨fun _ => ⟨g25, g26, trivial⟩, ?_⟩
  refine RunT.quiet rfl rfl rfl (fun h' hC => sem_assign ((Value.int .i64 (i24))) rfl ⟨rfl, rfl⟩) ?_
  refine Run.seq ?_
  refine Run.ops0 (idx := [0, 1]) rfl ?_
  refine Run.go rfl rfl rfl (sem_move ((Value.int .i64 (i24))) rfl ?_)
  obtain ⟨hT, hF⟩ := hS
  by_cases hb27 : (i24 : Int) = 0
  ·have hS := hT hb27; clear hT hF
   refine Run.go rfl rfl rfl (sem_binI .i64 (i24) (0) (.bool false) rfl rfl (binI_neq_t hb27) ?_)
   refine Run.region_end ?_
   refine Run.condF rfl ?_
   refine Run.skip ?_
   refine Run.seq ?_
   refine Run.ops0 (idx := [0, 1, 2, 3, 4, 5, 6, 7, 8, 9]) rfl ?_
   refine Run.go rfl rfl rfl (sem_move ((Value.pointer p1)) rfl ?_)
   obtain ⟨A28, e29, hS⟩ := hS
   refine Run.go rfl rfl rfl (sem_nilCheck A28 (congrArg Value.pointer e29) ?_)
   refine Run.go rfl rfl rfl (sem_fieldAddr A28 2 rfl TF.fld_178_2 ?_)
   obtain ⟨i30, hl, hS⟩ := hS
   refine Run.go rfl rfl rfl (sem_load1 (Addr.add A28 2) ((Value.int .i64 (i30))) rfl TF.agg_3 hl ?_)
   refine Run.go rfl rfl rfl (sem_move ((Value.string s7)) rfl ?_)
   refine Run.go rfl rfl rfl (sem_lenStr s7 rfl TF.isStr_9 ?_)
   refine Run.go rfl rfl rfl (sem_binI .i64 (i30) ((ByteArray.size s7 : Nat)) ((Value.int .i64 (IntKind.wrap .i64 ((i30) + ((ByteArray.size s7 : Nat)))))) rfl rfl rfl ?_)
   obtain ⟨A31, e32, hS⟩ := hS
   refine Run.go rfl rfl rfl (sem_nilCheck A31 (congrArg Value.pointer e32) ?_)
   refine Run.go rfl rfl rfl (sem_fieldAddr A31 2 rfl TF.fld_178_2 ?_)
   obtain ⟨h33, hst, hS⟩ := hS
   refine Run.go rfl rfl rfl (sem_store1 (Addr.add A31 2) ((Value.int .i64 (IntKind.wrap .i64 ((i30) + ((ByteArray.size s7 : Nat)))))) h33 rfl rfl rfl TF.sz_3 hst ?_)
   refine Run.region_end ?_
   refine Run.seq ?_
   refine Run.ops0 (idx := [0]) rfl ?_
   refine Run.go rfl rfl rfl (sem_assign ((Value.int .i64 (0))) rfl ?_)
   refine Run.region_end ?_
   refine Run.ret ⟨.inr rfl, ?_⟩
   exact hS.imp fun h' hq => ⟨(0), rfl, hq⟩
  ·have hS := hF hb27; clear hT hF
   refine Run.go rfl rfl rfl (sem_binI .i64 (i24) (0) (.bool true) rfl rfl (binI_neq_f hb27) ?_)
   refine Run.region_end ?_
   refine Run.condT rfl ?_
   refine Run.seq ?_
   refine Run.ops0 (idx := [0, 1]) rfl ?_
   refine Run.go rfl rfl rfl (sem_move ((Value.int .i64 (i24))) rfl ?_)
   refine Run.go rfl rfl rfl (sem_assign ((Value.int .i64 (i24))) rfl ?_)
   refine Run.region_end ?_
   refine Run.ret ⟨.inr rfl, ?_⟩
   exact hS.imp fun h' hq => ⟨(i24), rfl, hq⟩
 refine Run.block ?_
 refine Run.seq ?_
 refine Run.ops0 (idx := [0, 1, 2]) rfl ?_
 refine Run.go rfl rfl rfl (sem_move ((Value.pointer p1)) rfl ?_)
 obtain ⟨hT, hF⟩ := hS
 by_cases hb34 : p1 = none
 ·have hS := hT hb34; clear hT hF
  refine Run.go rfl rfl rfl (sem_ptrNilT p1 (.inl rfl) true rfl rfl TF.ptr_136 hb34 rfl ?_)
  refine Run.go rfl rfl rfl (sem_assign ((Value.bool true)) rfl ?_)
  refine Run.region_end ?_
  refine Run.condT rfl ?_
  refine Run.seq ?_
  refine Run.ops0 (idx := [0]) rfl ?_
  refine Run.go rfl rfl rfl (sem_assign ((Value.int .i64 (2))) rfl ?_)
  refine Run.region_end ?_
  refine Run.ret ⟨.inr rfl, ?_⟩
  exact hS.imp fun h' hq => ⟨(2), rfl, hq⟩
 ·have hS := hF hb34; clear hT hF
  refine Run.go rfl rfl rfl (sem_ptrNilF p1 (.inl rfl) false rfl rfl TF.ptr_136 hb34 rfl ?_)
  refine Run.go rfl rfl rfl (sem_assign ((Value.bool false)) rfl ?_)
  refine Run.region_end ?_
  refine Run.condF rfl ?_
  refine Run.seq ?_
  refine Run.ops0 (idx := [0, 1, 2, 3]) rfl ?_
  refine Run.go rfl rfl rfl (sem_move ((Value.string s2)) rfl ?_)
  refine Run.go rfl rfl rfl (sem_lenStr s2 rfl TF.isStr_9 ?_)
  obtain ⟨hT, hF⟩ := hS
  by_cases hb35 : ((ByteArray.size s2 : Nat) : Int) > (1024)
  ·have hS := hT hb35; clear hT hF
   refine Run.go rfl rfl rfl (sem_binI .i64 ((ByteArray.size s2 : Nat)) (1024) (.bool true) rfl rfl (binI_gtr_t hb35) ?_)
   refine Run.go rfl rfl rfl (sem_assign ((Value.bool true)) rfl ?_)
   refine Run.region_end ?_
   refine Run.condT rfl ?_
   refine Run.seq ?_
   refine Run.ops0 (idx := [0]) rfl ?_
   refine Run.go rfl rfl rfl (sem_assign ((Value.int .i64 (3))) rfl ?_)
   refine Run.region_end ?_
   refine Run.ret ⟨.inr rfl, ?_⟩
   exact hS.imp fun h' hq => ⟨(3), rfl, hq⟩
  ·have hS := hF hb35; clear hT hF
   refine Run.go rfl rfl rfl (sem_binI .i64 ((ByteArray.size s2 : Nat)) (1024) (.bool false) rfl rfl (binI_gtr_f hb35) ?_)
   refine Run.go rfl rfl rfl (sem_assign ((Value.bool false)) rfl ?_)
   refine Run.region_end ?_
   refine Run.condF rfl ?_
   refine Run.seq ?_
   refine Run.ops0 (idx := [0, 1, 2, 3, 4]) rfl ?_
   refine Run.go rfl rfl rfl (sem_move ((Value.pointer p1)) rfl ?_)
   obtain ⟨A36, e37, hS⟩ := hS
   refine Run.go rfl rfl rfl (sem_nilCheck A36 (congrArg Value.pointer e37) ?_)
   refine Run.go rfl rfl rfl (sem_fieldAddr A36 3 rfl TF.fld_178_3 ?_)
   obtain ⟨b38, hl, hS⟩ := hS
   obtain ⟨hT, hF⟩ := hS
   cases b38
   ·have hS := hF rfl; clear hT hF
    refine Run.go rfl rfl rfl (sem_load1 (Addr.add A36 3) (.bool false) rfl TF.agg_4 hl ?_)
    refine Run.go rfl rfl rfl (sem_assign ((Value.bool false)) rfl ?_)
    refine Run.region_end ?_
    refine Run.condF rfl ?_
    refine Run.skip ?_
    refine Run.inBlock ?_
    exact Run.of_fin (hS.imp fun h' hS => j4 _ _ ⟨⟨rfl, rfl, trivial⟩, hS⟩)
   ·have hS := hT rfl; clear hT hF
    refine Run.go rfl rfl rfl (sem_load1 (Addr.add A36 3) (.bool true) rfl TF.agg_4 hl ?_)
    refine Run.go rfl rfl rfl (sem_assign ((Value.bool true)) rfl ?_)
    refine Run.region_end ?_
    refine Run.condT rfl ?_
    refine Run.seq ?_
    refine Run.ops0 (idx := [0]) rfl ?_
    refine Run.go rfl rfl rfl (sem_assign ((Value.int .i64 (9))) rfl ?_)
    refine Run.region_end ?_
    refine Run.ret ⟨.inr rfl, ?_⟩
    exact hS.imp fun h' hq => ⟨(9), rfl, hq⟩
set_option maxHeartbeats 4000000 in
theorem C_countermandref02_Close.of {B : RO} {s1 : ByteArray} {h : Heap} {Q : ByteArray → Heap → Prop} (hS : S_countermandref02_Close B s1 h Q) : C_countermandref02_Close B s1 h Q := by
 unfold S_countermandref02_Close at hS
 unfold C_countermandref02_Close
 refine Spec.of_run Try.func79 (N := 40) (rs := [ResultVar.tmp 2]) rfl rfl rfl (Nat.le_of_ble_eq_true rfl) ?_
 refine Run.seq ?_
 refine Run.ops0 (idx := [0]) rfl ?_
 refine Run.go rfl rfl rfl (sem_assign ((Value.string (ByteArray.mk #[]))) rfl ?_)
 refine Run.region_end ?_
 refine Run.seq ?_
 refine Run.seq ?_
 refine Run.ops0 (idx := [0, 1, 2]) rfl ?_
 refine Run.go rfl rfl rfl (sem_move ((Value.string s1)) rfl ?_)
 refine Run.go rfl rfl rfl (sem_lenStr s1 rfl TF.isStr_9 ?_)
 obtain ⟨hT, hF⟩ := hS
 by_cases hb3 : ((ByteArray.size s1 : Nat) : Int) > (1024)
 ·have hS := hT hb3; clear hT hF
  refine Run.go rfl rfl rfl (sem_binI .i64 ((ByteArray.size s1 : Nat)) (1024) (.bool true) rfl rfl (binI_gtr_t hb3) ?_)
  refine Run.region_end ?_
  refine Run.condT rfl ?_
  refine Run.seq ?_
  refine Run.ops0 (idx := [0]) rfl ?_
  refine Run.go rfl rfl rfl (sem_assign ((Value.string (ByteArray.mk #[]))) rfl ?_)
  refine Run.region_end ?_
  refine Run.ret ⟨.inr rfl, ?_⟩
  exact hS.imp fun h' hq => ⟨(ByteArray.mk #[]), rfl, hq⟩
 ·have hS := hF hb3; clear hT hF
  refine Run.go rfl rfl rfl (sem_binI .i64 ((ByteArray.size s1 : Nat)) (1024) (.bool false) rfl rfl (binI_gtr_f hb3) ?_)
  refine Run.region_end ?_
  refine Run.condF rfl ?_
  refine Run.skip ?_
  refine Run.seq ?_
  refine Run.ops0 (idx := [0, 1, 2, 3, 4, 5, 6, 7, 8, 9, 10, 11, 12]) rfl ?_
  refine Run.go rfl rfl rfl (sem_move ((Value.string s1)) rfl ?_)
  refine Run.go rfl rfl rfl (sem_lenStr s1 rfl TF.isStr_9 ?_)
  obtain ⟨hi0, hS⟩ := hS
  refine Run.go rfl rfl rfl (sem_binI .i64 ((ByteArray.size s1 : Nat)) (256) ((Value.int .i64 (IntKind.wrap .i64 (Int.tdiv ((ByteArray.size s1 : Nat)) (256))))) rfl rfl (binI_quo hi0) ?_)
  refine Run.go rfl rfl rfl (sem_convI .i64 .u8 (IntKind.wrap .i64 (Int.tdiv ((ByteArray.size s1 : Nat)) (256))) rfl TF.int_3 TF.int_5 ?_)
  refine Run.go rfl rfl rfl (sem_move ((Value.string s1)) rfl ?_)
  refine Run.go rfl rfl rfl (sem_lenStr s1 rfl TF.isStr_9 ?_)
  obtain ⟨hi0, hS⟩ := hS
  refine Run.go rfl rfl rfl (sem_binI .i64 ((ByteArray.size s1 : Nat)) (256) ((Value.int .i64 (Int.tmod ((ByteArray.size s1 : Nat)) (256)))) rfl rfl (binI_rem hi0) ?_)
  refine Run.go rfl rfl rfl (sem_convI .i64 .u8 (Int.tmod ((ByteArray.size s1 : Nat)) (256)) rfl TF.int_3 TF.int_5 ?_)
  refine Run.go rfl rfl rfl (sem_buildSliceL [(0, (Value.int .u8 (IntKind.wrap .u8 (IntKind.wrap .i64 (Int.tdiv ((ByteArray.size s1 : Nat)) (256)))))), (1, (Value.int .u8 (IntKind.wrap .u8 (Int.tmod ((ByteArray.size s1 : Nat)) (256)))))] [(Value.int .u8 (IntKind.wrap .u8 (IntKind.wrap .i64 (Int.tdiv ((ByteArray.size s1 : Nat)) (256))))), (Value.int .u8 (IntKind.wrap .u8 (Int.tmod ((ByteArray.size s1 : Nat)) (256))))] TF.slc_144 TF.zero_5 rfl (by decide) (by decide) rfl rfl (fun k4 hb1 hb2 h5 hb3 => ?_))
  have hS := hS k4 hb1 hb2 h5 hb3
  refine Run.go rfl rfl rfl (sem_convW ((Value.slice (some ⟨k4, 0, none⟩) 2 2)) rfl (semH_mono (fun v h7 hv => ?_) hS))
  obtain ⟨s6, rfl, hS⟩ := hv
  refine Run.go rfl rfl rfl (sem_move ((Value.string s1)) rfl ?_)
  obtain ⟨hi0, hS⟩ := hS
  refine Run.go rfl rfl rfl (sem_strAdd s6 s1 rfl rfl hi0 ?_)
  refine Run.go rfl rfl rfl (sem_assign ((Value.string (s6 ++ s1))) rfl ?_)
  refine Run.region_end ?_
  refine Run.seq ?_
  refine Run.ops0 (idx := [0, 1, 2]) rfl ?_
  refine Run.go rfl rfl rfl (sem_move ((Value.string (s6 ++ s1))) rfl ?_)
  refine Run.go rfl rfl rfl (sem_callL [(Value.string (s6 ++ s1))] (TF.goes_110) rfl rfl (Spec.mono hS fun v h8 hv => ?_))
  obtain ⟨i9, rfl, hS⟩ := hv
  refine Run.go rfl rfl rfl (sem_assign ((Value.int .u32 (i9))) rfl ?_)
  refine Run.region_end ?_
  refine Run.seq ?_
  refine Run.ops0 (idx := [0, 1, 2, 3, 4, 5, 6, 7, 8, 9, 10, 11, 12, 13, 14, 15, 16, 17, 18]) rfl ?_
  refine Run.go rfl rfl rfl (sem_move ((Value.string (s6 ++ s1))) rfl ?_)
  refine Run.go rfl rfl rfl (sem_move ((Value.int .u32 (i9))) rfl ?_)
  obtain ⟨hi0, hS⟩ := hS
  refine Run.go rfl rfl rfl (sem_binI .u32 (i9) (256) ((Value.int .u32 (Int.tmod (i9) (256)))) rfl rfl (binI_rem hi0) ?_)
  refine Run.go rfl rfl rfl (sem_convI .u32 .u8 (Int.tmod (i9) (256)) rfl TF.int_185 TF.int_5 ?_)
  refine Run.go rfl rfl rfl (sem_move ((Value.int .u32 (i9))) rfl ?_)
  obtain ⟨hi0, hS⟩ := hS
  refine Run.go rfl rfl rfl (sem_binI .u32 (i9) (256) ((Value.int .u32 (IntKind.wrap .u32 (Int.tdiv (i9) (256))))) rfl rfl (binI_quo hi0) ?_)
  obtain ⟨hi0, hS⟩ := hS
  refine Run.go rfl rfl rfl (sem_binI .u32 (IntKind.wrap .u32 (Int.tdiv (i9) (256))) (256) ((Value.int .u32 (Int.tmod (IntKind.wrap .u32 (Int.tdiv (i9) (256))) (256)))) rfl rfl (binI_rem hi0) ?_)
  refine Run.go rfl rfl rfl (sem_convI .u32 .u8 (Int.tmod (IntKind.wrap .u32 (Int.tdiv (i9) (256))) (256)) rfl TF.int_185 TF.int_5 ?_)
  refine Run.go rfl rfl rfl (sem_move ((Value.int .u32 (i9))) rfl ?_)
  obtain ⟨hi0, hS⟩ := hS
  refine Run.go rfl rfl rfl (sem_binI .u32 (i9) (65536) ((Value.int .u32 (IntKind.wrap .u32 (Int.tdiv (i9) (65536))))) rfl rfl (binI_quo hi0) ?_)
  obtain ⟨hi0, hS⟩ := hS
  refine Run.go rfl rfl rfl (sem_binI .u32 (IntKind.wrap .u32 (Int.tdiv (i9) (65536))) (256) ((Value.int .u32 (Int.tmod (IntKind.wrap .u32 (Int.tdiv (i9) (65536))) (256)))) rfl rfl (binI_rem hi0) ?_)
  refine Run.go rfl rfl rfl (sem_convI .u32 .u8 (Int.tmod (IntKind.wrap .u32 (Int.tdiv (i9) (65536))) (256)) rfl TF.int_185 TF.int_5 ?_)
  refine Run.go rfl rfl rfl (sem_move ((Value.int .u32 (i9))) rfl ?_)
  obtain ⟨hi0, hS⟩ := hS
  refine Run.go rfl rfl rfl (sem_binI .u32 (i9) (16777216) ((Value.int .u32 (IntKind.wrap .u32 (Int.tdiv (i9) (16777216))))) rfl rfl (binI_quo hi0) ?_)
  refine Run.go rfl rfl rfl (sem_convI .u32 .u8 (IntKind.wrap .u32 (Int.tdiv (i9) (16777216))) rfl TF.int_185 TF.int_5 ?_)
  refine Run.go rfl rfl rfl (sem_buildSliceL [(0, (Value.int .u8 (IntKind.wrap .u8 (Int.tmod (i9) (256))))), (1, (Value.int .u8 (IntKind.wrap .u8 (Int.tmod (IntKind.wrap .u32 (Int.tdiv (i9) (256))) (256))))), (2, (Value.int .u8 (IntKind.wrap .u8 (Int.tmod (IntKind.wrap .u32 (Int.tdiv (i9) (65536))) (256))))), (3, (Value.int .u8 (IntKind.wrap .u8 (IntKind.wrap .u32 (Int.tdiv (i9) (16777216))))))] [(Value.int .u8 (IntKind.wrap .u8 (Int.tmod (i9) (256)))), (Value.int .u8 (IntKind.wrap .u8 (Int.tmod (IntKind.wrap .u32 (Int.tdiv (i9) (256))) (256)))), (Value.int .u8 (IntKind.wrap .u8 (Int.tmod (IntKind.wrap .u32 (Int.tdiv (i9) (65536))) (256)))), (Value.int .u8 (IntKind.wrap .u8 (IntKind.wrap .u32 (Int.tdiv (i9) (16777216)))))] TF.slc_144 TF.zero_5 rfl (by decide) (by decide) rfl rfl (fun k10 hb1 hb2 h11 hb3 => ?_))
  have hS := hS k10 hb1 hb2 h11 hb3
  refine Run.go rfl rfl rfl (sem_convW ((Value.slice (some ⟨k10, 0, none⟩) 4 4)) rfl (semH_mono (fun v h13 hv => ?_) hS))
  obtain ⟨s12, rfl, hS⟩ := hv
  obtain ⟨hi0, hS⟩ := hS
  refine Run.go rfl rfl rfl (sem_strAdd (s6 ++ s1) s12 rfl rfl hi0 ?_)
  refine Run.go rfl rfl rfl (sem_assign ((Value.string ((s6 ++ s1) ++ s12))) rfl ?_)
  refine Run.region_end ?_
  refine Run.ret ⟨.inr rfl, ?_⟩
  exact hS.imp fun h' hq => ⟨((s6 ++ s1) ++ s12), rfl, hq⟩
set_option maxHeartbeats 4000000 in
theorem C_countermandref01_Nat.of {B : RO} {i1 : Int} {h : Heap} {Q : ByteArray → Heap → Prop} (hS : S_countermandref01_Nat B i1 h Q) : C_countermandref01_Nat B i1 h Q := by
 unfold S_countermandref01_Nat at hS
 unfold C_countermandref01_Nat
 refine Spec.of_run Try.func80 (N := 8) (rs := [ResultVar.tmp 2]) rfl rfl rfl (Nat.le_of_ble_eq_true rfl) ?_
 refine Run.seq ?_
 refine Run.ops0 (idx := [0]) rfl ?_
 refine Run.go rfl rfl rfl (sem_assign ((Value.string (ByteArray.mk #[]))) rfl ?_)
 refine Run.region_end ?_
 refine Run.seq ?_
 refine Run.seq ?_
 refine Run.ops0 (idx := [0, 1]) rfl ?_
 refine Run.go rfl rfl rfl (sem_move ((Value.int .i64 (i1))) rfl ?_)
 obtain ⟨hT, hF⟩ := hS
 by_cases hb3 : (i1 : Int) < (0)
 ·have hS := hT hb3; clear hT hF
  refine Run.go rfl rfl rfl (sem_binI .i64 (i1) (0) (.bool true) rfl rfl (binI_lss_t hb3) ?_)
  refine Run.region_end ?_
  refine Run.condT rfl ?_
  refine Run.seq ?_
  refine Run.ops0 (idx := [0]) rfl ?_
  refine Run.go rfl rfl rfl (sem_assign ((Value.string (ByteArray.mk #[]))) rfl ?_)
  refine Run.region_end ?_
  refine Run.ret ⟨.inr rfl, ?_⟩
  exact hS.imp fun h' hq => ⟨(ByteArray.mk #[]), rfl, hq⟩
 ·have hS := hF hb3; clear hT hF
  refine Run.go rfl rfl rfl (sem_binI .i64 (i1) (0) (.bool false) rfl rfl (binI_lss_f hb3) ?_)
  refine Run.region_end ?_
  refine Run.condF rfl ?_
  refine Run.skip ?_
  refine Run.seq ?_
  refine Run.ops0 (idx := [0, 1, 2, 3]) rfl ?_
  refine Run.go rfl rfl rfl (sem_move ((Value.int .i64 (i1))) rfl ?_)
  refine Run.go rfl rfl rfl (sem_convI .i64 .u64 (i1) rfl TF.int_3 TF.int_188 ?_)
  refine Run.go rfl rfl rfl (sem_callL [(Value.int .u64 (IntKind.wrap .u64 (i1)))] (TF.goes_111) rfl rfl (Spec.mono hS fun v h4 hv => ?_))
  obtain ⟨s5, rfl, hS⟩ := hv
  refine Run.go rfl rfl rfl (sem_assign ((Value.string s5)) rfl ?_)
  refine Run.region_end ?_
  refine Run.ret ⟨.inr rfl, ?_⟩
  exact hS.imp fun h' hq => ⟨s5, rfl, hq⟩
set_option maxHeartbeats 4000000 in
theorem C_disk_good.of {B : RO} {i1 : Int} {h : Heap} {Q : Bool → Heap → Prop} (hS : S_disk_good B i1 h Q) : C_disk_good B i1 h Q := by
 unfold S_disk_good at hS
 unfold C_disk_good
 refine Spec.of_run Try.func81 (N := 9) (rs := [ResultVar.tmp 2]) rfl rfl rfl (Nat.le_of_ble_eq_true rfl) ?_
 refine Run.seq ?_
 refine Run.ops0 (idx := [0]) rfl ?_
 refine Run.go rfl rfl rfl (sem_assign ((Value.bool false)) rfl ?_)
 refine Run.region_end ?_
 refine Run.seq ?_
 refine Run.ops0 (idx := [0, 1, 2, 3, 4, 5, 6]) rfl ?_
 refine Run.go rfl rfl rfl (sem_move ((Value.int .i64 (i1))) rfl ?_)
 obtain ⟨hT, hF⟩ := hS
 by_cases hb3 : (i1 : Int) = 0
 ·have hS := hT hb3; clear hT hF
  refine Run.go rfl rfl rfl (sem_binI .i64 (i1) (0) (.bool true) rfl rfl (binI_eql_t hb3) ?_)
  refine Run.go rfl rfl rfl (sem_move ((Value.bool true)) rfl ?_)
  refine Run.no rfl rfl rfl ?_
  refine Run.no rfl rfl rfl ?_
  refine Run.go rfl rfl rfl (sem_pick true ((Value.bool true)) rfl rfl ?_)
  refine Run.go rfl rfl rfl (sem_assign ((Value.bool true)) rfl ?_)
  refine Run.region_end ?_
  refine Run.ret ⟨.inr rfl, ?_⟩
  exact hS.imp fun h' hq => ⟨(true), rfl, hq⟩
 ·have hS := hF hb3; clear hT hF
  refine Run.go rfl rfl rfl (sem_binI .i64 (i1) (0) (.bool false) rfl rfl (binI_eql_f hb3) ?_)
  refine Run.go rfl rfl rfl (sem_move ((Value.bool false)) rfl ?_)
  refine Run.go rfl rfl rfl (sem_move ((Value.int .i64 (i1))) rfl ?_)
  refine Run.go rfl rfl rfl (sem_binI .i64 (i1) (1) ((Value.bool ((i1 : Int) == (1)))) rfl rfl rfl ?_)
  refine Run.go rfl rfl rfl (sem_pick false ((Value.bool ((i1 : Int) == (1)))) rfl rfl ?_)
  refine Run.go rfl rfl rfl (sem_assign ((Value.bool ((i1 : Int) == (1)))) rfl ?_)
  refine Run.region_end ?_
  refine Run.ret ⟨.inr rfl, ?_⟩
  exact hS.imp fun h' hq => ⟨(((i1 : Int) == (1))), rfl, hq⟩
set_option maxHeartbeats 4000000 in
theorem C_disk_Disk_land.of {B : RO} {p1 : Option Addr} {i2 : Int} {b3 : Bool} {s4 : ByteArray} {h : Heap} {Q : Heap → Prop} (hS : S_disk_Disk_land B p1 i2 b3 s4 h Q) : C_disk_Disk_land B p1 i2 b3 s4 h Q := by
 unfold S_disk_Disk_land at hS
 unfold C_disk_Disk_land
 refine Spec.of_run Try.func82 (N := 28) (rs := []) rfl rfl rfl (Nat.le_of_ble_eq_true rfl) ?_
 refine Run.seq ?_
 refine Run.ops0 (idx := [0]) rfl ?_
 refine Run.go rfl rfl rfl (sem_boxNN [(Value.int .i64 (i2)), (Value.bool b3), (Value.string s4)] rfl (fun k5 hb1 hb2 h6 hb3 => ?_))
 have hS := hS k5 hb1 hb2 h6 hb3
 refine Run.region_end ?_
 refine Run.seq ?_
 refine Run.ops0 (idx := [0, 1]) rfl ?_
 refine Run.go rfl rfl rfl (sem_fieldAddr ⟨k5, 0, none⟩ 1 rfl TF.fld_151_1 ?_)
 obtain ⟨b7, hl, hS⟩ := hS
 obtain ⟨hT, hF⟩ := hS
 cases b7
 ·have hS := hF rfl; clear hT hF
  refine Run.go rfl rfl rfl (sem_load1 ⟨k5, 1, none⟩ (.bool false) rfl TF.agg_4 hl ?_)
  refine Run.region_end ?_
  refine Run.condF rfl ?_
  refine Run.drawM (fun h' => h' = h6) [15] ⟨[0, 0, 2, 1, 8, 20, 32, 64, 0, 256, 640, 1, 2048, 6143, 10239, 18431], [65535, 65535, 65533, 65534, 65527, 65515, 65503, 65471, 65535, 65279, 64895, 65534, 63487, 61435, 57343, 48127], [0, 0, 2, 1, 9, 31, 63, 127, 0, 256, 1023, 1, 2049, 8191, 16383, 32767], 32768⟩ (.q 0 (.q 1 (.q 2 (.q 3 (.q 4 (.q 5 (.q 6 (.q 7 (.q 8 (.q 9 (.q 10 (.q 11 (.q 12 (.q 13 (.q 14 (.x 15 .nil .no)))))))))))))))) TF.mixed (by kernel_rfl) rfl ?_
  refine RunT.quiet rfl rfl rfl (quiet_eq (sem_move ((Value.pointer p1)) rfl ⟨rfl, rfl⟩)) ?_
  refine RunT.quiet rfl rfl rfl (quiet_eq (sem_fieldAddr ⟨k5, 0, none⟩ 0 rfl TF.fld_151_0 ⟨rfl, rfl⟩)) ?_
  obtain ⟨i8, hl, hS⟩ := hS
  refine RunT.quiet rfl rfl rfl (quiet_eq (sem_load1 ⟨k5, 0, none⟩ ((Value.int .i64 (i8))) rfl TF.agg_3 hl ⟨rfl, rfl⟩)) ?_
  obtain ⟨A9, e10, hS⟩ := hS
  refine RunT.quiet rfl rfl rfl (quiet_eq (sem_nilCheck A9 (congrArg Value.pointer e10) ⟨rfl, rfl⟩)) ?_
  refine RunT.quiet rfl rfl rfl (quiet_eq (sem_fieldAddr A9 0 rfl TF.fld_135_0 ⟨rfl, rfl⟩)) ?_
  obtain ⟨hi0, hi1, hS⟩ := hS
  refine RunT.quiet rfl rfl rfl (quiet_eq (sem_indexAddrA A9 .i64 (i8) rfl rfl TF.arr_132 hi0 hi1 ⟨rfl, rfl⟩)) ?_
  refine RunT.quiet rfl rfl rfl (quiet_eq (sem_fieldAddr (Addr.add A9 (Int.toNat (i8) * 2)) 1 rfl TF.fld_131_1 ⟨rfl, rfl⟩)) ?_
  obtain ⟨s11, hl, hS⟩ := hS
  refine RunT.quiet rfl rfl rfl (quiet_eq (sem_load1 (Addr.add (Addr.add A9 (Int.toNat (i8) * 2)) 1) ((Value.string s11)) rfl TF.agg_9 hl ⟨rfl, rfl⟩)) ?_
  refine RunT.quiet rfl rfl rfl (quiet_eq (sem_fieldAddr ⟨k5, 0, none⟩ 2 rfl TF.fld_151_2 ⟨rfl, rfl⟩)) ?_
  obtain ⟨s12, hl, hS⟩ := hS
  refine RunT.quiet rfl rfl rfl (quiet_eq (sem_load1 ⟨k5, 2, none⟩ ((Value.string s12)) rfl TF.agg_9 hl ⟨rfl, rfl⟩)) ?_
  obtain ⟨hi0, hS⟩ := hS
  refine RunT.quiet rfl rfl rfl (quiet_eq (sem_strAdd s11 s12 rfl rfl hi0 ⟨rfl, rfl⟩)) ?_
  obtain ⟨A13, e14, hS⟩ := hS
  refine RunT.quiet rfl rfl rfl (quiet_eq (sem_nilCheck A13 (congrArg Value.pointer e14) ⟨rfl, rfl⟩)) ?_
  refine RunT.quiet rfl rfl rfl (quiet_eq (sem_fieldAddr A13 0 rfl TF.fld_135_0 ⟨rfl, rfl⟩)) ?_
  obtain ⟨hi0, hi1, hS⟩ := hS
  refine RunT.quiet rfl rfl rfl (quiet_eq (sem_indexAddrA A13 .i64 (i8) rfl rfl TF.arr_132 hi0 hi1 ⟨rfl, rfl⟩)) ?_
  refine RunT.quiet rfl rfl rfl (quiet_eq (sem_fieldAddr (Addr.add A13 (Int.toNat (i8) * 2)) 1 rfl TF.fld_131_1 ⟨rfl, rfl⟩)) ?_
  refine ⟨?_, trivial⟩
  obtain ⟨h15, hst, hS⟩ := hS
  refine OpH.go rfl rfl rfl (sem_store1 (Addr.add (Addr.add A13 (Int.toNat (i8) * 2)) 1) ((Value.string (s11 ++ s12))) h15 rfl rfl rfl TF.sz_9 hst ?_)
  refine ⟨fun hz => Bool.noConfusion hz, ?_⟩
  refine Run.fall ⟨.inl rfl, ?_⟩
  exact hS.imp fun h' hq => ⟨rfl, hq⟩
 ·have hS := hT rfl; clear hT hF
  refine Run.go rfl rfl rfl (sem_load1 ⟨k5, 1, none⟩ (.bool true) rfl TF.agg_4 hl ?_)
  refine Run.region_end ?_
  refine Run.condT rfl ?_
  refine Run.drawM (fun h' => h' = h6) [7] ⟨[0, 0, 2, 1, 8, 23, 39, 71], [255, 255, 253, 254, 247, 235, 223, 191], [0, 0, 2, 1, 9, 31, 63, 127], 128⟩ (.q 0 (.q 1 (.q 2 (.q 3 (.q 4 (.q 5 (.q 6 (.x 7 .nil .no)))))))) TF.mixed (by kernel_rfl) rfl ?_
  refine RunT.quiet rfl rfl rfl (quiet_eq (sem_move ((Value.pointer p1)) rfl ⟨rfl, rfl⟩)) ?_
  refine RunT.quiet rfl rfl rfl (quiet_eq (sem_fieldAddr ⟨k5, 0, none⟩ 0 rfl TF.fld_151_0 ⟨rfl, rfl⟩)) ?_
  obtain ⟨i16, hl, hS⟩ := hS
  refine RunT.quiet rfl rfl rfl (quiet_eq (sem_load1 ⟨k5, 0, none⟩ ((Value.int .i64 (i16))) rfl TF.agg_3 hl ⟨rfl, rfl⟩)) ?_
  obtain ⟨A17, e18, hS⟩ := hS
  refine RunT.quiet rfl rfl rfl (quiet_eq (sem_nilCheck A17 (congrArg Value.pointer e18) ⟨rfl, rfl⟩)) ?_
  refine RunT.quiet rfl rfl rfl (quiet_eq (sem_fieldAddr A17 0 rfl TF.fld_135_0 ⟨rfl, rfl⟩)) ?_
  obtain ⟨hi0, hi1, hS⟩ := hS
  refine RunT.quiet rfl rfl rfl (quiet_eq (sem_indexAddrA A17 .i64 (i16) rfl rfl TF.arr_132 hi0 hi1 ⟨rfl, rfl⟩)) ?_
  refine RunT.quiet rfl rfl rfl (quiet_eq (sem_fieldAddr (Addr.add A17 (Int.toNat (i16) * 2)) 1 rfl TF.fld_131_1 ⟨rfl, rfl⟩)) ?_
  refine ⟨?_, trivial⟩
  obtain ⟨h19, hst, hS⟩ := hS
  refine OpH.go rfl rfl rfl (sem_store1 (Addr.add (Addr.add A17 (Int.toNat (i16) * 2)) 1) ((Value.string (ByteArray.mk #[]))) h19 rfl rfl rfl TF.sz_9 hst ?_)
  refine ⟨fun hz => Bool.noConfusion hz, ?_⟩
  refine Run.fall ⟨.inl rfl, ?_⟩
  exact hS.imp fun h' hq => ⟨rfl, hq⟩
end Go.Proofs.Ytcncdfmnpmmikaa.H
