/- The functions do what they ask for. No condition. -/
import Derived.Test.YtcncdfmnpmmikaaXhS
namespace Go.Proofs.Ytcncdfmnpmmikaa.H
open Go
set_option linter.unusedVariables false
set_option maxRecDepth 100000

set_option maxHeartbeats 4000000 in
theorem C_countermandlaw14_SheetRenames.of {B : RO} {l1 : List Value} {i2 : Int} {i3 : Int} {h : Heap} {Q : Bool → Heap → Prop} (hS : S_countermandlaw14_SheetRenames B l1 i2 i3 h Q) : C_countermandlaw14_SheetRenames B l1 i2 i3 h Q := by
 unfold S_countermandlaw14_SheetRenames at hS
 unfold C_countermandlaw14_SheetRenames
 refine Spec.of_run Try.func10 (N := 106) (rs := [ResultVar.tmp 6]) rfl rfl rfl (Nat.le_of_ble_eq_true rfl) ?_
 refine Run.seq ?_
 refine Run.ops0 (idx := [0, 1]) rfl ?_
 refine Run.go rfl rfl rfl (sem_boxNN l1 rfl (fun k5 hb1 hb2 h6 hb3 => ?_))
 have hS := hS k5 hb1 hb2 h6 hb3
 refine Run.go rfl rfl rfl (sem_assign ((Value.bool false)) rfl ?_)
 refine Run.region_end ?_
 refine Run.seq ?_
 refine Run.seq ?_
 refine Run.ops0 (idx := [0, 1]) rfl ?_
 refine Run.go rfl rfl rfl (sem_callL [] (TF.goes_42) rfl rfl (Spec.mono hS fun v h7 hv => ?_))
 obtain ⟨b8, rfl, hS⟩ := hv
 obtain ⟨hT, hF⟩ := hS
 cases b8
 ·have hS := hF rfl; clear hT hF
  refine Run.go rfl rfl rfl (sem_not false rfl ?_)
  refine Run.region_end ?_
  refine Run.condT rfl ?_
  refine Run.seq ?_
  refine Run.ops0 (idx := [0]) rfl ?_
  refine Run.go rfl rfl rfl (sem_assign ((Value.bool false)) rfl ?_)
  refine Run.region_end ?_
  refine Run.ret ⟨.inr rfl, ?_⟩
  exact hS.imp fun h' hq => ⟨(false), rfl, hq⟩
 ·have hS := hT rfl; clear hT hF
  refine Run.go rfl rfl rfl (sem_not true rfl ?_)
  refine Run.region_end ?_
  refine Run.condF rfl ?_
  refine Run.skip ?_
  refine Run.seq ?_
  refine Run.ops0 (idx := [0, 1, 2, 3, 4, 5, 6, 7, 8, 9, 10]) rfl ?_
  obtain ⟨l9, hln, hl, hS⟩ := hS
  refine Run.go rfl rfl rfl (sem_loadN ⟨k5, 0, none⟩ l9 rfl TF.agg_71 (TF.sz_71.trans (congrArg some hln.symm)) hl ?_)
  refine Run.go rfl rfl rfl (sem_callL [(Value.agg (List.toArray l9))] (TF.goes_43) rfl rfl (Spec.mono hS fun v h10 hv => ?_))
  obtain ⟨p11, p12, p13, b14, rfl, hS⟩ := hv
  refine Run.go rfl rfl rfl (sem_move ((Value.tuple #[(Value.pointer p11), (Value.pointer p12), (Value.pointer p13), (Value.bool b14)])) rfl ?_)
  refine Run.go rfl rfl rfl (sem_extract #[(Value.pointer p11), (Value.pointer p12), (Value.pointer p13), (Value.bool b14)] ((Value.pointer p11)) rfl rfl ?_)
  refine Run.go rfl rfl rfl (sem_extract #[(Value.pointer p11), (Value.pointer p12), (Value.pointer p13), (Value.bool b14)] ((Value.pointer p12)) rfl rfl ?_)
  refine Run.go rfl rfl rfl (sem_extract #[(Value.pointer p11), (Value.pointer p12), (Value.pointer p13), (Value.bool b14)] ((Value.pointer p13)) rfl rfl ?_)
  obtain ⟨hT, hF⟩ := hS
  cases b14
  ·have hS := hF rfl; clear hT hF
   refine Run.go rfl rfl rfl (sem_extract #[(Value.pointer p11), (Value.pointer p12), (Value.pointer p13), (Value.bool false)] (.bool false) rfl rfl ?_)
   refine Run.go rfl rfl rfl (sem_assign ((Value.pointer p11)) rfl ?_)
   refine Run.go rfl rfl rfl (sem_assign ((Value.pointer p12)) rfl ?_)
   refine Run.go rfl rfl rfl (sem_assign ((Value.pointer p13)) rfl ?_)
   refine Run.go rfl rfl rfl (sem_assign ((Value.bool false)) rfl ?_)
   refine Run.region_end ?_
   refine Run.seqJ (fun e h16 => Agree [(1, (Value.int .i64 (i2))), (2, (Value.int .i64 (i3))), (3, (Value.pointer (some ⟨k5, 0, none⟩))), (7, (Value.pointer p11)), (8, (Value.pointer p12))] e ∧ S_countermandlaw14_SheetRenames_J1 B i2 i3 k5 p11 p12 h16 Q) ?_ fun j15 => ?_
   ·rintro e h16 ⟨hag, hS⟩
    refine Run.env hag ?_; clear hag
    refine Run.seq ?_
    refine Run.ops0 (idx := [0, 1, 2, 3, 4]) rfl ?_
    refine Run.go rfl rfl rfl (sem_move ((Value.pointer p12)) rfl ?_)
    refine Run.go rfl rfl rfl (sem_move ((Value.pointer p11)) rfl ?_)
    refine Run.go rfl rfl rfl (sem_move ((Value.int .i64 (i2))) rfl ?_)
    refine Run.go rfl rfl rfl (sem_move ((Value.int .i64 (i3))) rfl ?_)
    refine Run.go rfl rfl rfl (sem_callL [(Value.pointer p12), (Value.pointer p11), (Value.int .i64 (i2)), (Value.int .i64 (i3))] (TF.goes_45) rfl rfl (Spec.mono hS fun v h17 hv => ?_))
    obtain ⟨b18, rfl, hS⟩ := hv
    refine Run.region_end ?_
    refine Run.seq ?_
    refine Run.ops0 (idx := [0, 1, 2, 3, 4, 5, 6, 7, 8, 9]) rfl ?_
    refine Run.go rfl rfl rfl (sem_move ((Value.pointer p12)) rfl ?_)
    refine Run.go rfl rfl rfl (sem_move ((Value.pointer p11)) rfl ?_)
    refine Run.go rfl rfl rfl (sem_move ((Value.int .i64 (i3))) rfl ?_)
    refine Run.go rfl rfl rfl (sem_callL [(Value.pointer p12), (Value.pointer p11), (Value.int .i64 (i3))] (TF.goes_23) rfl rfl (Spec.mono hS fun v h19 hv => ?_))
    obtain ⟨b20, s21, b22, rfl, hS⟩ := hv
    refine Run.go rfl rfl rfl (sem_move ((Value.tuple #[(Value.agg #[(Value.bool b20), (Value.string s21)]), (Value.bool b22)])) rfl ?_)
    refine Run.go rfl rfl rfl (sem_extract #[(Value.agg #[(Value.bool b20), (Value.string s21)]), (Value.bool b22)] ((Value.agg #[(Value.bool b20), (Value.string s21)])) rfl rfl ?_)
    refine Run.go rfl rfl rfl (sem_extract #[(Value.agg #[(Value.bool b20), (Value.string s21)]), (Value.bool b22)] ((Value.bool b22)) rfl rfl ?_)
    refine Run.go rfl rfl rfl (sem_allocN [(Value.bool false), (Value.string ByteArray.empty)] TF.zero_41 (fun k23 hb1 hb2 h24 hb3 => ?_))
    have hS := hS k23 hb1 hb2 h24 hb3
    obtain ⟨h25, hst, hS⟩ := hS
    refine Run.go rfl rfl rfl (sem_storeN ⟨k23, 0, none⟩ [(Value.bool b20), (Value.string s21)] h25 rfl rfl TF.sz_41 hst ?_)
    refine Run.go rfl rfl rfl (sem_assign ((Value.bool b22)) rfl ?_)
    refine Run.region_end ?_
    refine Run.seq ?_
    refine Run.ops0 (idx := [0, 1, 2, 3, 4, 5, 6, 7, 8, 9]) rfl ?_
    refine Run.go rfl rfl rfl (sem_move ((Value.pointer p12)) rfl ?_)
    refine Run.go rfl rfl rfl (sem_move ((Value.pointer p11)) rfl ?_)
    refine Run.go rfl rfl rfl (sem_move ((Value.int .i64 (i2))) rfl ?_)
    refine Run.go rfl rfl rfl (sem_callL [(Value.pointer p12), (Value.pointer p11), (Value.int .i64 (i2))] (TF.goes_23) rfl rfl (Spec.mono hS fun v h26 hv => ?_))
    obtain ⟨b27, s28, b29, rfl, hS⟩ := hv
    refine Run.go rfl rfl rfl (sem_move ((Value.tuple #[(Value.agg #[(Value.bool b27), (Value.string s28)]), (Value.bool b29)])) rfl ?_)
    refine Run.go rfl rfl rfl (sem_extract #[(Value.agg #[(Value.bool b27), (Value.string s28)]), (Value.bool b29)] ((Value.agg #[(Value.bool b27), (Value.string s28)])) rfl rfl ?_)
    refine Run.go rfl rfl rfl (sem_extract #[(Value.agg #[(Value.bool b27), (Value.string s28)]), (Value.bool b29)] ((Value.bool b29)) rfl rfl ?_)
    refine Run.go rfl rfl rfl (sem_allocN [(Value.bool false), (Value.string ByteArray.empty)] TF.zero_41 (fun k30 hb1 hb2 h31 hb3 => ?_))
    have hS := hS k30 hb1 hb2 h31 hb3
    obtain ⟨h32, hst, hS⟩ := hS
    refine Run.go rfl rfl rfl (sem_storeN ⟨k30, 0, none⟩ [(Value.bool b27), (Value.string s28)] h32 rfl rfl TF.sz_41 hst ?_)
    refine Run.go rfl rfl rfl (sem_assign ((Value.bool b29)) rfl ?_)
    refine Run.region_end ?_
    refine Run.seqJ (fun e h34 => Agree [(1, (Value.int .i64 (i2))), (2, (Value.int .i64 (i3))), (3, (Value.pointer (some ⟨k5, 0, none⟩))), (7, (Value.pointer p11)), (8, (Value.pointer p12))] e ∧ S_countermandlaw14_SheetRenames_J2 B i2 i3 k5 p11 p12 h34 Q) ?_ fun j33 => ?_
    ·rintro e h34 ⟨hag, hS⟩
     refine Run.env hag ?_; clear hag
     refine Run.seq ?_
     refine Run.ops0 (idx := [0, 1, 2, 3, 4]) rfl ?_
     refine Run.go rfl rfl rfl (sem_move ((Value.pointer p12)) rfl ?_)
     refine Run.go rfl rfl rfl (sem_move ((Value.pointer p11)) rfl ?_)
     refine Run.go rfl rfl rfl (sem_move ((Value.int .i64 (i3))) rfl ?_)
     refine Run.go rfl rfl rfl (sem_move ((Value.int .i64 (i2))) rfl ?_)
     refine Run.go rfl rfl rfl (sem_callL [(Value.pointer p12), (Value.pointer p11), (Value.int .i64 (i3)), (Value.int .i64 (i2))] (TF.goes_45) rfl rfl (Spec.mono hS fun v h35 hv => ?_))
     obtain ⟨b36, rfl, hS⟩ := hv
     refine Run.region_end ?_
     refine Run.seq ?_
     refine Run.seq ?_
     refine Run.ops0 (idx := [0]) rfl ?_
     refine Run.go rfl rfl rfl (sem_move ((Value.int .i64 (0))) rfl ?_)
     refine Run.region_end ?_
     refine Run.block ?_
     obtain ⟨J42, m40, h0, hS⟩ := hS
     refine Run.of_fin (h0.imp fun h' h0 => ?_)
     refine Run.loop (σ := Int × Nat) (fun x e h => J42 x.1 x.2 h ∧ Agree [(3, (Value.pointer (some ⟨k5, 0, none⟩))), (7, (Value.pointer p11)), (8, (Value.pointer p12)), (90, (Value.int .i64 (x.1)))] e) (fun x => x.2) ((0), m40) ⟨h0, ⟨rfl, rfl, rfl, rfl, trivial⟩⟩ ?_; clear h0
     rintro ⟨i37, m39⟩ e h38 ⟨hJ, hag⟩ ih41
     have hS := hS i37 m39 h38 hJ; clear hJ
     refine Run.env hag ?_; clear hag
     refine Run.seq ?_
     refine Run.ops0 (idx := [0]) rfl ?_
     obtain ⟨hT, hF⟩ := hS
     by_cases hb43 : (i37 : Int) < (6)
     ·have hS := hT hb43; clear hT hF
      refine Run.go rfl rfl rfl (sem_binI .i64 (i37) (6) (.bool true) rfl rfl (binI_lss_t hb43) ?_)
      refine Run.region_end ?_
      refine Run.seq ?_
      refine Run.condT rfl ?_
      refine Run.skip ?_
      refine Run.seq ?_
      refine Run.block ?_
      refine Run.seq ?_
      refine Run.ops0 (idx := [0, 1]) rfl ?_
      refine Run.go rfl rfl rfl (sem_move ((Value.int .i64 (i37))) rfl ?_)
      refine Run.go rfl rfl rfl (sem_assign ((Value.int .i64 (i37))) rfl ?_)
      refine Run.region_end ?_
      refine Run.seq ?_
      refine Run.ops0 (idx := [0, 1, 2, 3, 4, 5, 6, 7, 8, 9]) rfl ?_
      refine Run.go rfl rfl rfl (sem_move ((Value.pointer p12)) rfl ?_)
      refine Run.go rfl rfl rfl (sem_move ((Value.pointer p11)) rfl ?_)
      refine Run.go rfl rfl rfl (sem_move ((Value.int .i64 (i37))) rfl ?_)
      refine Run.go rfl rfl rfl (sem_callL [(Value.pointer p12), (Value.pointer p11), (Value.int .i64 (i37))] (TF.goes_23) rfl rfl (Spec.mono hS fun v h44 hv => ?_))
      obtain ⟨b45, s46, b47, rfl, hS⟩ := hv
      refine Run.go rfl rfl rfl (sem_move ((Value.tuple #[(Value.agg #[(Value.bool b45), (Value.string s46)]), (Value.bool b47)])) rfl ?_)
      refine Run.go rfl rfl rfl (sem_extract #[(Value.agg #[(Value.bool b45), (Value.string s46)]), (Value.bool b47)] ((Value.agg #[(Value.bool b45), (Value.string s46)])) rfl rfl ?_)
      refine Run.go rfl rfl rfl (sem_extract #[(Value.agg #[(Value.bool b45), (Value.string s46)]), (Value.bool b47)] ((Value.bool b47)) rfl rfl ?_)
      refine Run.go rfl rfl rfl (sem_allocN [(Value.bool false), (Value.string ByteArray.empty)] TF.zero_41 (fun k48 hb1 hb2 h49 hb3 => ?_))
      have hS := hS k48 hb1 hb2 h49 hb3
      obtain ⟨h50, hst, hS⟩ := hS
      refine Run.go rfl rfl rfl (sem_storeN ⟨k48, 0, none⟩ [(Value.bool b45), (Value.string s46)] h50 rfl rfl TF.sz_41 hst ?_)
      refine Run.go rfl rfl rfl (sem_assign ((Value.bool b47)) rfl ?_)
      refine Run.region_end ?_
      refine Run.seq ?_
      refine Run.drawM (fun h' => h' = h50) [] ⟨[0, 0, 2, 4, 9], [31, 31, 29, 27, 22], [0, 0, 0, 0, 0], 0⟩ (.q 0 (.q 1 (.q 2 (.q 3 (.q 4 .nil))))) TF.mixed (by kernel_rfl) rfl ?_
      obtain ⟨b51, s52, hl, hS⟩ := hS
      refine RunT.quiet rfl rfl rfl (quiet_eq (sem_loadN ⟨k48, 0, none⟩ [(Value.bool b51), (Value.string s52)] rfl TF.agg_41 TF.sz_41 hl ⟨rfl, rfl⟩)) ?_
      refine RunT.quiet rfl rfl rfl (quiet_eq (sem_move ((Value.int .i64 (i37))) rfl ⟨rfl, rfl⟩)) ?_
      obtain ⟨hi0, hi1, hS⟩ := hS
      refine RunT.quiet rfl rfl rfl (quiet_eq (sem_indexAddrA ⟨k5, 0, none⟩ .i64 (i37) rfl rfl TF.arr_71 hi0 hi1 ⟨rfl, rfl⟩)) ?_
      obtain ⟨b53, s54, hl, hS⟩ := hS
      refine RunT.quiet rfl rfl rfl (quiet_eq (sem_loadN (Addr.add ⟨k5, 0, none⟩ (Int.toNat (i37) * 2)) [(Value.bool b53), (Value.string s54)] rfl TF.agg_41 TF.sz_41 hl ⟨rfl, rfl⟩)) ?_
      obtain ⟨hT, hF⟩ := hS
      by_cases hb55 : eqL [(Value.bool b51), (Value.string s52)] [(Value.bool b53), (Value.string s54)] = true
      ·have hS := hT hb55; clear hT hF
       refine RunT.quiet rfl rfl rfl (quiet_eq (sem_aggEq [(Value.bool b51), (Value.string s52)] [(Value.bool b53), (Value.string s54)] _ (false) (.inr rfl) rfl rfl TF.agg_41 TF.flat_41 TF.eqg_41 ⟨⟨_, rfl⟩, ⟨_, rfl⟩, trivial⟩ ⟨⟨_, rfl⟩, ⟨_, rfl⟩, trivial⟩ (eqLT_neq hb55) ⟨rfl, rfl⟩)) ?_
       refine Run.condF rfl ?_
       refine Run.skip ?_
       refine Run.inBlock ?_
       refine Run.ops0 (idx := [0, 1]) rfl ?_
       refine Run.go rfl rfl rfl (sem_binI .i64 (i37) (1) ((Value.int .i64 (IntKind.wrap .i64 ((i37) + (1))))) rfl rfl rfl ?_)
       refine Run.go rfl rfl rfl (sem_move ((Value.int .i64 (IntKind.wrap .i64 ((i37) + (1))))) rfl ?_)
       refine Run.region_end ?_
       exact Run.of_fin (hS.imp fun h' ⟨m', hm, hS⟩ => ih41 ((IntKind.wrap .i64 ((i37) + (1))), m') _ _ ⟨hS, ⟨rfl, rfl, rfl, rfl, trivial⟩⟩ hm)
      ·have hS := hF hb55; clear hT hF
       refine RunT.quiet rfl rfl rfl (quiet_eq (sem_aggEq [(Value.bool b51), (Value.string s52)] [(Value.bool b53), (Value.string s54)] _ (true) (.inr rfl) rfl rfl TF.agg_41 TF.flat_41 TF.eqg_41 ⟨⟨_, rfl⟩, ⟨_, rfl⟩, trivial⟩ ⟨⟨_, rfl⟩, ⟨_, rfl⟩, trivial⟩ (eqLF_neq hb55) ⟨rfl, rfl⟩)) ?_
       refine Run.condT rfl ?_
       refine Run.seq ?_
       refine Run.ops0 (idx := [0]) rfl ?_
       refine Run.go rfl rfl rfl (sem_assign ((Value.bool false)) rfl ?_)
       refine Run.region_end ?_
       refine Run.ret ⟨.inr rfl, ?_⟩
       exact hS.imp fun h' hq => ⟨(false), rfl, hq⟩
     ·have hS := hF hb43; clear hT hF
      refine Run.go rfl rfl rfl (sem_binI .i64 (i37) (6) (.bool false) rfl rfl (binI_lss_f hb43) ?_)
      refine Run.region_end ?_
      refine Run.seq ?_
      refine Run.condF rfl ?_
      refine Run.exit rfl ?_
      refine Run.seq ?_
      refine Run.ops0 (idx := [0]) rfl ?_
      refine Run.go rfl rfl rfl (sem_assign ((Value.bool true)) rfl ?_)
      refine Run.region_end ?_
      refine Run.ret ⟨.inr rfl, ?_⟩
      exact hS.imp fun h' hq => ⟨(true), rfl, hq⟩
    refine Run.seq ?_
    refine Run.drawM (fun h' => h' = h32) [] ⟨[0, 0, 2, 4, 9, 16, 32, 96, 160], [511, 511, 509, 507, 502, 495, 479, 415, 351], [0, 0, 0, 0, 0, 0, 0, 0, 0], 0⟩ (.q 0 (.q 1 (.q 2 (.q 3 (.q 4 (.q 5 (.q 6 (.q 7 (.q 8 .nil))))))))) TF.mixed (by kernel_rfl) rfl ?_
    obtain ⟨b56, s57, hl, hS⟩ := hS
    refine RunT.quiet rfl rfl rfl (quiet_eq (sem_loadN ⟨k23, 0, none⟩ [(Value.bool b56), (Value.string s57)] rfl TF.agg_41 TF.sz_41 hl ⟨rfl, rfl⟩)) ?_
    refine RunT.quiet rfl rfl rfl (quiet_eq (sem_move ((Value.int .i64 (i2))) rfl ⟨rfl, rfl⟩)) ?_
    obtain ⟨hi0, hi1, hS⟩ := hS
    refine RunT.quiet rfl rfl rfl (quiet_eq (sem_indexAddrA ⟨k5, 0, none⟩ .i64 (i2) rfl rfl TF.arr_71 hi0 hi1 ⟨rfl, rfl⟩)) ?_
    obtain ⟨b58, s59, hl, hS⟩ := hS
    refine RunT.quiet rfl rfl rfl (quiet_eq (sem_loadN (Addr.add ⟨k5, 0, none⟩ (Int.toNat (i2) * 2)) [(Value.bool b58), (Value.string s59)] rfl TF.agg_41 TF.sz_41 hl ⟨rfl, rfl⟩)) ?_
    obtain ⟨hT, hF⟩ := hS
    by_cases hb60 : eqL [(Value.bool b56), (Value.string s57)] [(Value.bool b58), (Value.string s59)] = true
    ·have hS := hT hb60; clear hT hF
     refine RunT.quiet rfl rfl rfl (quiet_eq (sem_aggEq [(Value.bool b56), (Value.string s57)] [(Value.bool b58), (Value.string s59)] _ (false) (.inr rfl) rfl rfl TF.agg_41 TF.flat_41 TF.eqg_41 ⟨⟨_, rfl⟩, ⟨_, rfl⟩, trivial⟩ ⟨⟨_, rfl⟩, ⟨_, rfl⟩, trivial⟩ (eqLT_neq hb60) ⟨rfl, rfl⟩)) ?_
     refine RunT.quiet rfl rfl rfl (quiet_eq (sem_move ((Value.bool false)) rfl ⟨rfl, rfl⟩)) ?_
     refine RunT.quiet rfl rfl rfl (quiet_eq (sem_fieldAddr ⟨k30, 0, none⟩ 0 rfl TF.fld_41_0 ⟨rfl, rfl⟩)) ?_
     obtain ⟨b61, hl, hS⟩ := hS
     obtain ⟨hT, hF⟩ := hS
     cases b61
     ·have hS := hF rfl; clear hT hF
      refine RunT.quiet rfl rfl rfl (quiet_eq (sem_load1 ⟨k30, 0, none⟩ (.bool false) rfl TF.agg_4 hl ⟨rfl, rfl⟩)) ?_
      refine RunT.quiet rfl rfl rfl (quiet_eq (sem_pick false ((Value.bool false)) rfl rfl ⟨rfl, rfl⟩)) ?_
      refine Run.condF rfl ?_
      refine Run.skip ?_
      exact Run.of_fin (hS.imp fun h' hS => j33 _ _ ⟨⟨rfl, rfl, rfl, rfl, rfl, trivial⟩, hS⟩)
     ·have hS := hT rfl; clear hT hF
      refine RunT.quiet rfl rfl rfl (quiet_eq (sem_load1 ⟨k30, 0, none⟩ (.bool true) rfl TF.agg_4 hl ⟨rfl, rfl⟩)) ?_
      refine RunT.quiet rfl rfl rfl (quiet_eq (sem_pick false ((Value.bool true)) rfl rfl ⟨rfl, rfl⟩)) ?_
      refine Run.condT rfl ?_
      refine Run.seq ?_
      refine Run.ops0 (idx := [0]) rfl ?_
      refine Run.go rfl rfl rfl (sem_assign ((Value.bool false)) rfl ?_)
      refine Run.region_end ?_
      refine Run.ret ⟨.inr rfl, ?_⟩
      exact hS.imp fun h' hq => ⟨(false), rfl, hq⟩
    ·have hS := hF hb60; clear hT hF
     refine RunT.quiet rfl rfl rfl (quiet_eq (sem_aggEq [(Value.bool b56), (Value.string s57)] [(Value.bool b58), (Value.string s59)] _ (true) (.inr rfl) rfl rfl TF.agg_41 TF.flat_41 TF.eqg_41 ⟨⟨_, rfl⟩, ⟨_, rfl⟩, trivial⟩ ⟨⟨_, rfl⟩, ⟨_, rfl⟩, trivial⟩ (eqLF_neq hb60) ⟨rfl, rfl⟩)) ?_
     refine RunT.quiet rfl rfl rfl (quiet_eq (sem_move ((Value.bool true)) rfl ⟨rfl, rfl⟩)) ?_
     refine RunT.skip rfl rfl rfl ?_
     refine RunT.skip rfl rfl rfl ?_
     refine RunT.quiet rfl rfl rfl (quiet_eq (sem_pick true ((Value.bool true)) rfl rfl ⟨rfl, rfl⟩)) ?_
     refine Run.condT rfl ?_
     refine Run.seq ?_
     refine Run.ops0 (idx := [0]) rfl ?_
     refine Run.go rfl rfl rfl (sem_assign ((Value.bool false)) rfl ?_)
     refine Run.region_end ?_
     refine Run.ret ⟨.inr rfl, ?_⟩
     exact hS.imp fun h' hq => ⟨(false), rfl, hq⟩
   refine Run.seq ?_
   refine Run.ops0 (idx := [0, 1, 2, 3, 4, 5, 6, 7, 8, 9, 10, 11, 12, 13, 14, 15, 16, 17, 18, 19, 20, 21, 22, 23, 24, 25, 26, 27, 28, 29]) rfl ?_
   refine Run.go rfl rfl rfl (sem_move ((Value.bool false)) rfl ?_)
   refine Run.go rfl rfl rfl (sem_not false rfl ?_)
   refine Run.go rfl rfl rfl (sem_move ((Value.bool true)) rfl ?_)
   refine Run.no rfl rfl rfl ?_
   refine Run.no rfl rfl rfl ?_
   refine Run.no rfl rfl rfl ?_
   refine Run.go rfl rfl rfl (sem_pick true ((Value.bool true)) rfl rfl ?_)
   refine Run.go rfl rfl rfl (sem_move ((Value.bool true)) rfl ?_)
   refine Run.no rfl rfl rfl ?_
   refine Run.no rfl rfl rfl ?_
   refine Run.no rfl rfl rfl ?_
   refine Run.go rfl rfl rfl (sem_pick true ((Value.bool true)) rfl rfl ?_)
   refine Run.go rfl rfl rfl (sem_move ((Value.bool true)) rfl ?_)
   refine Run.no rfl rfl rfl ?_
   refine Run.no rfl rfl rfl ?_
   refine Run.no rfl rfl rfl ?_
   refine Run.go rfl rfl rfl (sem_pick true ((Value.bool true)) rfl rfl ?_)
   refine Run.go rfl rfl rfl (sem_move ((Value.bool true)) rfl ?_)
   refine Run.no rfl rfl rfl ?_
   refine Run.no rfl rfl rfl ?_
   refine Run.no rfl rfl rfl ?_
   refine Run.no rfl rfl rfl ?_
   refine Run.no rfl rfl rfl ?_
   refine Run.go rfl rfl rfl (sem_pick true ((Value.bool true)) rfl rfl ?_)
   refine Run.go rfl rfl rfl (sem_move ((Value.bool true)) rfl ?_)
   refine Run.no rfl rfl rfl ?_
   refine Run.no rfl rfl rfl ?_
   refine Run.no rfl rfl rfl ?_
   refine Run.no rfl rfl rfl ?_
   refine Run.go rfl rfl rfl (sem_pick true ((Value.bool true)) rfl rfl ?_)
   refine Run.region_end ?_
   refine Run.condT rfl ?_
   refine Run.seq ?_
   refine Run.ops0 (idx := [0]) rfl ?_
   refine Run.go rfl rfl rfl (sem_assign ((Value.bool true)) rfl ?_)
   refine Run.region_end ?_
   refine Run.ret ⟨.inr rfl, ?_⟩
   exact hS.imp fun h' hq => ⟨(true), rfl, hq⟩
  ·have hS := hT rfl; clear hT hF
   refine Run.go rfl rfl rfl (sem_extract #[(Value.pointer p11), (Value.pointer p12), (Value.pointer p13), (Value.bool true)] (.bool true) rfl rfl ?_)
   refine Run.go rfl rfl rfl (sem_assign ((Value.pointer p11)) rfl ?_)
   refine Run.go rfl rfl rfl (sem_assign ((Value.pointer p12)) rfl ?_)
   refine Run.go rfl rfl rfl (sem_assign ((Value.pointer p13)) rfl ?_)
   refine Run.go rfl rfl rfl (sem_assign ((Value.bool true)) rfl ?_)
   refine Run.region_end ?_
   refine Run.seqJ (fun e h63 => Agree [(1, (Value.int .i64 (i2))), (2, (Value.int .i64 (i3))), (3, (Value.pointer (some ⟨k5, 0, none⟩))), (7, (Value.pointer p11)), (8, (Value.pointer p12))] e ∧ S_countermandlaw14_SheetRenames_J3 B i2 i3 k5 p11 p12 h63 Q) ?_ fun j62 => ?_
   ·rintro e h63 ⟨hag, hS⟩
    refine Run.env hag ?_; clear hag
    refine Run.seq ?_
    refine Run.ops0 (idx := [0, 1, 2, 3, 4]) rfl ?_
    refine Run.go rfl rfl rfl (sem_move ((Value.pointer p12)) rfl ?_)
    refine Run.go rfl rfl rfl (sem_move ((Value.pointer p11)) rfl ?_)
    refine Run.go rfl rfl rfl (sem_move ((Value.int .i64 (i2))) rfl ?_)
    refine Run.go rfl rfl rfl (sem_move ((Value.int .i64 (i3))) rfl ?_)
    refine Run.go rfl rfl rfl (sem_callL [(Value.pointer p12), (Value.pointer p11), (Value.int .i64 (i2)), (Value.int .i64 (i3))] (TF.goes_45) rfl rfl (Spec.mono hS fun v h64 hv => ?_))
    obtain ⟨b65, rfl, hS⟩ := hv
    refine Run.region_end ?_
    refine Run.seq ?_
    refine Run.ops0 (idx := [0, 1, 2, 3, 4, 5, 6, 7, 8, 9]) rfl ?_
    refine Run.go rfl rfl rfl (sem_move ((Value.pointer p12)) rfl ?_)
    refine Run.go rfl rfl rfl (sem_move ((Value.pointer p11)) rfl ?_)
    refine Run.go rfl rfl rfl (sem_move ((Value.int .i64 (i3))) rfl ?_)
    refine Run.go rfl rfl rfl (sem_callL [(Value.pointer p12), (Value.pointer p11), (Value.int .i64 (i3))] (TF.goes_23) rfl rfl (Spec.mono hS fun v h66 hv => ?_))
    obtain ⟨b67, s68, b69, rfl, hS⟩ := hv
    refine Run.go rfl rfl rfl (sem_move ((Value.tuple #[(Value.agg #[(Value.bool b67), (Value.string s68)]), (Value.bool b69)])) rfl ?_)
    refine Run.go rfl rfl rfl (sem_extract #[(Value.agg #[(Value.bool b67), (Value.string s68)]), (Value.bool b69)] ((Value.agg #[(Value.bool b67), (Value.string s68)])) rfl rfl ?_)
    refine Run.go rfl rfl rfl (sem_extract #[(Value.agg #[(Value.bool b67), (Value.string s68)]), (Value.bool b69)] ((Value.bool b69)) rfl rfl ?_)
    refine Run.go rfl rfl rfl (sem_allocN [(Value.bool false), (Value.string ByteArray.empty)] TF.zero_41 (fun k70 hb1 hb2 h71 hb3 => ?_))
    have hS := hS k70 hb1 hb2 h71 hb3
    obtain ⟨h72, hst, hS⟩ := hS
    refine Run.go rfl rfl rfl (sem_storeN ⟨k70, 0, none⟩ [(Value.bool b67), (Value.string s68)] h72 rfl rfl TF.sz_41 hst ?_)
    refine Run.go rfl rfl rfl (sem_assign ((Value.bool b69)) rfl ?_)
    refine Run.region_end ?_
    refine Run.seq ?_
    refine Run.ops0 (idx := [0, 1, 2, 3, 4, 5, 6, 7, 8, 9]) rfl ?_
    refine Run.go rfl rfl rfl (sem_move ((Value.pointer p12)) rfl ?_)
    refine Run.go rfl rfl rfl (sem_move ((Value.pointer p11)) rfl ?_)
    refine Run.go rfl rfl rfl (sem_move ((Value.int .i64 (i2))) rfl ?_)
    refine Run.go rfl rfl rfl (sem_callL [(Value.pointer p12), (Value.pointer p11), (Value.int .i64 (i2))] (TF.goes_23) rfl rfl (Spec.mono hS fun v h73 hv => ?_))
    obtain ⟨b74, s75, b76, rfl, hS⟩ := hv
    refine Run.go rfl rfl rfl (sem_move ((Value.tuple #[(Value.agg #[(Value.bool b74), (Value.string s75)]), (Value.bool b76)])) rfl ?_)
    refine Run.go rfl rfl rfl (sem_extract #[(Value.agg #[(Value.bool b74), (Value.string s75)]), (Value.bool b76)] ((Value.agg #[(Value.bool b74), (Value.string s75)])) rfl rfl ?_)
    refine Run.go rfl rfl rfl (sem_extract #[(Value.agg #[(Value.bool b74), (Value.string s75)]), (Value.bool b76)] ((Value.bool b76)) rfl rfl ?_)
    refine Run.go rfl rfl rfl (sem_allocN [(Value.bool false), (Value.string ByteArray.empty)] TF.zero_41 (fun k77 hb1 hb2 h78 hb3 => ?_))
    have hS := hS k77 hb1 hb2 h78 hb3
    obtain ⟨h79, hst, hS⟩ := hS
    refine Run.go rfl rfl rfl (sem_storeN ⟨k77, 0, none⟩ [(Value.bool b74), (Value.string s75)] h79 rfl rfl TF.sz_41 hst ?_)
    refine Run.go rfl rfl rfl (sem_assign ((Value.bool b76)) rfl ?_)
    refine Run.region_end ?_
    refine Run.seqJ (fun e h81 => Agree [(1, (Value.int .i64 (i2))), (2, (Value.int .i64 (i3))), (3, (Value.pointer (some ⟨k5, 0, none⟩))), (7, (Value.pointer p11)), (8, (Value.pointer p12))] e ∧ S_countermandlaw14_SheetRenames_J4 B i2 i3 k5 p11 p12 h81 Q) ?_ fun j80 => ?_
    ·rintro e h81 ⟨hag, hS⟩
     refine Run.env hag ?_; clear hag
     refine Run.seq ?_
     refine Run.ops0 (idx := [0, 1, 2, 3, 4]) rfl ?_
     refine Run.go rfl rfl rfl (sem_move ((Value.pointer p12)) rfl ?_)
     refine Run.go rfl rfl rfl (sem_move ((Value.pointer p11)) rfl ?_)
     refine Run.go rfl rfl rfl (sem_move ((Value.int .i64 (i3))) rfl ?_)
     refine Run.go rfl rfl rfl (sem_move ((Value.int .i64 (i2))) rfl ?_)
     refine Run.go rfl rfl rfl (sem_callL [(Value.pointer p12), (Value.pointer p11), (Value.int .i64 (i3)), (Value.int .i64 (i2))] (TF.goes_45) rfl rfl (Spec.mono hS fun v h82 hv => ?_))
     obtain ⟨b83, rfl, hS⟩ := hv
     refine Run.region_end ?_
     refine Run.seq ?_
     refine Run.seq ?_
     refine Run.ops0 (idx := [0]) rfl ?_
     refine Run.go rfl rfl rfl (sem_move ((Value.int .i64 (0))) rfl ?_)
     refine Run.region_end ?_
     refine Run.block ?_
     obtain ⟨J89, m87, h0, hS⟩ := hS
     refine Run.of_fin (h0.imp fun h' h0 => ?_)
     refine Run.loop (σ := Int × Nat) (fun x e h => J89 x.1 x.2 h ∧ Agree [(3, (Value.pointer (some ⟨k5, 0, none⟩))), (7, (Value.pointer p11)), (8, (Value.pointer p12)), (90, (Value.int .i64 (x.1)))] e) (fun x => x.2) ((0), m87) ⟨h0, ⟨rfl, rfl, rfl, rfl, trivial⟩⟩ ?_; clear h0
     rintro ⟨i84, m86⟩ e h85 ⟨hJ, hag⟩ ih88
     have hS := hS i84 m86 h85 hJ; clear hJ
     refine Run.env hag ?_; clear hag
     refine Run.seq ?_
     refine Run.ops0 (idx := [0]) rfl ?_
     obtain ⟨hT, hF⟩ := hS
     by_cases hb90 : (i84 : Int) < (6)
     ·have hS := hT hb90; clear hT hF
      refine Run.go rfl rfl rfl (sem_binI .i64 (i84) (6) (.bool true) rfl rfl (binI_lss_t hb90) ?_)
      refine Run.region_end ?_
      refine Run.seq ?_
      refine Run.condT rfl ?_
      refine Run.skip ?_
      refine Run.seq ?_
      refine Run.block ?_
      refine Run.seq ?_
      refine Run.ops0 (idx := [0, 1]) rfl ?_
      refine Run.go rfl rfl rfl (sem_move ((Value.int .i64 (i84))) rfl ?_)
      refine Run.go rfl rfl rfl (sem_assign ((Value.int .i64 (i84))) rfl ?_)
      refine Run.region_end ?_
      refine Run.seq ?_
      refine Run.ops0 (idx := [0, 1, 2, 3, 4, 5, 6, 7, 8, 9]) rfl ?_
      refine Run.go rfl rfl rfl (sem_move ((Value.pointer p12)) rfl ?_)
      refine Run.go rfl rfl rfl (sem_move ((Value.pointer p11)) rfl ?_)
      refine Run.go rfl rfl rfl (sem_move ((Value.int .i64 (i84))) rfl ?_)
      refine Run.go rfl rfl rfl (sem_callL [(Value.pointer p12), (Value.pointer p11), (Value.int .i64 (i84))] (TF.goes_23) rfl rfl (Spec.mono hS fun v h91 hv => ?_))
      obtain ⟨b92, s93, b94, rfl, hS⟩ := hv
      refine Run.go rfl rfl rfl (sem_move ((Value.tuple #[(Value.agg #[(Value.bool b92), (Value.string s93)]), (Value.bool b94)])) rfl ?_)
      refine Run.go rfl rfl rfl (sem_extract #[(Value.agg #[(Value.bool b92), (Value.string s93)]), (Value.bool b94)] ((Value.agg #[(Value.bool b92), (Value.string s93)])) rfl rfl ?_)
      refine Run.go rfl rfl rfl (sem_extract #[(Value.agg #[(Value.bool b92), (Value.string s93)]), (Value.bool b94)] ((Value.bool b94)) rfl rfl ?_)
      refine Run.go rfl rfl rfl (sem_allocN [(Value.bool false), (Value.string ByteArray.empty)] TF.zero_41 (fun k95 hb1 hb2 h96 hb3 => ?_))
      have hS := hS k95 hb1 hb2 h96 hb3
      obtain ⟨h97, hst, hS⟩ := hS
      refine Run.go rfl rfl rfl (sem_storeN ⟨k95, 0, none⟩ [(Value.bool b92), (Value.string s93)] h97 rfl rfl TF.sz_41 hst ?_)
      refine Run.go rfl rfl rfl (sem_assign ((Value.bool b94)) rfl ?_)
      refine Run.region_end ?_
      refine Run.seq ?_
      refine Run.drawM (fun h' => h' = h97) [] ⟨[0, 0, 2, 4, 9], [31, 31, 29, 27, 22], [0, 0, 0, 0, 0], 0⟩ (.q 0 (.q 1 (.q 2 (.q 3 (.q 4 .nil))))) TF.mixed (by kernel_rfl) rfl ?_
      obtain ⟨b98, s99, hl, hS⟩ := hS
      refine RunT.quiet rfl rfl rfl (quiet_eq (sem_loadN ⟨k95, 0, none⟩ [(Value.bool b98), (Value.string s99)] rfl TF.agg_41 TF.sz_41 hl ⟨rfl, rfl⟩)) ?_
      refine RunT.quiet rfl rfl rfl (quiet_eq (sem_move ((Value.int .i64 (i84))) rfl ⟨rfl, rfl⟩)) ?_
      obtain ⟨hi0, hi1, hS⟩ := hS
      refine RunT.quiet rfl rfl rfl (quiet_eq (sem_indexAddrA ⟨k5, 0, none⟩ .i64 (i84) rfl rfl TF.arr_71 hi0 hi1 ⟨rfl, rfl⟩)) ?_
      obtain ⟨b100, s101, hl, hS⟩ := hS
      refine RunT.quiet rfl rfl rfl (quiet_eq (sem_loadN (Addr.add ⟨k5, 0, none⟩ (Int.toNat (i84) * 2)) [(Value.bool b100), (Value.string s101)] rfl TF.agg_41 TF.sz_41 hl ⟨rfl, rfl⟩)) ?_
      obtain ⟨hT, hF⟩ := hS
      by_cases hb102 : eqL [(Value.bool b98), (Value.string s99)] [(Value.bool b100), (Value.string s101)] = true
      ·have hS := hT hb102; clear hT hF
       refine RunT.quiet rfl rfl rfl (quiet_eq (sem_aggEq [(Value.bool b98), (Value.string s99)] [(Value.bool b100), (Value.string s101)] _ (false) (.inr rfl) rfl rfl TF.agg_41 TF.flat_41 TF.eqg_41 ⟨⟨_, rfl⟩, ⟨_, rfl⟩, trivial⟩ ⟨⟨_, rfl⟩, ⟨_, rfl⟩, trivial⟩ (eqLT_neq hb102) ⟨rfl, rfl⟩)) ?_
       refine Run.condF rfl ?_
       refine Run.skip ?_
       refine Run.inBlock ?_
       refine Run.ops0 (idx := [0, 1]) rfl ?_
       refine Run.go rfl rfl rfl (sem_binI .i64 (i84) (1) ((Value.int .i64 (IntKind.wrap .i64 ((i84) + (1))))) rfl rfl rfl ?_)
       refine Run.go rfl rfl rfl (sem_move ((Value.int .i64 (IntKind.wrap .i64 ((i84) + (1))))) rfl ?_)
       refine Run.region_end ?_
       exact Run.of_fin (hS.imp fun h' ⟨m', hm, hS⟩ => ih88 ((IntKind.wrap .i64 ((i84) + (1))), m') _ _ ⟨hS, ⟨rfl, rfl, rfl, rfl, trivial⟩⟩ hm)
      ·have hS := hF hb102; clear hT hF
       refine RunT.quiet rfl rfl rfl (quiet_eq (sem_aggEq [(Value.bool b98), (Value.string s99)] [(Value.bool b100), (Value.string s101)] _ (true) (.inr rfl) rfl rfl TF.agg_41 TF.flat_41 TF.eqg_41 ⟨⟨_, rfl⟩, ⟨_, rfl⟩, trivial⟩ ⟨⟨_, rfl⟩, ⟨_, rfl⟩, trivial⟩ (eqLF_neq hb102) ⟨rfl, rfl⟩)) ?_
       refine Run.condT rfl ?_
       refine Run.seq ?_
       refine Run.ops0 (idx := [0]) rfl ?_
       refine Run.go rfl rfl rfl (sem_assign ((Value.bool false)) rfl ?_)
       refine Run.region_end ?_
       refine Run.ret ⟨.inr rfl, ?_⟩
       exact hS.imp fun h' hq => ⟨(false), rfl, hq⟩
     ·have hS := hF hb90; clear hT hF
      refine Run.go rfl rfl rfl (sem_binI .i64 (i84) (6) (.bool false) rfl rfl (binI_lss_f hb90) ?_)
      refine Run.region_end ?_
      refine Run.seq ?_
      refine Run.condF rfl ?_
      refine Run.exit rfl ?_
      refine Run.seq ?_
      refine Run.ops0 (idx := [0]) rfl ?_
      refine Run.go rfl rfl rfl (sem_assign ((Value.bool true)) rfl ?_)
      refine Run.region_end ?_
      refine Run.ret ⟨.inr rfl, ?_⟩
      exact hS.imp fun h' hq => ⟨(true), rfl, hq⟩
    refine Run.seq ?_
    refine Run.drawM (fun h' => h' = h79) [] ⟨[0, 0, 2, 4, 9, 16, 32, 96, 160], [511, 511, 509, 507, 502, 495, 479, 415, 351], [0, 0, 0, 0, 0, 0, 0, 0, 0], 0⟩ (.q 0 (.q 1 (.q 2 (.q 3 (.q 4 (.q 5 (.q 6 (.q 7 (.q 8 .nil))))))))) TF.mixed (by kernel_rfl) rfl ?_
    obtain ⟨b103, s104, hl, hS⟩ := hS
    refine RunT.quiet rfl rfl rfl (quiet_eq (sem_loadN ⟨k70, 0, none⟩ [(Value.bool b103), (Value.string s104)] rfl TF.agg_41 TF.sz_41 hl ⟨rfl, rfl⟩)) ?_
    refine RunT.quiet rfl rfl rfl (quiet_eq (sem_move ((Value.int .i64 (i2))) rfl ⟨rfl, rfl⟩)) ?_
    obtain ⟨hi0, hi1, hS⟩ := hS
    refine RunT.quiet rfl rfl rfl (quiet_eq (sem_indexAddrA ⟨k5, 0, none⟩ .i64 (i2) rfl rfl TF.arr_71 hi0 hi1 ⟨rfl, rfl⟩)) ?_
    obtain ⟨b105, s106, hl, hS⟩ := hS
    refine RunT.quiet rfl rfl rfl (quiet_eq (sem_loadN (Addr.add ⟨k5, 0, none⟩ (Int.toNat (i2) * 2)) [(Value.bool b105), (Value.string s106)] rfl TF.agg_41 TF.sz_41 hl ⟨rfl, rfl⟩)) ?_
    obtain ⟨hT, hF⟩ := hS
    by_cases hb107 : eqL [(Value.bool b103), (Value.string s104)] [(Value.bool b105), (Value.string s106)] = true
    ·have hS := hT hb107; clear hT hF
     refine RunT.quiet rfl rfl rfl (quiet_eq (sem_aggEq [(Value.bool b103), (Value.string s104)] [(Value.bool b105), (Value.string s106)] _ (false) (.inr rfl) rfl rfl TF.agg_41 TF.flat_41 TF.eqg_41 ⟨⟨_, rfl⟩, ⟨_, rfl⟩, trivial⟩ ⟨⟨_, rfl⟩, ⟨_, rfl⟩, trivial⟩ (eqLT_neq hb107) ⟨rfl, rfl⟩)) ?_
     refine RunT.quiet rfl rfl rfl (quiet_eq (sem_move ((Value.bool false)) rfl ⟨rfl, rfl⟩)) ?_
     refine RunT.quiet rfl rfl rfl (quiet_eq (sem_fieldAddr ⟨k77, 0, none⟩ 0 rfl TF.fld_41_0 ⟨rfl, rfl⟩)) ?_
     obtain ⟨b108, hl, hS⟩ := hS
     obtain ⟨hT, hF⟩ := hS
     cases b108
     ·have hS := hF rfl; clear hT hF
      refine RunT.quiet rfl rfl rfl (quiet_eq (sem_load1 ⟨k77, 0, none⟩ (.bool false) rfl TF.agg_4 hl ⟨rfl, rfl⟩)) ?_
      refine RunT.quiet rfl rfl rfl (quiet_eq (sem_pick false ((Value.bool false)) rfl rfl ⟨rfl, rfl⟩)) ?_
      refine Run.condF rfl ?_
      refine Run.skip ?_
      exact Run.of_fin (hS.imp fun h' hS => j80 _ _ ⟨⟨rfl, rfl, rfl, rfl, rfl, trivial⟩, hS⟩)
     ·have hS := hT rfl; clear hT hF
      refine RunT.quiet rfl rfl rfl (quiet_eq (sem_load1 ⟨k77, 0, none⟩ (.bool true) rfl TF.agg_4 hl ⟨rfl, rfl⟩)) ?_
      refine RunT.quiet rfl rfl rfl (quiet_eq (sem_pick false ((Value.bool true)) rfl rfl ⟨rfl, rfl⟩)) ?_
      refine Run.condT rfl ?_
      refine Run.seq ?_
      refine Run.ops0 (idx := [0]) rfl ?_
      refine Run.go rfl rfl rfl (sem_assign ((Value.bool false)) rfl ?_)
      refine Run.region_end ?_
      refine Run.ret ⟨.inr rfl, ?_⟩
      exact hS.imp fun h' hq => ⟨(false), rfl, hq⟩
    ·have hS := hF hb107; clear hT hF
     refine RunT.quiet rfl rfl rfl (quiet_eq (sem_aggEq [(Value.bool b103), (Value.string s104)] [(Value.bool b105), (Value.string s106)] _ (true) (.inr rfl) rfl rfl TF.agg_41 TF.flat_41 TF.eqg_41 ⟨⟨_, rfl⟩, ⟨_, rfl⟩, trivial⟩ ⟨⟨_, rfl⟩, ⟨_, rfl⟩, trivial⟩ (eqLF_neq hb107) ⟨rfl, rfl⟩)) ?_
     refine RunT.quiet rfl rfl rfl (quiet_eq (sem_move ((Value.bool true)) rfl ⟨rfl, rfl⟩)) ?_
     refine RunT.skip rfl rfl rfl ?_
     refine RunT.skip rfl rfl rfl ?_
     refine RunT.quiet rfl rfl rfl (quiet_eq (sem_pick true ((Value.bool true)) rfl rfl ⟨rfl, rfl⟩)) ?_
     refine Run.condT rfl ?_
     refine Run.seq ?_
     refine Run.ops0 (idx := [0]) rfl ?_
     refine Run.go rfl rfl rfl (sem_assign ((Value.bool false)) rfl ?_)
     refine Run.region_end ?_
     refine Run.ret ⟨.inr rfl, ?_⟩
     exact hS.imp fun h' hq => ⟨(false), rfl, hq⟩
   refine Run.seq ?_
   refine Run.ops0 (idx := [0, 1, 2, 3, 4, 5, 6, 7, 8, 9, 10, 11, 12, 13, 14, 15, 16, 17, 18, 19, 20, 21, 22, 23, 24, 25, 26, 27, 28, 29]) rfl ?_
   refine Run.go rfl rfl rfl (sem_move ((Value.bool true)) rfl ?_)
   refine Run.go rfl rfl rfl (sem_not true rfl ?_)
   refine Run.go rfl rfl rfl (sem_move ((Value.bool false)) rfl ?_)
   refine Run.go rfl rfl rfl (sem_move ((Value.int .i64 (i2))) rfl ?_)
   refine Run.go rfl rfl rfl (sem_callL [(Value.int .i64 (i2))] (TF.goes_44) rfl rfl (Spec.mono hS fun v h109 hv => ?_))
   obtain ⟨b110, rfl, hS⟩ := hv
   obtain ⟨hT, hF⟩ := hS
   cases b110
   ·have hS := hF rfl; clear hT hF
    refine Run.go rfl rfl rfl (sem_not false rfl ?_)
    refine Run.go rfl rfl rfl (sem_pick false ((Value.bool true)) rfl rfl ?_)
    refine Run.go rfl rfl rfl (sem_move ((Value.bool true)) rfl ?_)
    refine Run.no rfl rfl rfl ?_
    refine Run.no rfl rfl rfl ?_
    refine Run.no rfl rfl rfl ?_
    refine Run.go rfl rfl rfl (sem_pick true ((Value.bool true)) rfl rfl ?_)
    refine Run.go rfl rfl rfl (sem_move ((Value.bool true)) rfl ?_)
    refine Run.no rfl rfl rfl ?_
    refine Run.no rfl rfl rfl ?_
    refine Run.no rfl rfl rfl ?_
    refine Run.go rfl rfl rfl (sem_pick true ((Value.bool true)) rfl rfl ?_)
    refine Run.go rfl rfl rfl (sem_move ((Value.bool true)) rfl ?_)
    refine Run.no rfl rfl rfl ?_
    refine Run.no rfl rfl rfl ?_
    refine Run.no rfl rfl rfl ?_
    refine Run.no rfl rfl rfl ?_
    refine Run.no rfl rfl rfl ?_
    refine Run.go rfl rfl rfl (sem_pick true ((Value.bool true)) rfl rfl ?_)
    refine Run.go rfl rfl rfl (sem_move ((Value.bool true)) rfl ?_)
    refine Run.no rfl rfl rfl ?_
    refine Run.no rfl rfl rfl ?_
    refine Run.no rfl rfl rfl ?_
    refine Run.no rfl rfl rfl ?_
    refine Run.go rfl rfl rfl (sem_pick true ((Value.bool true)) rfl rfl ?_)
    refine Run.region_end ?_
    refine Run.condT rfl ?_
    refine Run.seq ?_
    refine Run.ops0 (idx := [0]) rfl ?_
    refine Run.go rfl rfl rfl (sem_assign ((Value.bool true)) rfl ?_)
    refine Run.region_end ?_
    refine Run.ret ⟨.inr rfl, ?_⟩
    exact hS.imp fun h' hq => ⟨(true), rfl, hq⟩
   ·have hS := hT rfl; clear hT hF
    refine Run.go rfl rfl rfl (sem_not true rfl ?_)
    refine Run.go rfl rfl rfl (sem_pick false ((Value.bool false)) rfl rfl ?_)
    refine Run.go rfl rfl rfl (sem_move ((Value.bool false)) rfl ?_)
    refine Run.go rfl rfl rfl (sem_move ((Value.int .i64 (i3))) rfl ?_)
    refine Run.go rfl rfl rfl (sem_callL [(Value.int .i64 (i3))] (TF.goes_44) rfl rfl (Spec.mono hS fun v h111 hv => ?_))
    obtain ⟨b112, rfl, hS⟩ := hv
    obtain ⟨hT, hF⟩ := hS
    cases b112
    ·have hS := hF rfl; clear hT hF
     refine Run.go rfl rfl rfl (sem_not false rfl ?_)
     refine Run.go rfl rfl rfl (sem_pick false ((Value.bool true)) rfl rfl ?_)
     refine Run.go rfl rfl rfl (sem_move ((Value.bool true)) rfl ?_)
     refine Run.no rfl rfl rfl ?_
     refine Run.no rfl rfl rfl ?_
     refine Run.no rfl rfl rfl ?_
     refine Run.go rfl rfl rfl (sem_pick true ((Value.bool true)) rfl rfl ?_)
     refine Run.go rfl rfl rfl (sem_move ((Value.bool true)) rfl ?_)
     refine Run.no rfl rfl rfl ?_
     refine Run.no rfl rfl rfl ?_
     refine Run.no rfl rfl rfl ?_
     refine Run.no rfl rfl rfl ?_
     refine Run.no rfl rfl rfl ?_
     refine Run.go rfl rfl rfl (sem_pick true ((Value.bool true)) rfl rfl ?_)
     refine Run.go rfl rfl rfl (sem_move ((Value.bool true)) rfl ?_)
     refine Run.no rfl rfl rfl ?_
     refine Run.no rfl rfl rfl ?_
     refine Run.no rfl rfl rfl ?_
     refine Run.no rfl rfl rfl ?_
     refine Run.go rfl rfl rfl (sem_pick true ((Value.bool true)) rfl rfl ?_)
     refine Run.region_end ?_
     refine Run.condT rfl ?_
     refine Run.seq ?_
     refine Run.ops0 (idx := [0]) rfl ?_
     refine Run.go rfl rfl rfl (sem_assign ((Value.bool true)) rfl ?_)
     refine Run.region_end ?_
     refine Run.ret ⟨.inr rfl, ?_⟩
     exact hS.imp fun h' hq => ⟨(true), rfl, hq⟩
    ·have hS := hT rfl; clear hT hF
     refine Run.go rfl rfl rfl (sem_not true rfl ?_)
     refine Run.go rfl rfl rfl (sem_pick false ((Value.bool false)) rfl rfl ?_)
     refine Run.go rfl rfl rfl (sem_move ((Value.bool false)) rfl ?_)
     refine Run.go rfl rfl rfl (sem_move ((Value.int .i64 (i2))) rfl ?_)
     refine Run.go rfl rfl rfl (sem_move ((Value.int .i64 (i3))) rfl ?_)
     obtain ⟨hT, hF⟩ := hS
     by_cases hb113 : (i2 : Int) = i3
     ·have hS := hT hb113; clear hT hF
      refine Run.go rfl rfl rfl (sem_binI .i64 (i2) (i3) (.bool true) rfl rfl (binI_eql_t hb113) ?_)
      refine Run.go rfl rfl rfl (sem_pick false ((Value.bool true)) rfl rfl ?_)
      refine Run.go rfl rfl rfl (sem_move ((Value.bool true)) rfl ?_)
      refine Run.no rfl rfl rfl ?_
      refine Run.no rfl rfl rfl ?_
      refine Run.no rfl rfl rfl ?_
      refine Run.no rfl rfl rfl ?_
      refine Run.no rfl rfl rfl ?_
      refine Run.go rfl rfl rfl (sem_pick true ((Value.bool true)) rfl rfl ?_)
      refine Run.go rfl rfl rfl (sem_move ((Value.bool true)) rfl ?_)
      refine Run.no rfl rfl rfl ?_
      refine Run.no rfl rfl rfl ?_
      refine Run.no rfl rfl rfl ?_
      refine Run.no rfl rfl rfl ?_
      refine Run.go rfl rfl rfl (sem_pick true ((Value.bool true)) rfl rfl ?_)
      refine Run.region_end ?_
      refine Run.condT rfl ?_
      refine Run.seq ?_
      refine Run.ops0 (idx := [0]) rfl ?_
      refine Run.go rfl rfl rfl (sem_assign ((Value.bool true)) rfl ?_)
      refine Run.region_end ?_
      refine Run.ret ⟨.inr rfl, ?_⟩
      exact hS.imp fun h' hq => ⟨(true), rfl, hq⟩
     ·have hS := hF hb113; clear hT hF
      refine Run.go rfl rfl rfl (sem_binI .i64 (i2) (i3) (.bool false) rfl rfl (binI_eql_f hb113) ?_)
      refine Run.go rfl rfl rfl (sem_pick false ((Value.bool false)) rfl rfl ?_)
      refine Run.go rfl rfl rfl (sem_move ((Value.bool false)) rfl ?_)
      refine Run.go rfl rfl rfl (sem_move ((Value.int .i64 (i2))) rfl ?_)
      obtain ⟨hi0, hi1, hS⟩ := hS
      refine Run.go rfl rfl rfl (sem_indexAddrA ⟨k5, 0, none⟩ .i64 (i2) rfl rfl TF.arr_71 hi0 hi1 ?_)
      refine Run.go rfl rfl rfl (sem_fieldAddr (Addr.add ⟨k5, 0, none⟩ (Int.toNat (i2) * 2)) 0 rfl TF.fld_41_0 ?_)
      obtain ⟨b114, hl, hS⟩ := hS
      obtain ⟨hT, hF⟩ := hS
      cases b114
      ·have hS := hF rfl; clear hT hF
       refine Run.go rfl rfl rfl (sem_load1 (Addr.add ⟨k5, 0, none⟩ (Int.toNat (i2) * 2)) (.bool false) rfl TF.agg_4 hl ?_)
       refine Run.go rfl rfl rfl (sem_not false rfl ?_)
       refine Run.go rfl rfl rfl (sem_pick false ((Value.bool true)) rfl rfl ?_)
       refine Run.go rfl rfl rfl (sem_move ((Value.bool true)) rfl ?_)
       refine Run.no rfl rfl rfl ?_
       refine Run.no rfl rfl rfl ?_
       refine Run.no rfl rfl rfl ?_
       refine Run.no rfl rfl rfl ?_
       refine Run.go rfl rfl rfl (sem_pick true ((Value.bool true)) rfl rfl ?_)
       refine Run.region_end ?_
       refine Run.condT rfl ?_
       refine Run.seq ?_
       refine Run.ops0 (idx := [0]) rfl ?_
       refine Run.go rfl rfl rfl (sem_assign ((Value.bool true)) rfl ?_)
       refine Run.region_end ?_
       refine Run.ret ⟨.inr rfl, ?_⟩
       exact hS.imp fun h' hq => ⟨(true), rfl, hq⟩
      ·have hS := hT rfl; clear hT hF
       refine Run.go rfl rfl rfl (sem_load1 (Addr.add ⟨k5, 0, none⟩ (Int.toNat (i2) * 2)) (.bool true) rfl TF.agg_4 hl ?_)
       refine Run.go rfl rfl rfl (sem_not true rfl ?_)
       refine Run.go rfl rfl rfl (sem_pick false ((Value.bool false)) rfl rfl ?_)
       refine Run.go rfl rfl rfl (sem_move ((Value.bool false)) rfl ?_)
       refine Run.go rfl rfl rfl (sem_move ((Value.int .i64 (i3))) rfl ?_)
       obtain ⟨hi0, hi1, hS⟩ := hS
       refine Run.go rfl rfl rfl (sem_indexAddrA ⟨k5, 0, none⟩ .i64 (i3) rfl rfl TF.arr_71 hi0 hi1 ?_)
       refine Run.go rfl rfl rfl (sem_fieldAddr (Addr.add ⟨k5, 0, none⟩ (Int.toNat (i3) * 2)) 0 rfl TF.fld_41_0 ?_)
       obtain ⟨b115, hl, hS⟩ := hS
       obtain ⟨hT, hF⟩ := hS
       cases b115
       ·have hS := hF rfl; clear hT hF
        refine Run.go rfl rfl rfl (sem_load1 (Addr.add ⟨k5, 0, none⟩ (Int.toNat (i3) * 2)) (.bool false) rfl TF.agg_4 hl ?_)
        refine Run.go rfl rfl rfl (sem_pick false ((Value.bool false)) rfl rfl ?_)
        refine Run.region_end ?_
        refine Run.condF rfl ?_
        refine Run.skip ?_
        exact Run.of_fin (hS.imp fun h' hS => j62 _ _ ⟨⟨rfl, rfl, rfl, rfl, rfl, trivial⟩, hS⟩)
       ·have hS := hT rfl; clear hT hF
        refine Run.go rfl rfl rfl (sem_load1 (Addr.add ⟨k5, 0, none⟩ (Int.toNat (i3) * 2)) (.bool true) rfl TF.agg_4 hl ?_)
        refine Run.go rfl rfl rfl (sem_pick false ((Value.bool true)) rfl rfl ?_)
        refine Run.region_end ?_
        refine Run.condT rfl ?_
        refine Run.seq ?_
        refine Run.ops0 (idx := [0]) rfl ?_
        refine Run.go rfl rfl rfl (sem_assign ((Value.bool true)) rfl ?_)
        refine Run.region_end ?_
        refine Run.ret ⟨.inr rfl, ?_⟩
        exact hS.imp fun h' hq => ⟨(true), rfl, hq⟩
set_option maxHeartbeats 4000000 in
theorem C_countermandlaw14_SheetCopies.of {B : RO} {l1 : List Value} {a2 : Option Addr} {n3 : Nat} {c4 : Nat} {a5 : Option Addr} {n6 : Nat} {c7 : Nat} {h : Heap} {Q : Bool → Heap → Prop} (hS : S_countermandlaw14_SheetCopies B l1 a2 n3 c4 a5 n6 c7 h Q) : C_countermandlaw14_SheetCopies B l1 a2 n3 c4 a5 n6 c7 h Q := by
 unfold S_countermandlaw14_SheetCopies at hS
 unfold C_countermandlaw14_SheetCopies
 refine Spec.of_run Try.func11 (N := 106) (rs := [ResultVar.tmp 6]) rfl rfl rfl (Nat.le_of_ble_eq_true rfl) ?_
 refine Run.seq ?_
 refine Run.ops0 (idx := [0, 1]) rfl ?_
 refine Run.go rfl rfl rfl (sem_boxNN l1 rfl (fun k9 hb1 hb2 h10 hb3 => ?_))
 have hS := hS k9 hb1 hb2 h10 hb3
 refine Run.go rfl rfl rfl (sem_assign ((Value.bool false)) rfl ?_)
 refine Run.region_end ?_
 refine Run.seq ?_
 refine Run.seq ?_
 refine Run.ops0 (idx := [0, 1]) rfl ?_
 refine Run.go rfl rfl rfl (sem_callL [] (TF.goes_42) rfl rfl (Spec.mono hS fun v h11 hv => ?_))
 obtain ⟨b12, rfl, hS⟩ := hv
 obtain ⟨hT, hF⟩ := hS
 cases b12
 ·have hS := hF rfl; clear hT hF
  refine Run.go rfl rfl rfl (sem_not false rfl ?_)
  refine Run.region_end ?_
  refine Run.condT rfl ?_
  refine Run.seq ?_
  refine Run.ops0 (idx := [0]) rfl ?_
  refine Run.go rfl rfl rfl (sem_assign ((Value.bool false)) rfl ?_)
  refine Run.region_end ?_
  refine Run.ret ⟨.inr rfl, ?_⟩
  exact hS.imp fun h' hq => ⟨(false), rfl, hq⟩
 ·have hS := hT rfl; clear hT hF
  refine Run.go rfl rfl rfl (sem_not true rfl ?_)
  refine Run.region_end ?_
  refine Run.condF rfl ?_
  refine Run.skip ?_
  refine Run.seq ?_
  refine Run.ops0 (idx := [0, 1, 2, 3, 4, 5, 6, 7, 8, 9, 10]) rfl ?_
  obtain ⟨l13, hln, hl, hS⟩ := hS
  refine Run.go rfl rfl rfl (sem_loadN ⟨k9, 0, none⟩ l13 rfl TF.agg_71 (TF.sz_71.trans (congrArg some hln.symm)) hl ?_)
  refine Run.go rfl rfl rfl (sem_callL [(Value.agg (List.toArray l13))] (TF.goes_43) rfl rfl (Spec.mono hS fun v h14 hv => ?_))
  obtain ⟨p15, p16, p17, b18, rfl, hS⟩ := hv
  refine Run.go rfl rfl rfl (sem_move ((Value.tuple #[(Value.pointer p15), (Value.pointer p16), (Value.pointer p17), (Value.bool b18)])) rfl ?_)
  refine Run.go rfl rfl rfl (sem_extract #[(Value.pointer p15), (Value.pointer p16), (Value.pointer p17), (Value.bool b18)] ((Value.pointer p15)) rfl rfl ?_)
  refine Run.go rfl rfl rfl (sem_extract #[(Value.pointer p15), (Value.pointer p16), (Value.pointer p17), (Value.bool b18)] ((Value.pointer p16)) rfl rfl ?_)
  refine Run.go rfl rfl rfl (sem_extract #[(Value.pointer p15), (Value.pointer p16), (Value.pointer p17), (Value.bool b18)] ((Value.pointer p17)) rfl rfl ?_)
  obtain ⟨hT, hF⟩ := hS
  cases b18
  ·have hS := hF rfl; clear hT hF
   refine Run.go rfl rfl rfl (sem_extract #[(Value.pointer p15), (Value.pointer p16), (Value.pointer p17), (Value.bool false)] (.bool false) rfl rfl ?_)
   refine Run.go rfl rfl rfl (sem_assign ((Value.pointer p15)) rfl ?_)
   refine Run.go rfl rfl rfl (sem_assign ((Value.pointer p16)) rfl ?_)
   refine Run.go rfl rfl rfl (sem_assign ((Value.pointer p17)) rfl ?_)
   refine Run.go rfl rfl rfl (sem_assign ((Value.bool false)) rfl ?_)
   refine Run.region_end ?_
   refine Run.seqJ (fun e h20 => Agree [(1, (Value.slice a2 n3 c4)), (2, (Value.slice a5 n6 c7)), (7, (Value.pointer p15)), (8, (Value.pointer p16)), (9, (Value.pointer p17))] e ∧ S_countermandlaw14_SheetCopies_J1 B a2 n3 c4 a5 n6 c7 p15 p16 p17 h20 Q) ?_ fun j19 => ?_
   ·rintro e h20 ⟨hag, hS⟩
    refine Run.env hag ?_; clear hag
    refine Run.seqJ (fun e h22 => Agree [(2, (Value.slice a5 n6 c7)), (7, (Value.pointer p15)), (8, (Value.pointer p16)), (9, (Value.pointer p17))] e ∧ S_countermandlaw14_SheetCopies_J2 B a5 n6 c7 p15 p16 p17 h22 Q) ?_ fun j21 => ?_
    ·rintro e h22 ⟨hag, hS⟩
     refine Run.env hag ?_; clear hag
     refine Run.seq ?_
     refine Run.ops0 (idx := [0, 1, 2]) rfl ?_
     refine Run.go rfl rfl rfl (sem_move ((Value.pointer p16)) rfl ?_)
     refine Run.go rfl rfl rfl (sem_callL [(Value.pointer p16)] (TF.goes_47) rfl rfl (Spec.mono hS fun v h23 hv => ?_))
     obtain ⟨p24, rfl, hS⟩ := hv
     refine Run.go rfl rfl rfl (sem_assign ((Value.pointer p24)) rfl ?_)
     refine Run.region_end ?_
     refine Run.seq ?_
     refine Run.ops0 (idx := [0, 1, 2, 3, 4]) rfl ?_
     refine Run.go rfl rfl rfl (sem_move ((Value.pointer p17)) rfl ?_)
     obtain ⟨A25, e26, hS⟩ := hS
     refine Run.go rfl rfl rfl (sem_nilCheck A25 (congrArg Value.pointer e26) ?_)
     obtain ⟨b27, s28, b29, s30, b31, s32, b33, s34, b35, s36, b37, s38, b39, s40, b41, s42, b43, s44, b45, s46, b47, s48, b49, s50, b51, b52, b53, b54, b55, b56, hl, hS⟩ := hS
     refine Run.go rfl rfl rfl (sem_loadN A25 [(Value.bool b27), (Value.string s28), (Value.bool b29), (Value.string s30), (Value.bool b31), (Value.string s32), (Value.bool b33), (Value.string s34), (Value.bool b35), (Value.string s36), (Value.bool b37), (Value.string s38), (Value.bool b39), (Value.string s40), (Value.bool b41), (Value.string s42), (Value.bool b43), (Value.string s44), (Value.bool b45), (Value.string s46), (Value.bool b47), (Value.string s48), (Value.bool b49), (Value.string s50), (Value.bool b51), (Value.bool b52), (Value.bool b53), (Value.bool b54), (Value.bool b55), (Value.bool b56)] rfl TF.agg_86 TF.sz_86 hl ?_)
     refine Run.go rfl rfl rfl (sem_allocN [(Value.bool false), (Value.string ByteArray.empty), (Value.bool false), (Value.string ByteArray.empty), (Value.bool false), (Value.string ByteArray.empty), (Value.bool false), (Value.string ByteArray.empty), (Value.bool false), (Value.string ByteArray.empty), (Value.bool false), (Value.string ByteArray.empty), (Value.bool false), (Value.string ByteArray.empty), (Value.bool false), (Value.string ByteArray.empty), (Value.bool false), (Value.string ByteArray.empty), (Value.bool false), (Value.string ByteArray.empty), (Value.bool false), (Value.string ByteArray.empty), (Value.bool false), (Value.string ByteArray.empty), (Value.bool false), (Value.bool false), (Value.bool false), (Value.bool false), (Value.bool false), (Value.bool false)] TF.zero_86 (fun k57 hb1 hb2 h58 hb3 => ?_))
     have hS := hS k57 hb1 hb2 h58 hb3
     obtain ⟨h59, hst, hS⟩ := hS
     refine Run.go rfl rfl rfl (sem_storeN ⟨k57, 0, none⟩ [(Value.bool b27), (Value.string s28), (Value.bool b29), (Value.string s30), (Value.bool b31), (Value.string s32), (Value.bool b33), (Value.string s34), (Value.bool b35), (Value.string s36), (Value.bool b37), (Value.string s38), (Value.bool b39), (Value.string s40), (Value.bool b41), (Value.string s42), (Value.bool b43), (Value.string s44), (Value.bool b45), (Value.string s46), (Value.bool b47), (Value.string s48), (Value.bool b49), (Value.string s50), (Value.bool b51), (Value.bool b52), (Value.bool b53), (Value.bool b54), (Value.bool b55), (Value.bool b56)] h59 rfl rfl TF.sz_86 hst ?_)
     refine Run.region_end ?_
     refine Run.seqJ (fun e h61 => Agree [(7, (Value.pointer p15)), (8, (Value.pointer p16)), (9, (Value.pointer p17)), (13, (Value.pointer p24)), (14, (Value.pointer (some ⟨k57, 0, none⟩)))] e ∧ S_countermandlaw14_SheetCopies_J3 B p15 p16 p17 p24 k57 h61 Q) ?_ fun j60 => ?_
     ·rintro e h61 ⟨hag, hS⟩
      refine Run.env hag ?_; clear hag
      refine Run.seq ?_
      refine Run.seq ?_
      refine Run.ops0 (idx := [0]) rfl ?_
      refine Run.go rfl rfl rfl (sem_move ((Value.int .i64 (0))) rfl ?_)
      refine Run.region_end ?_
      refine Run.block ?_
      obtain ⟨J67, m65, h0, hS⟩ := hS
      refine Run.of_fin (h0.imp fun h' h0 => ?_)
      refine Run.loop (σ := Int × Nat) (fun x e h => J67 x.1 x.2 h ∧ Agree [(7, (Value.pointer p15)), (8, (Value.pointer p16)), (9, (Value.pointer p17)), (13, (Value.pointer p24)), (14, (Value.pointer (some ⟨k57, 0, none⟩))), (72, (Value.int .i64 (x.1)))] e) (fun x => x.2) ((0), m65) ⟨h0, ⟨rfl, rfl, rfl, rfl, rfl, rfl, trivial⟩⟩ ?_; clear h0
      rintro ⟨i62, m64⟩ e h63 ⟨hJ, hag⟩ ih66
      have hS := hS i62 m64 h63 hJ; clear hJ
      refine Run.env hag ?_; clear hag
      refine Run.seq ?_
      refine Run.ops0 (idx := [0]) rfl ?_
      obtain ⟨hT, hF⟩ := hS
      by_cases hb68 : (i62 : Int) < (6)
      ·have hS := hT hb68; clear hT hF
       refine Run.go rfl rfl rfl (sem_binI .i64 (i62) (6) (.bool true) rfl rfl (binI_lss_t hb68) ?_)
       refine Run.region_end ?_
       refine Run.seq ?_
       refine Run.condT rfl ?_
       refine Run.skip ?_
       refine Run.seq ?_
       refine Run.block ?_
       refine Run.seq ?_
       refine Run.ops0 (idx := [0, 1]) rfl ?_
       refine Run.go rfl rfl rfl (sem_move ((Value.int .i64 (i62))) rfl ?_)
       refine Run.go rfl rfl rfl (sem_assign ((Value.int .i64 (i62))) rfl ?_)
       refine Run.region_end ?_
       refine Run.seq ?_
       refine Run.ops0 (idx := [0, 1, 2, 3, 4, 5, 6, 7, 8, 9]) rfl ?_
       refine Run.go rfl rfl rfl (sem_move ((Value.pointer p16)) rfl ?_)
       refine Run.go rfl rfl rfl (sem_move ((Value.pointer p15)) rfl ?_)
       refine Run.go rfl rfl rfl (sem_move ((Value.int .i64 (i62))) rfl ?_)
       refine Run.go rfl rfl rfl (sem_callL [(Value.pointer p16), (Value.pointer p15), (Value.int .i64 (i62))] (TF.goes_23) rfl rfl (Spec.mono hS fun v h69 hv => ?_))
       obtain ⟨b70, s71, b72, rfl, hS⟩ := hv
       refine Run.go rfl rfl rfl (sem_move ((Value.tuple #[(Value.agg #[(Value.bool b70), (Value.string s71)]), (Value.bool b72)])) rfl ?_)
       refine Run.go rfl rfl rfl (sem_extract #[(Value.agg #[(Value.bool b70), (Value.string s71)]), (Value.bool b72)] ((Value.agg #[(Value.bool b70), (Value.string s71)])) rfl rfl ?_)
       refine Run.go rfl rfl rfl (sem_extract #[(Value.agg #[(Value.bool b70), (Value.string s71)]), (Value.bool b72)] ((Value.bool b72)) rfl rfl ?_)
       refine Run.go rfl rfl rfl (sem_allocN [(Value.bool false), (Value.string ByteArray.empty)] TF.zero_41 (fun k73 hb1 hb2 h74 hb3 => ?_))
       have hS := hS k73 hb1 hb2 h74 hb3
       obtain ⟨h75, hst, hS⟩ := hS
       refine Run.go rfl rfl rfl (sem_storeN ⟨k73, 0, none⟩ [(Value.bool b70), (Value.string s71)] h75 rfl rfl TF.sz_41 hst ?_)
       refine Run.go rfl rfl rfl (sem_assign ((Value.bool b72)) rfl ?_)
       refine Run.region_end ?_
       refine Run.seq ?_
       refine Run.ops0 (idx := [0, 1, 2, 3, 4, 5, 6, 7, 8, 9]) rfl ?_
       refine Run.go rfl rfl rfl (sem_move ((Value.pointer p24)) rfl ?_)
       refine Run.go rfl rfl rfl (sem_move ((Value.pointer p15)) rfl ?_)
       refine Run.go rfl rfl rfl (sem_move ((Value.int .i64 (i62))) rfl ?_)
       refine Run.go rfl rfl rfl (sem_callL [(Value.pointer p24), (Value.pointer p15), (Value.int .i64 (i62))] (TF.goes_23) rfl rfl (Spec.mono hS fun v h76 hv => ?_))
       obtain ⟨b77, s78, b79, rfl, hS⟩ := hv
       refine Run.go rfl rfl rfl (sem_move ((Value.tuple #[(Value.agg #[(Value.bool b77), (Value.string s78)]), (Value.bool b79)])) rfl ?_)
       refine Run.go rfl rfl rfl (sem_extract #[(Value.agg #[(Value.bool b77), (Value.string s78)]), (Value.bool b79)] ((Value.agg #[(Value.bool b77), (Value.string s78)])) rfl rfl ?_)
       refine Run.go rfl rfl rfl (sem_extract #[(Value.agg #[(Value.bool b77), (Value.string s78)]), (Value.bool b79)] ((Value.bool b79)) rfl rfl ?_)
       refine Run.go rfl rfl rfl (sem_allocN [(Value.bool false), (Value.string ByteArray.empty)] TF.zero_41 (fun k80 hb1 hb2 h81 hb3 => ?_))
       have hS := hS k80 hb1 hb2 h81 hb3
       obtain ⟨h82, hst, hS⟩ := hS
       refine Run.go rfl rfl rfl (sem_storeN ⟨k80, 0, none⟩ [(Value.bool b77), (Value.string s78)] h82 rfl rfl TF.sz_41 hst ?_)
       refine Run.go rfl rfl rfl (sem_assign ((Value.bool b79)) rfl ?_)
       refine Run.region_end ?_
       refine Run.seq ?_
       refine Run.drawM (fun h' => h' = h82) [] ⟨[0, 0, 0, 2, 8, 20, 32, 65, 128, 256, 256, 256, 3328, 4352, 8960, 16640], [65535, 65535, 65535, 65533, 65527, 65515, 65503, 65470, 65407, 65279, 65279, 65279, 62207, 61183, 56575, 48895], [0, 0, 0, 0, 0, 0, 0, 0, 0, 0, 0, 0, 0, 0, 0, 0], 0⟩ (.q 0 (.q 1 (.q 2 (.q 3 (.q 4 (.q 5 (.q 6 (.q 7 (.q 8 (.q 9 (.q 10 (.q 11 (.q 12 (.q 13 (.q 14 (.q 15 .nil)))))))))))))))) TF.mixed (by kernel_rfl) rfl ?_
       obtain ⟨b83, s84, hl, hS⟩ := hS
       refine RunT.quiet rfl rfl rfl (quiet_eq (sem_loadN ⟨k73, 0, none⟩ [(Value.bool b83), (Value.string s84)] rfl TF.agg_41 TF.sz_41 hl ⟨rfl, rfl⟩)) ?_
       refine RunT.quiet rfl rfl rfl (quiet_eq (sem_move ((Value.pointer p17)) rfl ⟨rfl, rfl⟩)) ?_
       refine RunT.quiet rfl rfl rfl (quiet_eq (sem_move ((Value.int .i64 (i62))) rfl ⟨rfl, rfl⟩)) ?_
       obtain ⟨A85, e86, hS⟩ := hS
       refine RunT.quiet rfl rfl rfl (quiet_eq (sem_nilCheck A85 (congrArg Value.pointer e86) ⟨rfl, rfl⟩)) ?_
       refine RunT.quiet rfl rfl rfl (quiet_eq (sem_fieldAddr A85 12 rfl TF.fld_86_1 ⟨rfl, rfl⟩)) ?_
       obtain ⟨hi0, hi1, hS⟩ := hS
       refine RunT.quiet rfl rfl rfl (quiet_eq (sem_indexAddrA (Addr.add A85 12) .i64 (i62) rfl rfl TF.arr_77 hi0 hi1 ⟨rfl, rfl⟩)) ?_
       obtain ⟨b87, s88, hl, hS⟩ := hS
       refine RunT.quiet rfl rfl rfl (quiet_eq (sem_loadN (Addr.add (Addr.add A85 12) (Int.toNat (i62) * 2)) [(Value.bool b87), (Value.string s88)] rfl TF.agg_76 TF.sz_76 hl ⟨rfl, rfl⟩)) ?_
       obtain ⟨hT, hF⟩ := hS
       by_cases hb89 : eqL [(Value.bool b83), (Value.string s84)] [(Value.bool b87), (Value.string s88)] = true
       ·have hS := hT hb89; clear hT hF
        refine RunT.quiet rfl rfl rfl (quiet_eq (sem_aggEq [(Value.bool b83), (Value.string s84)] [(Value.bool b87), (Value.string s88)] _ (false) (.inr rfl) rfl rfl TF.agg_76 TF.flat_76 TF.eqg_76 ⟨⟨_, rfl⟩, ⟨_, rfl⟩, trivial⟩ ⟨⟨_, rfl⟩, ⟨_, rfl⟩, trivial⟩ (eqLT_neq hb89) ⟨rfl, rfl⟩)) ?_
        refine RunT.quiet rfl rfl rfl (quiet_eq (sem_move ((Value.bool false)) rfl ⟨rfl, rfl⟩)) ?_
        obtain ⟨b90, s91, hl, hS⟩ := hS
        refine RunT.quiet rfl rfl rfl (quiet_eq (sem_loadN ⟨k80, 0, none⟩ [(Value.bool b90), (Value.string s91)] rfl TF.agg_41 TF.sz_41 hl ⟨rfl, rfl⟩)) ?_
        refine RunT.quiet rfl rfl rfl (quiet_eq (sem_move ((Value.int .i64 (i62))) rfl ⟨rfl, rfl⟩)) ?_
        refine RunT.quiet rfl rfl rfl (quiet_eq (sem_fieldAddr ⟨k57, 0, none⟩ 12 rfl TF.fld_86_1 ⟨rfl, rfl⟩)) ?_
        obtain ⟨hi0, hi1, hS⟩ := hS
        refine RunT.quiet rfl rfl rfl (quiet_eq (sem_indexAddrA ⟨k57, 12, none⟩ .i64 (i62) rfl rfl TF.arr_77 hi0 hi1 ⟨rfl, rfl⟩)) ?_
        obtain ⟨b92, s93, hl, hS⟩ := hS
        refine RunT.quiet rfl rfl rfl (quiet_eq (sem_loadN (Addr.add ⟨k57, 12, none⟩ (Int.toNat (i62) * 2)) [(Value.bool b92), (Value.string s93)] rfl TF.agg_76 TF.sz_76 hl ⟨rfl, rfl⟩)) ?_
        obtain ⟨hT, hF⟩ := hS
        by_cases hb94 : eqL [(Value.bool b90), (Value.string s91)] [(Value.bool b92), (Value.string s93)] = true
        ·have hS := hT hb94; clear hT hF
         refine RunT.quiet rfl rfl rfl (quiet_eq (sem_aggEq [(Value.bool b90), (Value.string s91)] [(Value.bool b92), (Value.string s93)] _ (false) (.inr rfl) rfl rfl TF.agg_76 TF.flat_76 TF.eqg_76 ⟨⟨_, rfl⟩, ⟨_, rfl⟩, trivial⟩ ⟨⟨_, rfl⟩, ⟨_, rfl⟩, trivial⟩ (eqLT_neq hb94) ⟨rfl, rfl⟩)) ?_
         refine RunT.quiet rfl rfl rfl (quiet_eq (sem_pick false ((Value.bool false)) rfl rfl ⟨rfl, rfl⟩)) ?_
         refine Run.condF rfl ?_
         refine Run.skip ?_
         refine Run.inBlock ?_
         refine Run.ops0 (idx := [0, 1]) rfl ?_
         refine Run.go rfl rfl rfl (sem_binI .i64 (i62) (1) ((Value.int .i64 (IntKind.wrap .i64 ((i62) + (1))))) rfl rfl rfl ?_)
         refine Run.go rfl rfl rfl (sem_move ((Value.int .i64 (IntKind.wrap .i64 ((i62) + (1))))) rfl ?_)
         refine Run.region_end ?_
         exact Run.of_fin (hS.imp fun h' ⟨m', hm, hS⟩ => ih66 ((IntKind.wrap .i64 ((i62) + (1))), m') _ _ ⟨hS, ⟨rfl, rfl, rfl, rfl, rfl, rfl, trivial⟩⟩ hm)
        ·have hS := hF hb94; clear hT hF
         refine RunT.quiet rfl rfl rfl (quiet_eq (sem_aggEq [(Value.bool b90), (Value.string s91)] [(Value.bool b92), (Value.string s93)] _ (true) (.inr rfl) rfl rfl TF.agg_76 TF.flat_76 TF.eqg_76 ⟨⟨_, rfl⟩, ⟨_, rfl⟩, trivial⟩ ⟨⟨_, rfl⟩, ⟨_, rfl⟩, trivial⟩ (eqLF_neq hb94) ⟨rfl, rfl⟩)) ?_
         refine RunT.quiet rfl rfl rfl (quiet_eq (sem_pick false ((Value.bool true)) rfl rfl ⟨rfl, rfl⟩)) ?_
         refine Run.condT rfl ?_
         refine Run.seq ?_
         refine Run.ops0 (idx := [0]) rfl ?_
         refine Run.go rfl rfl rfl (sem_assign ((Value.bool false)) rfl ?_)
         refine Run.region_end ?_
         refine Run.ret ⟨.inr rfl, ?_⟩
         exact hS.imp fun h' hq => ⟨(false), rfl, hq⟩
       ·have hS := hF hb89; clear hT hF
        refine RunT.quiet rfl rfl rfl (quiet_eq (sem_aggEq [(Value.bool b83), (Value.string s84)] [(Value.bool b87), (Value.string s88)] _ (true) (.inr rfl) rfl rfl TF.agg_76 TF.flat_76 TF.eqg_76 ⟨⟨_, rfl⟩, ⟨_, rfl⟩, trivial⟩ ⟨⟨_, rfl⟩, ⟨_, rfl⟩, trivial⟩ (eqLF_neq hb89) ⟨rfl, rfl⟩)) ?_
        refine RunT.quiet rfl rfl rfl (quiet_eq (sem_move ((Value.bool true)) rfl ⟨rfl, rfl⟩)) ?_
        refine RunT.skip rfl rfl rfl ?_
        refine RunT.skip rfl rfl rfl ?_
        refine RunT.skip rfl rfl rfl ?_
        refine RunT.skip rfl rfl rfl ?_
        refine RunT.skip rfl rfl rfl ?_
        refine RunT.skip rfl rfl rfl ?_
        refine RunT.quiet rfl rfl rfl (quiet_eq (sem_pick true ((Value.bool true)) rfl rfl ⟨rfl, rfl⟩)) ?_
        refine Run.condT rfl ?_
        refine Run.seq ?_
        refine Run.ops0 (idx := [0]) rfl ?_
        refine Run.go rfl rfl rfl (sem_assign ((Value.bool false)) rfl ?_)
        refine Run.region_end ?_
        refine Run.ret ⟨.inr rfl, ?_⟩
        exact hS.imp fun h' hq => ⟨(false), rfl, hq⟩
      ·have hS := hF hb68; clear hT hF
       refine Run.go rfl rfl rfl (sem_binI .i64 (i62) (6) (.bool false) rfl rfl (binI_lss_f hb68) ?_)
       refine Run.region_end ?_
       refine Run.seq ?_
       refine Run.condF rfl ?_
       refine Run.exit rfl ?_
       refine Run.seq ?_
       refine Run.ops0 (idx := [0]) rfl ?_
       refine Run.go rfl rfl rfl (sem_assign ((Value.bool true)) rfl ?_)
       refine Run.region_end ?_
       refine Run.ret ⟨.inr rfl, ?_⟩
       exact hS.imp fun h' hq => ⟨(true), rfl, hq⟩
     refine Run.seq ?_
     refine Run.ops0 (idx := [0, 1, 2]) rfl ?_
     refine Run.go rfl rfl rfl (sem_move ((Value.slice a5 n6 c7)) rfl ?_)
     refine Run.go rfl rfl rfl (sem_lenSl a5 n6 c7 rfl TF.sl_79 ?_)
     refine Run.go rfl rfl rfl (sem_move ((Value.int .i64 (0))) rfl ?_)
     refine Run.region_end ?_
     refine Run.block ?_
     obtain ⟨J100, m98, h0, hS⟩ := hS
     refine Run.of_fin (h0.imp fun h' h0 => ?_)
     refine Run.loop (σ := Int × Nat) (fun x e h => J100 x.1 x.2 h ∧ Agree [(7, (Value.pointer p15)), (8, (Value.pointer p16)), (9, (Value.pointer p17)), (13, (Value.pointer p24)), (14, (Value.pointer (some ⟨k57, 0, none⟩))), (60, (Value.slice a5 n6 c7)), (61, (Value.int .i64 ((n6 : Nat)))), (62, (Value.int .i64 (x.1)))] e) (fun x => x.2) ((0), m98) ⟨h0, ⟨rfl, rfl, rfl, rfl, rfl, rfl, rfl, rfl, trivial⟩⟩ ?_; clear h0
     rintro ⟨i95, m97⟩ e h96 ⟨hJ, hag⟩ ih99
     have hS := hS i95 m97 h96 hJ; clear hJ
     refine Run.env hag ?_; clear hag
     refine Run.seq ?_
     refine Run.ops0 (idx := [0]) rfl ?_
     obtain ⟨hT, hF⟩ := hS
     by_cases hb101 : (i95 : Int) < ((n6 : Nat))
     ·have hS := hT hb101; clear hT hF
      refine Run.go rfl rfl rfl (sem_binI .i64 (i95) ((n6 : Nat)) (.bool true) rfl rfl (binI_lss_t hb101) ?_)
      refine Run.region_end ?_
      refine Run.seq ?_
      refine Run.condT rfl ?_
      refine Run.skip ?_
      refine Run.seq ?_
      refine Run.block ?_
      refine Run.seq ?_
      refine Run.ops0 (idx := [0, 1, 2, 3]) rfl ?_
      obtain ⟨A102, e103, hi0, hi1, hS⟩ := hS
      refine Run.go rfl rfl rfl (sem_indexAddrS A102 n6 c7 .i64 (i95) (congrArg (fun a => Value.slice a n6 c7) e103) rfl TF.slc_79 hi0 hi1 ?_)
      obtain ⟨i104, i105, i106, i107, hl, hS⟩ := hS
      refine Run.go rfl rfl rfl (sem_loadN (Addr.add A102 (Int.toNat (i95) * 4)) [(Value.int .i64 (i104)), (Value.int .i64 (i105)), (Value.int .i64 (i106)), (Value.int .u8 (i107))] rfl TF.agg_81 TF.sz_81 hl ?_)
      refine Run.go rfl rfl rfl (sem_allocN [(Value.int .i64 (0)), (Value.int .i64 (0)), (Value.int .i64 (0)), (Value.int .u8 (0))] TF.zero_81 (fun k108 hb1 hb2 h109 hb3 => ?_))
      have hS := hS k108 hb1 hb2 h109 hb3
      obtain ⟨h110, hst, hS⟩ := hS
      refine Run.go rfl rfl rfl (sem_storeN ⟨k108, 0, none⟩ [(Value.int .i64 (i104)), (Value.int .i64 (i105)), (Value.int .i64 (i106)), (Value.int .u8 (i107))] h110 rfl rfl TF.sz_81 hst ?_)
      refine Run.region_end ?_
      refine Run.seq ?_
      refine Run.ops0 (idx := [0, 1, 2, 3, 4]) rfl ?_
      refine Run.go rfl rfl rfl (sem_move ((Value.pointer p15)) rfl ?_)
      refine Run.go rfl rfl rfl (sem_move ((Value.pointer p24)) rfl ?_)
      obtain ⟨i111, i112, i113, i114, hl, hS⟩ := hS
      refine Run.go rfl rfl rfl (sem_loadN ⟨k108, 0, none⟩ [(Value.int .i64 (i111)), (Value.int .i64 (i112)), (Value.int .i64 (i113)), (Value.int .u8 (i114))] rfl TF.agg_81 TF.sz_81 hl ?_)
      refine Run.go rfl rfl rfl (sem_callL [(Value.pointer p15), (Value.pointer p24), (Value.pointer (some ⟨k57, 0, none⟩)), (Value.agg #[(Value.int .i64 (i111)), (Value.int .i64 (i112)), (Value.int .i64 (i113)), (Value.int .u8 (i114))])] (TF.goes_46) rfl rfl (Spec.mono hS fun v h115 hv => ?_))
      obtain ⟨b116, rfl, hS⟩ := hv
      obtain ⟨hT, hF⟩ := hS
      cases b116
      ·have hS := hF rfl; clear hT hF
       refine Run.go rfl rfl rfl (sem_not false rfl ?_)
       refine Run.region_end ?_
       refine Run.condT rfl ?_
       refine Run.seq ?_
       refine Run.ops0 (idx := [0]) rfl ?_
       refine Run.go rfl rfl rfl (sem_assign ((Value.bool false)) rfl ?_)
       refine Run.region_end ?_
       refine Run.ret ⟨.inr rfl, ?_⟩
       exact hS.imp fun h' hq => ⟨(false), rfl, hq⟩
      ·have hS := hT rfl; clear hT hF
       refine Run.go rfl rfl rfl (sem_not true rfl ?_)
       refine Run.region_end ?_
       refine Run.condF rfl ?_
       refine Run.skip ?_
       refine Run.inBlock ?_
       refine Run.ops0 (idx := [0, 1]) rfl ?_
       refine Run.go rfl rfl rfl (sem_binI .i64 (i95) (1) ((Value.int .i64 (IntKind.wrap .i64 ((i95) + (1))))) rfl rfl rfl ?_)
       refine Run.go rfl rfl rfl (sem_move ((Value.int .i64 (IntKind.wrap .i64 ((i95) + (1))))) rfl ?_)
       refine Run.region_end ?_
       exact Run.of_fin (hS.imp fun h' ⟨m', hm, hS⟩ => ih99 ((IntKind.wrap .i64 ((i95) + (1))), m') _ _ ⟨hS, ⟨rfl, rfl, rfl, rfl, rfl, rfl, rfl, rfl, trivial⟩⟩ hm)
     ·have hS := hF hb101; clear hT hF
      refine Run.go rfl rfl rfl (sem_binI .i64 (i95) ((n6 : Nat)) (.bool false) rfl rfl (binI_lss_f hb101) ?_)
      refine Run.region_end ?_
      refine Run.seq ?_
      refine Run.condF rfl ?_
      refine Run.exit rfl ?_
      exact Run.of_fin (hS.imp fun h' hS => j60 _ _ ⟨⟨rfl, rfl, rfl, rfl, rfl, trivial⟩, hS⟩)
    refine Run.seq ?_
    refine Run.ops0 (idx := [0, 1, 2]) rfl ?_
    refine Run.go rfl rfl rfl (sem_move ((Value.slice a2 n3 c4)) rfl ?_)
    refine Run.go rfl rfl rfl (sem_lenSl a2 n3 c4 rfl TF.sl_79 ?_)
    refine Run.go rfl rfl rfl (sem_move ((Value.int .i64 (0))) rfl ?_)
    refine Run.region_end ?_
    refine Run.block ?_
    obtain ⟨J122, m120, h0, hS⟩ := hS
    refine Run.of_fin (h0.imp fun h' h0 => ?_)
    refine Run.loop (σ := Int × Nat) (fun x e h => J122 x.1 x.2 h ∧ Agree [(2, (Value.slice a5 n6 c7)), (7, (Value.pointer p15)), (8, (Value.pointer p16)), (9, (Value.pointer p17)), (43, (Value.slice a2 n3 c4)), (44, (Value.int .i64 ((n3 : Nat)))), (45, (Value.int .i64 (x.1)))] e) (fun x => x.2) ((0), m120) ⟨h0, ⟨rfl, rfl, rfl, rfl, rfl, rfl, rfl, trivial⟩⟩ ?_; clear h0
    rintro ⟨i117, m119⟩ e h118 ⟨hJ, hag⟩ ih121
    have hS := hS i117 m119 h118 hJ; clear hJ
    refine Run.env hag ?_; clear hag
    refine Run.seq ?_
    refine Run.ops0 (idx := [0]) rfl ?_
    obtain ⟨hT, hF⟩ := hS
    by_cases hb123 : (i117 : Int) < ((n3 : Nat))
    ·have hS := hT hb123; clear hT hF
     refine Run.go rfl rfl rfl (sem_binI .i64 (i117) ((n3 : Nat)) (.bool true) rfl rfl (binI_lss_t hb123) ?_)
     refine Run.region_end ?_
     refine Run.seq ?_
     refine Run.condT rfl ?_
     refine Run.skip ?_
     refine Run.seq ?_
     refine Run.block ?_
     refine Run.seq ?_
     refine Run.ops0 (idx := [0, 1, 2, 3]) rfl ?_
     obtain ⟨A124, e125, hi0, hi1, hS⟩ := hS
     refine Run.go rfl rfl rfl (sem_indexAddrS A124 n3 c4 .i64 (i117) (congrArg (fun a => Value.slice a n3 c4) e125) rfl TF.slc_79 hi0 hi1 ?_)
     obtain ⟨i126, i127, i128, i129, hl, hS⟩ := hS
     refine Run.go rfl rfl rfl (sem_loadN (Addr.add A124 (Int.toNat (i117) * 4)) [(Value.int .i64 (i126)), (Value.int .i64 (i127)), (Value.int .i64 (i128)), (Value.int .u8 (i129))] rfl TF.agg_81 TF.sz_81 hl ?_)
     refine Run.go rfl rfl rfl (sem_allocN [(Value.int .i64 (0)), (Value.int .i64 (0)), (Value.int .i64 (0)), (Value.int .u8 (0))] TF.zero_81 (fun k130 hb1 hb2 h131 hb3 => ?_))
     have hS := hS k130 hb1 hb2 h131 hb3
     obtain ⟨h132, hst, hS⟩ := hS
     refine Run.go rfl rfl rfl (sem_storeN ⟨k130, 0, none⟩ [(Value.int .i64 (i126)), (Value.int .i64 (i127)), (Value.int .i64 (i128)), (Value.int .u8 (i129))] h132 rfl rfl TF.sz_81 hst ?_)
     refine Run.region_end ?_
     refine Run.ops0 (idx := [0, 1, 2, 3, 4]) rfl ?_
     refine Run.go rfl rfl rfl (sem_move ((Value.pointer p15)) rfl ?_)
     refine Run.go rfl rfl rfl (sem_move ((Value.pointer p16)) rfl ?_)
     refine Run.go rfl rfl rfl (sem_move ((Value.pointer p17)) rfl ?_)
     obtain ⟨i133, i134, i135, i136, hl, hS⟩ := hS
     refine Run.go rfl rfl rfl (sem_loadN ⟨k130, 0, none⟩ [(Value.int .i64 (i133)), (Value.int .i64 (i134)), (Value.int .i64 (i135)), (Value.int .u8 (i136))] rfl TF.agg_81 TF.sz_81 hl ?_)
     refine Run.go rfl rfl rfl (sem_callL [(Value.pointer p15), (Value.pointer p16), (Value.pointer p17), (Value.agg #[(Value.int .i64 (i133)), (Value.int .i64 (i134)), (Value.int .i64 (i135)), (Value.int .u8 (i136))])] (TF.goes_46) rfl rfl (Spec.mono hS fun v h137 hv => ?_))
     obtain ⟨b138, rfl, hS⟩ := hv
     refine Run.region_end ?_
     refine Run.inBlock ?_
     refine Run.ops0 (idx := [0, 1]) rfl ?_
     refine Run.go rfl rfl rfl (sem_binI .i64 (i117) (1) ((Value.int .i64 (IntKind.wrap .i64 ((i117) + (1))))) rfl rfl rfl ?_)
     refine Run.go rfl rfl rfl (sem_move ((Value.int .i64 (IntKind.wrap .i64 ((i117) + (1))))) rfl ?_)
     refine Run.region_end ?_
     exact Run.of_fin (hS.imp fun h' ⟨m', hm, hS⟩ => ih121 ((IntKind.wrap .i64 ((i117) + (1))), m') _ _ ⟨hS, ⟨rfl, rfl, rfl, rfl, rfl, rfl, rfl, trivial⟩⟩ hm)
    ·have hS := hF hb123; clear hT hF
     refine Run.go rfl rfl rfl (sem_binI .i64 (i117) ((n3 : Nat)) (.bool false) rfl rfl (binI_lss_f hb123) ?_)
     refine Run.region_end ?_
     refine Run.seq ?_
     refine Run.condF rfl ?_
     refine Run.exit rfl ?_
     exact Run.of_fin (hS.imp fun h' hS => j21 _ _ ⟨⟨rfl, rfl, rfl, rfl, trivial⟩, hS⟩)
   refine Run.seq ?_
   refine Run.ops0 (idx := [0, 1, 2, 3, 4, 5, 6, 7, 8, 9, 10, 11]) rfl ?_
   refine Run.go rfl rfl rfl (sem_move ((Value.bool false)) rfl ?_)
   refine Run.go rfl rfl rfl (sem_not false rfl ?_)
   refine Run.go rfl rfl rfl (sem_move ((Value.bool true)) rfl ?_)
   refine Run.no rfl rfl rfl ?_
   refine Run.no rfl rfl rfl ?_
   refine Run.no rfl rfl rfl ?_
   refine Run.go rfl rfl rfl (sem_pick true ((Value.bool true)) rfl rfl ?_)
   refine Run.go rfl rfl rfl (sem_move ((Value.bool true)) rfl ?_)
   refine Run.no rfl rfl rfl ?_
   refine Run.no rfl rfl rfl ?_
   refine Run.no rfl rfl rfl ?_
   refine Run.go rfl rfl rfl (sem_pick true ((Value.bool true)) rfl rfl ?_)
   refine Run.region_end ?_
   refine Run.condT rfl ?_
   refine Run.seq ?_
   refine Run.ops0 (idx := [0]) rfl ?_
   refine Run.go rfl rfl rfl (sem_assign ((Value.bool true)) rfl ?_)
   refine Run.region_end ?_
   refine Run.ret ⟨.inr rfl, ?_⟩
   exact hS.imp fun h' hq => ⟨(true), rfl, hq⟩
  ·have hS := hT rfl; clear hT hF
   refine Run.go rfl rfl rfl (sem_extract #[(Value.pointer p15), (Value.pointer p16), (Value.pointer p17), (Value.bool true)] (.bool true) rfl rfl ?_)
   refine Run.go rfl rfl rfl (sem_assign ((Value.pointer p15)) rfl ?_)
   refine Run.go rfl rfl rfl (sem_assign ((Value.pointer p16)) rfl ?_)
   refine Run.go rfl rfl rfl (sem_assign ((Value.pointer p17)) rfl ?_)
   refine Run.go rfl rfl rfl (sem_assign ((Value.bool true)) rfl ?_)
   refine Run.region_end ?_
   refine Run.seqJ (fun e h140 => Agree [(1, (Value.slice a2 n3 c4)), (2, (Value.slice a5 n6 c7)), (7, (Value.pointer p15)), (8, (Value.pointer p16)), (9, (Value.pointer p17))] e ∧ S_countermandlaw14_SheetCopies_J4 B a2 n3 c4 a5 n6 c7 p15 p16 p17 h140 Q) ?_ fun j139 => ?_
   ·rintro e h140 ⟨hag, hS⟩
    refine Run.env hag ?_; clear hag
    refine Run.seqJ (fun e h142 => Agree [(2, (Value.slice a5 n6 c7)), (7, (Value.pointer p15)), (8, (Value.pointer p16)), (9, (Value.pointer p17))] e ∧ S_countermandlaw14_SheetCopies_J5 B a5 n6 c7 p15 p16 p17 h142 Q) ?_ fun j141 => ?_
    ·rintro e h142 ⟨hag, hS⟩
     refine Run.env hag ?_; clear hag
     refine Run.seq ?_
     refine Run.ops0 (idx := [0, 1, 2]) rfl ?_
     refine Run.go rfl rfl rfl (sem_move ((Value.pointer p16)) rfl ?_)
     refine Run.go rfl rfl rfl (sem_callL [(Value.pointer p16)] (TF.goes_47) rfl rfl (Spec.mono hS fun v h143 hv => ?_))
     obtain ⟨p144, rfl, hS⟩ := hv
     refine Run.go rfl rfl rfl (sem_assign ((Value.pointer p144)) rfl ?_)
     refine Run.region_end ?_
     refine Run.seq ?_
     refine Run.ops0 (idx := [0, 1, 2, 3, 4]) rfl ?_
     refine Run.go rfl rfl rfl (sem_move ((Value.pointer p17)) rfl ?_)
     obtain ⟨A145, e146, hS⟩ := hS
     refine Run.go rfl rfl rfl (sem_nilCheck A145 (congrArg Value.pointer e146) ?_)
     obtain ⟨b147, s148, b149, s150, b151, s152, b153, s154, b155, s156, b157, s158, b159, s160, b161, s162, b163, s164, b165, s166, b167, s168, b169, s170, b171, b172, b173, b174, b175, b176, hl, hS⟩ := hS
     refine Run.go rfl rfl rfl (sem_loadN A145 [(Value.bool b147), (Value.string s148), (Value.bool b149), (Value.string s150), (Value.bool b151), (Value.string s152), (Value.bool b153), (Value.string s154), (Value.bool b155), (Value.string s156), (Value.bool b157), (Value.string s158), (Value.bool b159), (Value.string s160), (Value.bool b161), (Value.string s162), (Value.bool b163), (Value.string s164), (Value.bool b165), (Value.string s166), (Value.bool b167), (Value.string s168), (Value.bool b169), (Value.string s170), (Value.bool b171), (Value.bool b172), (Value.bool b173), (Value.bool b174), (Value.bool b175), (Value.bool b176)] rfl TF.agg_86 TF.sz_86 hl ?_)
     refine Run.go rfl rfl rfl (sem_allocN [(Value.bool false), (Value.string ByteArray.empty), (Value.bool false), (Value.string ByteArray.empty), (Value.bool false), (Value.string ByteArray.empty), (Value.bool false), (Value.string ByteArray.empty), (Value.bool false), (Value.string ByteArray.empty), (Value.bool false), (Value.string ByteArray.empty), (Value.bool false), (Value.string ByteArray.empty), (Value.bool false), (Value.string ByteArray.empty), (Value.bool false), (Value.string ByteArray.empty), (Value.bool false), (Value.string ByteArray.empty), (Value.bool false), (Value.string ByteArray.empty), (Value.bool false), (Value.string ByteArray.empty), (Value.bool false), (Value.bool false), (Value.bool false), (Value.bool false), (Value.bool false), (Value.bool false)] TF.zero_86 (fun k177 hb1 hb2 h178 hb3 => ?_))
     have hS := hS k177 hb1 hb2 h178 hb3
     obtain ⟨h179, hst, hS⟩ := hS
     refine Run.go rfl rfl rfl (sem_storeN ⟨k177, 0, none⟩ [(Value.bool b147), (Value.string s148), (Value.bool b149), (Value.string s150), (Value.bool b151), (Value.string s152), (Value.bool b153), (Value.string s154), (Value.bool b155), (Value.string s156), (Value.bool b157), (Value.string s158), (Value.bool b159), (Value.string s160), (Value.bool b161), (Value.string s162), (Value.bool b163), (Value.string s164), (Value.bool b165), (Value.string s166), (Value.bool b167), (Value.string s168), (Value.bool b169), (Value.string s170), (Value.bool b171), (Value.bool b172), (Value.bool b173), (Value.bool b174), (Value.bool b175), (Value.bool b176)] h179 rfl rfl TF.sz_86 hst ?_)
     refine Run.region_end ?_
     refine Run.seqJ (fun e h181 => Agree [(7, (Value.pointer p15)), (8, (Value.pointer p16)), (9, (Value.pointer p17)), (13, (Value.pointer p144)), (14, (Value.pointer (some ⟨k177, 0, none⟩)))] e ∧ S_countermandlaw14_SheetCopies_J6 B p15 p16 p17 p144 k177 h181 Q) ?_ fun j180 => ?_
     ·rintro e h181 ⟨hag, hS⟩
      refine Run.env hag ?_; clear hag
      refine Run.seq ?_
      refine Run.seq ?_
      refine Run.ops0 (idx := [0]) rfl ?_
      refine Run.go rfl rfl rfl (sem_move ((Value.int .i64 (0))) rfl ?_)
      refine Run.region_end ?_
      refine Run.block ?_
      obtain ⟨J187, m185, h0, hS⟩ := hS
      refine Run.of_fin (h0.imp fun h' h0 => ?_)
      refine Run.loop (σ := Int × Nat) (fun x e h => J187 x.1 x.2 h ∧ Agree [(7, (Value.pointer p15)), (8, (Value.pointer p16)), (9, (Value.pointer p17)), (13, (Value.pointer p144)), (14, (Value.pointer (some ⟨k177, 0, none⟩))), (72, (Value.int .i64 (x.1)))] e) (fun x => x.2) ((0), m185) ⟨h0, ⟨rfl, rfl, rfl, rfl, rfl, rfl, trivial⟩⟩ ?_; clear h0
      rintro ⟨i182, m184⟩ e h183 ⟨hJ, hag⟩ ih186
      have hS := hS i182 m184 h183 hJ; clear hJ
      refine Run.env hag ?_; clear hag
      refine Run.seq ?_
      refine Run.ops0 (idx := [0]) rfl ?_
      obtain ⟨hT, hF⟩ := hS
      by_cases hb188 : (i182 : Int) < (6)
      ·have hS := hT hb188; clear hT hF
       refine Run.go rfl rfl rfl (sem_binI .i64 (i182) (6) (.bool true) rfl rfl (binI_lss_t hb188) ?_)
       refine Run.region_end ?_
       refine Run.seq ?_
       refine Run.condT rfl ?_
       refine Run.skip ?_
       refine Run.seq ?_
       refine Run.block ?_
       refine Run.seq ?_
       refine Run.ops0 (idx := [0, 1]) rfl ?_
       refine Run.go rfl rfl rfl (sem_move ((Value.int .i64 (i182))) rfl ?_)
       refine Run.go rfl rfl rfl (sem_assign ((Value.int .i64 (i182))) rfl ?_)
       refine Run.region_end ?_
       refine Run.seq ?_
       refine Run.ops0 (idx := [0, 1, 2, 3, 4, 5, 6, 7, 8, 9]) rfl ?_
       refine Run.go rfl rfl rfl (sem_move ((Value.pointer p16)) rfl ?_)
       refine Run.go rfl rfl rfl (sem_move ((Value.pointer p15)) rfl ?_)
       refine Run.go rfl rfl rfl (sem_move ((Value.int .i64 (i182))) rfl ?_)
       refine Run.go rfl rfl rfl (sem_callL [(Value.pointer p16), (Value.pointer p15), (Value.int .i64 (i182))] (TF.goes_23) rfl rfl (Spec.mono hS fun v h189 hv => ?_))
       obtain ⟨b190, s191, b192, rfl, hS⟩ := hv
       refine Run.go rfl rfl rfl (sem_move ((Value.tuple #[(Value.agg #[(Value.bool b190), (Value.string s191)]), (Value.bool b192)])) rfl ?_)
       refine Run.go rfl rfl rfl (sem_extract #[(Value.agg #[(Value.bool b190), (Value.string s191)]), (Value.bool b192)] ((Value.agg #[(Value.bool b190), (Value.string s191)])) rfl rfl ?_)
       refine Run.go rfl rfl rfl (sem_extract #[(Value.agg #[(Value.bool b190), (Value.string s191)]), (Value.bool b192)] ((Value.bool b192)) rfl rfl ?_)
       refine Run.go rfl rfl rfl (sem_allocN [(Value.bool false), (Value.string ByteArray.empty)] TF.zero_41 (fun k193 hb1 hb2 h194 hb3 => ?_))
       have hS := hS k193 hb1 hb2 h194 hb3
       obtain ⟨h195, hst, hS⟩ := hS
       refine Run.go rfl rfl rfl (sem_storeN ⟨k193, 0, none⟩ [(Value.bool b190), (Value.string s191)] h195 rfl rfl TF.sz_41 hst ?_)
       refine Run.go rfl rfl rfl (sem_assign ((Value.bool b192)) rfl ?_)
       refine Run.region_end ?_
       refine Run.seq ?_
       refine Run.ops0 (idx := [0, 1, 2, 3, 4, 5, 6, 7, 8, 9]) rfl ?_
       refine Run.go rfl rfl rfl (sem_move ((Value.pointer p144)) rfl ?_)
       refine Run.go rfl rfl rfl (sem_move ((Value.pointer p15)) rfl ?_)
       refine Run.go rfl rfl rfl (sem_move ((Value.int .i64 (i182))) rfl ?_)
       refine Run.go rfl rfl rfl (sem_callL [(Value.pointer p144), (Value.pointer p15), (Value.int .i64 (i182))] (TF.goes_23) rfl rfl (Spec.mono hS fun v h196 hv => ?_))
       obtain ⟨b197, s198, b199, rfl, hS⟩ := hv
       refine Run.go rfl rfl rfl (sem_move ((Value.tuple #[(Value.agg #[(Value.bool b197), (Value.string s198)]), (Value.bool b199)])) rfl ?_)
       refine Run.go rfl rfl rfl (sem_extract #[(Value.agg #[(Value.bool b197), (Value.string s198)]), (Value.bool b199)] ((Value.agg #[(Value.bool b197), (Value.string s198)])) rfl rfl ?_)
       refine Run.go rfl rfl rfl (sem_extract #[(Value.agg #[(Value.bool b197), (Value.string s198)]), (Value.bool b199)] ((Value.bool b199)) rfl rfl ?_)
       refine Run.go rfl rfl rfl (sem_allocN [(Value.bool false), (Value.string ByteArray.empty)] TF.zero_41 (fun k200 hb1 hb2 h201 hb3 => ?_))
       have hS := hS k200 hb1 hb2 h201 hb3
       obtain ⟨h202, hst, hS⟩ := hS
       refine Run.go rfl rfl rfl (sem_storeN ⟨k200, 0, none⟩ [(Value.bool b197), (Value.string s198)] h202 rfl rfl TF.sz_41 hst ?_)
       refine Run.go rfl rfl rfl (sem_assign ((Value.bool b199)) rfl ?_)
       refine Run.region_end ?_
       refine Run.seq ?_
       refine Run.drawM (fun h' => h' = h202) [] ⟨[0, 0, 0, 2, 8, 20, 32, 65, 128, 256, 256, 256, 3328, 4352, 8960, 16640], [65535, 65535, 65535, 65533, 65527, 65515, 65503, 65470, 65407, 65279, 65279, 65279, 62207, 61183, 56575, 48895], [0, 0, 0, 0, 0, 0, 0, 0, 0, 0, 0, 0, 0, 0, 0, 0], 0⟩ (.q 0 (.q 1 (.q 2 (.q 3 (.q 4 (.q 5 (.q 6 (.q 7 (.q 8 (.q 9 (.q 10 (.q 11 (.q 12 (.q 13 (.q 14 (.q 15 .nil)))))))))))))))) TF.mixed (by kernel_rfl) rfl ?_
       obtain ⟨b203, s204, hl, hS⟩ := hS
       refine RunT.quiet rfl rfl rfl (quiet_eq (sem_loadN ⟨k193, 0, none⟩ [(Value.bool b203), (Value.string s204)] rfl TF.agg_41 TF.sz_41 hl ⟨rfl, rfl⟩)) ?_
       refine RunT.quiet rfl rfl rfl (quiet_eq (sem_move ((Value.pointer p17)) rfl ⟨rfl, rfl⟩)) ?_
       refine RunT.quiet rfl rfl rfl (quiet_eq (sem_move ((Value.int .i64 (i182))) rfl ⟨rfl, rfl⟩)) ?_
       obtain ⟨A205, e206, hS⟩ := hS
       refine RunT.quiet rfl rfl rfl (quiet_eq (sem_nilCheck A205 (congrArg Value.pointer e206) ⟨rfl, rfl⟩)) ?_
       refine RunT.quiet rfl rfl rfl (quiet_eq (sem_fieldAddr A205 12 rfl TF.fld_86_1 ⟨rfl, rfl⟩)) ?_
       obtain ⟨hi0, hi1, hS⟩ := hS
       refine RunT.quiet rfl rfl rfl (quiet_eq (sem_indexAddrA (Addr.add A205 12) .i64 (i182) rfl rfl TF.arr_77 hi0 hi1 ⟨rfl, rfl⟩)) ?_
       obtain ⟨b207, s208, hl, hS⟩ := hS
       refine RunT.quiet rfl rfl rfl (quiet_eq (sem_loadN (Addr.add (Addr.add A205 12) (Int.toNat (i182) * 2)) [(Value.bool b207), (Value.string s208)] rfl TF.agg_76 TF.sz_76 hl ⟨rfl, rfl⟩)) ?_
       obtain ⟨hT, hF⟩ := hS
       by_cases hb209 : eqL [(Value.bool b203), (Value.string s204)] [(Value.bool b207), (Value.string s208)] = true
       ·have hS := hT hb209; clear hT hF
        refine RunT.quiet rfl rfl rfl (quiet_eq (sem_aggEq [(Value.bool b203), (Value.string s204)] [(Value.bool b207), (Value.string s208)] _ (false) (.inr rfl) rfl rfl TF.agg_76 TF.flat_76 TF.eqg_76 ⟨⟨_, rfl⟩, ⟨_, rfl⟩, trivial⟩ ⟨⟨_, rfl⟩, ⟨_, rfl⟩, trivial⟩ (eqLT_neq hb209) ⟨rfl, rfl⟩)) ?_
        refine RunT.quiet rfl rfl rfl (quiet_eq (sem_move ((Value.bool false)) rfl ⟨rfl, rfl⟩)) ?_
        obtain ⟨b210, s211, hl, hS⟩ := hS
        refine RunT.quiet rfl rfl rfl (quiet_eq (sem_loadN ⟨k200, 0, none⟩ [(Value.bool b210), (Value.string s211)] rfl TF.agg_41 TF.sz_41 hl ⟨rfl, rfl⟩)) ?_
        refine RunT.quiet rfl rfl rfl (quiet_eq (sem_move ((Value.int .i64 (i182))) rfl ⟨rfl, rfl⟩)) ?_
        refine RunT.quiet rfl rfl rfl (quiet_eq (sem_fieldAddr ⟨k177, 0, none⟩ 12 rfl TF.fld_86_1 ⟨rfl, rfl⟩)) ?_
        obtain ⟨hi0, hi1, hS⟩ := hS
        refine RunT.quiet rfl rfl rfl (quiet_eq (sem_indexAddrA ⟨k177, 12, none⟩ .i64 (i182) rfl rfl TF.arr_77 hi0 hi1 ⟨rfl, rfl⟩)) ?_
        obtain ⟨b212, s213, hl, hS⟩ := hS
        refine RunT.quiet rfl rfl rfl (quiet_eq (sem_loadN (Addr.add ⟨k177, 12, none⟩ (Int.toNat (i182) * 2)) [(Value.bool b212), (Value.string s213)] rfl TF.agg_76 TF.sz_76 hl ⟨rfl, rfl⟩)) ?_
        obtain ⟨hT, hF⟩ := hS
        by_cases hb214 : eqL [(Value.bool b210), (Value.string s211)] [(Value.bool b212), (Value.string s213)] = true
        ·have hS := hT hb214; clear hT hF
         refine RunT.quiet rfl rfl rfl (quiet_eq (sem_aggEq [(Value.bool b210), (Value.string s211)] [(Value.bool b212), (Value.string s213)] _ (false) (.inr rfl) rfl rfl TF.agg_76 TF.flat_76 TF.eqg_76 ⟨⟨_, rfl⟩, ⟨_, rfl⟩, trivial⟩ ⟨⟨_, rfl⟩, ⟨_, rfl⟩, trivial⟩ (eqLT_neq hb214) ⟨rfl, rfl⟩)) ?_
         refine RunT.quiet rfl rfl rfl (quiet_eq (sem_pick false ((Value.bool false)) rfl rfl ⟨rfl, rfl⟩)) ?_
         refine Run.condF rfl ?_
         refine Run.skip ?_
         refine Run.inBlock ?_
         refine Run.ops0 (idx := [0, 1]) rfl ?_
         refine Run.go rfl rfl rfl (sem_binI .i64 (i182) (1) ((Value.int .i64 (IntKind.wrap .i64 ((i182) + (1))))) rfl rfl rfl ?_)
         refine Run.go rfl rfl rfl (sem_move ((Value.int .i64 (IntKind.wrap .i64 ((i182) + (1))))) rfl ?_)
         refine Run.region_end ?_
         exact Run.of_fin (hS.imp fun h' ⟨m', hm, hS⟩ => ih186 ((IntKind.wrap .i64 ((i182) + (1))), m') _ _ ⟨hS, ⟨rfl, rfl, rfl, rfl, rfl, rfl, trivial⟩⟩ hm)
        ·have hS := hF hb214; clear hT hF
         refine RunT.quiet rfl rfl rfl (quiet_eq (sem_aggEq [(Value.bool b210), (Value.string s211)] [(Value.bool b212), (Value.string s213)] _ (true) (.inr rfl) rfl rfl TF.agg_76 TF.flat_76 TF.eqg_76 ⟨⟨_, rfl⟩, ⟨_, rfl⟩, trivial⟩ ⟨⟨_, rfl⟩, ⟨_, rfl⟩, trivial⟩ (eqLF_neq hb214) ⟨rfl, rfl⟩)) ?_
         refine RunT.quiet rfl rfl rfl (quiet_eq (sem_pick false ((Value.bool true)) rfl rfl ⟨rfl, rfl⟩)) ?_
         refine Run.condT rfl ?_
         refine Run.seq ?_
         refine Run.ops0 (idx := [0]) rfl ?_
         refine Run.go rfl rfl rfl (sem_assign ((Value.bool false)) rfl ?_)
         refine Run.region_end ?_
         refine Run.ret ⟨.inr rfl, ?_⟩
         exact hS.imp fun h' hq => ⟨(false), rfl, hq⟩
       ·have hS := hF hb209; clear hT hF
        refine RunT.quiet rfl rfl rfl (quiet_eq (sem_aggEq [(Value.bool b203), (Value.string s204)] [(Value.bool b207), (Value.string s208)] _ (true) (.inr rfl) rfl rfl TF.agg_76 TF.flat_76 TF.eqg_76 ⟨⟨_, rfl⟩, ⟨_, rfl⟩, trivial⟩ ⟨⟨_, rfl⟩, ⟨_, rfl⟩, trivial⟩ (eqLF_neq hb209) ⟨rfl, rfl⟩)) ?_
        refine RunT.quiet rfl rfl rfl (quiet_eq (sem_move ((Value.bool true)) rfl ⟨rfl, rfl⟩)) ?_
        refine RunT.skip rfl rfl rfl ?_
        refine RunT.skip rfl rfl rfl ?_
        refine RunT.skip rfl rfl rfl ?_
        refine RunT.skip rfl rfl rfl ?_
        refine RunT.skip rfl rfl rfl ?_
        refine RunT.skip rfl rfl rfl ?_
        refine RunT.quiet rfl rfl rfl (quiet_eq (sem_pick true ((Value.bool true)) rfl rfl ⟨rfl, rfl⟩)) ?_
        refine Run.condT rfl ?_
        refine Run.seq ?_
        refine Run.ops0 (idx := [0]) rfl ?_
        refine Run.go rfl rfl rfl (sem_assign ((Value.bool false)) rfl ?_)
        refine Run.region_end ?_
        refine Run.ret ⟨.inr rfl, ?_⟩
        exact hS.imp fun h' hq => ⟨(false), rfl, hq⟩
      ·have hS := hF hb188; clear hT hF
       refine Run.go rfl rfl rfl (sem_binI .i64 (i182) (6) (.bool false) rfl rfl (binI_lss_f hb188) ?_)
       refine Run.region_end ?_
       refine Run.seq ?_
       refine Run.condF rfl ?_
       refine Run.exit rfl ?_
       refine Run.seq ?_
       refine Run.ops0 (idx := [0]) rfl ?_
       refine Run.go rfl rfl rfl (sem_assign ((Value.bool true)) rfl ?_)
       refine Run.region_end ?_
       refine Run.ret ⟨.inr rfl, ?_⟩
       exact hS.imp fun h' hq => ⟨(true), rfl, hq⟩
     refine Run.seq ?_
     refine Run.ops0 (idx := [0, 1, 2]) rfl ?_
     refine Run.go rfl rfl rfl (sem_move ((Value.slice a5 n6 c7)) rfl ?_)
     refine Run.go rfl rfl rfl (sem_lenSl a5 n6 c7 rfl TF.sl_79 ?_)
     refine Run.go rfl rfl rfl (sem_move ((Value.int .i64 (0))) rfl ?_)
     refine Run.region_end ?_
     refine Run.block ?_
     obtain ⟨J220, m218, h0, hS⟩ := hS
     refine Run.of_fin (h0.imp fun h' h0 => ?_)
     refine Run.loop (σ := Int × Nat) (fun x e h => J220 x.1 x.2 h ∧ Agree [(7, (Value.pointer p15)), (8, (Value.pointer p16)), (9, (Value.pointer p17)), (13, (Value.pointer p144)), (14, (Value.pointer (some ⟨k177, 0, none⟩))), (60, (Value.slice a5 n6 c7)), (61, (Value.int .i64 ((n6 : Nat)))), (62, (Value.int .i64 (x.1)))] e) (fun x => x.2) ((0), m218) ⟨h0, ⟨rfl, rfl, rfl, rfl, rfl, rfl, rfl, rfl, trivial⟩⟩ ?_; clear h0
     rintro ⟨i215, m217⟩ e h216 ⟨hJ, hag⟩ ih219
     have hS := hS i215 m217 h216 hJ; clear hJ
     refine Run.env hag ?_; clear hag
     refine Run.seq ?_
     refine Run.ops0 (idx := [0]) rfl ?_
     obtain ⟨hT, hF⟩ := hS
     by_cases hb221 : (i215 : Int) < ((n6 : Nat))
     ·have hS := hT hb221; clear hT hF
      refine Run.go rfl rfl rfl (sem_binI .i64 (i215) ((n6 : Nat)) (.bool true) rfl rfl (binI_lss_t hb221) ?_)
      refine Run.region_end ?_
      refine Run.seq ?_
      refine Run.condT rfl ?_
      refine Run.skip ?_
      refine Run.seq ?_
      refine Run.block ?_
      refine Run.seq ?_
      refine Run.ops0 (idx := [0, 1, 2, 3]) rfl ?_
      obtain ⟨A222, e223, hi0, hi1, hS⟩ := hS
      refine Run.go rfl rfl rfl (sem_indexAddrS A222 n6 c7 .i64 (i215) (congrArg (fun a => Value.slice a n6 c7) e223) rfl TF.slc_79 hi0 hi1 ?_)
      obtain ⟨i224, i225, i226, i227, hl, hS⟩ := hS
      refine Run.go rfl rfl rfl (sem_loadN (Addr.add A222 (Int.toNat (i215) * 4)) [(Value.int .i64 (i224)), (Value.int .i64 (i225)), (Value.int .i64 (i226)), (Value.int .u8 (i227))] rfl TF.agg_81 TF.sz_81 hl ?_)
      refine Run.go rfl rfl rfl (sem_allocN [(Value.int .i64 (0)), (Value.int .i64 (0)), (Value.int .i64 (0)), (Value.int .u8 (0))] TF.zero_81 (fun k228 hb1 hb2 h229 hb3 => ?_))
      have hS := hS k228 hb1 hb2 h229 hb3
      obtain ⟨h230, hst, hS⟩ := hS
      refine Run.go rfl rfl rfl (sem_storeN ⟨k228, 0, none⟩ [(Value.int .i64 (i224)), (Value.int .i64 (i225)), (Value.int .i64 (i226)), (Value.int .u8 (i227))] h230 rfl rfl TF.sz_81 hst ?_)
      refine Run.region_end ?_
      refine Run.seq ?_
      refine Run.ops0 (idx := [0, 1, 2, 3, 4]) rfl ?_
      refine Run.go rfl rfl rfl (sem_move ((Value.pointer p15)) rfl ?_)
      refine Run.go rfl rfl rfl (sem_move ((Value.pointer p144)) rfl ?_)
      obtain ⟨i231, i232, i233, i234, hl, hS⟩ := hS
      refine Run.go rfl rfl rfl (sem_loadN ⟨k228, 0, none⟩ [(Value.int .i64 (i231)), (Value.int .i64 (i232)), (Value.int .i64 (i233)), (Value.int .u8 (i234))] rfl TF.agg_81 TF.sz_81 hl ?_)
      refine Run.go rfl rfl rfl (sem_callL [(Value.pointer p15), (Value.pointer p144), (Value.pointer (some ⟨k177, 0, none⟩)), (Value.agg #[(Value.int .i64 (i231)), (Value.int .i64 (i232)), (Value.int .i64 (i233)), (Value.int .u8 (i234))])] (TF.goes_46) rfl rfl (Spec.mono hS fun v h235 hv => ?_))
      obtain ⟨b236, rfl, hS⟩ := hv
      obtain ⟨hT, hF⟩ := hS
      cases b236
      ·have hS := hF rfl; clear hT hF
       refine Run.go rfl rfl rfl (sem_not false rfl ?_)
       refine Run.region_end ?_
       refine Run.condT rfl ?_
       refine Run.seq ?_
       refine Run.ops0 (idx := [0]) rfl ?_
       refine Run.go rfl rfl rfl (sem_assign ((Value.bool false)) rfl ?_)
       refine Run.region_end ?_
       refine Run.ret ⟨.inr rfl, ?_⟩
       exact hS.imp fun h' hq => ⟨(false), rfl, hq⟩
      ·have hS := hT rfl; clear hT hF
       refine Run.go rfl rfl rfl (sem_not true rfl ?_)
       refine Run.region_end ?_
       refine Run.condF rfl ?_
       refine Run.skip ?_
       refine Run.inBlock ?_
       refine Run.ops0 (idx := [0, 1]) rfl ?_
       refine Run.go rfl rfl rfl (sem_binI .i64 (i215) (1) ((Value.int .i64 (IntKind.wrap .i64 ((i215) + (1))))) rfl rfl rfl ?_)
       refine Run.go rfl rfl rfl (sem_move ((Value.int .i64 (IntKind.wrap .i64 ((i215) + (1))))) rfl ?_)
       refine Run.region_end ?_
       exact Run.of_fin (hS.imp fun h' ⟨m', hm, hS⟩ => ih219 ((IntKind.wrap .i64 ((i215) + (1))), m') _ _ ⟨hS, ⟨rfl, rfl, rfl, rfl, rfl, rfl, rfl, rfl, trivial⟩⟩ hm)
     ·have hS := hF hb221; clear hT hF
      refine Run.go rfl rfl rfl (sem_binI .i64 (i215) ((n6 : Nat)) (.bool false) rfl rfl (binI_lss_f hb221) ?_)
      refine Run.region_end ?_
      refine Run.seq ?_
      refine Run.condF rfl ?_
      refine Run.exit rfl ?_
      exact Run.of_fin (hS.imp fun h' hS => j180 _ _ ⟨⟨rfl, rfl, rfl, rfl, rfl, trivial⟩, hS⟩)
    refine Run.seq ?_
    refine Run.ops0 (idx := [0, 1, 2]) rfl ?_
    refine Run.go rfl rfl rfl (sem_move ((Value.slice a2 n3 c4)) rfl ?_)
    refine Run.go rfl rfl rfl (sem_lenSl a2 n3 c4 rfl TF.sl_79 ?_)
    refine Run.go rfl rfl rfl (sem_move ((Value.int .i64 (0))) rfl ?_)
    refine Run.region_end ?_
    refine Run.block ?_
    obtain ⟨J242, m240, h0, hS⟩ := hS
    refine Run.of_fin (h0.imp fun h' h0 => ?_)
    refine Run.loop (σ := Int × Nat) (fun x e h => J242 x.1 x.2 h ∧ Agree [(2, (Value.slice a5 n6 c7)), (7, (Value.pointer p15)), (8, (Value.pointer p16)), (9, (Value.pointer p17)), (43, (Value.slice a2 n3 c4)), (44, (Value.int .i64 ((n3 : Nat)))), (45, (Value.int .i64 (x.1)))] e) (fun x => x.2) ((0), m240) ⟨h0, ⟨rfl, rfl, rfl, rfl, rfl, rfl, rfl, trivial⟩⟩ ?_; clear h0
    rintro ⟨i237, m239⟩ e h238 ⟨hJ, hag⟩ ih241
    have hS := hS i237 m239 h238 hJ; clear hJ
    refine Run.env hag ?_; clear hag
    refine Run.seq ?_
    refine Run.ops0 (idx := [0]) rfl ?_
    obtain ⟨hT, hF⟩ := hS
    by_cases hb243 : (i237 : Int) < ((n3 : Nat))
    ·have hS := hT hb243; clear hT hF
     refine Run.go rfl rfl rfl (sem_binI .i64 (i237) ((n3 : Nat)) (.bool true) rfl rfl (binI_lss_t hb243) ?_)
     refine Run.region_end ?_
     refine Run.seq ?_
     refine Run.condT rfl ?_
     refine Run.skip ?_
     refine Run.seq ?_
     refine Run.block ?_
     refine Run.seq ?_
     refine Run.ops0 (idx := [0, 1, 2, 3]) rfl ?_
     obtain ⟨A244, e245, hi0, hi1, hS⟩ := hS
     refine Run.go rfl rfl rfl (sem_indexAddrS A244 n3 c4 .i64 (i237) (congrArg (fun a => Value.slice a n3 c4) e245) rfl TF.slc_79 hi0 hi1 ?_)
     obtain ⟨i246, i247, i248, i249, hl, hS⟩ := hS
     refine Run.go rfl rfl rfl (sem_loadN (Addr.add A244 (Int.toNat (i237) * 4)) [(Value.int .i64 (i246)), (Value.int .i64 (i247)), (Value.int .i64 (i248)), (Value.int .u8 (i249))] rfl TF.agg_81 TF.sz_81 hl ?_)
     refine Run.go rfl rfl rfl (sem_allocN [(Value.int .i64 (0)), (Value.int .i64 (0)), (Value.int .i64 (0)), (Value.int .u8 (0))] TF.zero_81 (fun k250 hb1 hb2 h251 hb3 => ?_))
     have hS := hS k250 hb1 hb2 h251 hb3
     obtain ⟨h252, hst, hS⟩ := hS
     refine Run.go rfl rfl rfl (sem_storeN ⟨k250, 0, none⟩ [(Value.int .i64 (i246)), (Value.int .i64 (i247)), (Value.int .i64 (i248)), (Value.int .u8 (i249))] h252 rfl rfl TF.sz_81 hst ?_)
     refine Run.region_end ?_
     refine Run.ops0 (idx := [0, 1, 2, 3, 4]) rfl ?_
     refine Run.go rfl rfl rfl (sem_move ((Value.pointer p15)) rfl ?_)
     refine Run.go rfl rfl rfl (sem_move ((Value.pointer p16)) rfl ?_)
     refine Run.go rfl rfl rfl (sem_move ((Value.pointer p17)) rfl ?_)
     obtain ⟨i253, i254, i255, i256, hl, hS⟩ := hS
     refine Run.go rfl rfl rfl (sem_loadN ⟨k250, 0, none⟩ [(Value.int .i64 (i253)), (Value.int .i64 (i254)), (Value.int .i64 (i255)), (Value.int .u8 (i256))] rfl TF.agg_81 TF.sz_81 hl ?_)
     refine Run.go rfl rfl rfl (sem_callL [(Value.pointer p15), (Value.pointer p16), (Value.pointer p17), (Value.agg #[(Value.int .i64 (i253)), (Value.int .i64 (i254)), (Value.int .i64 (i255)), (Value.int .u8 (i256))])] (TF.goes_46) rfl rfl (Spec.mono hS fun v h257 hv => ?_))
     obtain ⟨b258, rfl, hS⟩ := hv
     refine Run.region_end ?_
     refine Run.inBlock ?_
     refine Run.ops0 (idx := [0, 1]) rfl ?_
     refine Run.go rfl rfl rfl (sem_binI .i64 (i237) (1) ((Value.int .i64 (IntKind.wrap .i64 ((i237) + (1))))) rfl rfl rfl ?_)
     refine Run.go rfl rfl rfl (sem_move ((Value.int .i64 (IntKind.wrap .i64 ((i237) + (1))))) rfl ?_)
     refine Run.region_end ?_
     exact Run.of_fin (hS.imp fun h' ⟨m', hm, hS⟩ => ih241 ((IntKind.wrap .i64 ((i237) + (1))), m') _ _ ⟨hS, ⟨rfl, rfl, rfl, rfl, rfl, rfl, rfl, trivial⟩⟩ hm)
    ·have hS := hF hb243; clear hT hF
     refine Run.go rfl rfl rfl (sem_binI .i64 (i237) ((n3 : Nat)) (.bool false) rfl rfl (binI_lss_f hb243) ?_)
     refine Run.region_end ?_
     refine Run.seq ?_
     refine Run.condF rfl ?_
     refine Run.exit rfl ?_
     exact Run.of_fin (hS.imp fun h' hS => j141 _ _ ⟨⟨rfl, rfl, rfl, rfl, trivial⟩, hS⟩)
   refine Run.seq ?_
   refine Run.ops0 (idx := [0, 1, 2, 3, 4, 5, 6, 7, 8, 9, 10, 11]) rfl ?_
   refine Run.go rfl rfl rfl (sem_move ((Value.bool true)) rfl ?_)
   refine Run.go rfl rfl rfl (sem_not true rfl ?_)
   refine Run.go rfl rfl rfl (sem_move ((Value.bool false)) rfl ?_)
   refine Run.go rfl rfl rfl (sem_move ((Value.slice a2 n3 c4)) rfl ?_)
   refine Run.go rfl rfl rfl (sem_lenSl a2 n3 c4 rfl TF.sl_79 ?_)
   obtain ⟨hT, hF⟩ := hS
   by_cases hb259 : ((n3 : Nat) : Int) > (60)
   ·have hS := hT hb259; clear hT hF
    refine Run.go rfl rfl rfl (sem_binI .i64 ((n3 : Nat)) (60) (.bool true) rfl rfl (binI_gtr_t hb259) ?_)
    refine Run.go rfl rfl rfl (sem_pick false ((Value.bool true)) rfl rfl ?_)
    refine Run.go rfl rfl rfl (sem_move ((Value.bool true)) rfl ?_)
    refine Run.no rfl rfl rfl ?_
    refine Run.no rfl rfl rfl ?_
    refine Run.no rfl rfl rfl ?_
    refine Run.go rfl rfl rfl (sem_pick true ((Value.bool true)) rfl rfl ?_)
    refine Run.region_end ?_
    refine Run.condT rfl ?_
    refine Run.seq ?_
    refine Run.ops0 (idx := [0]) rfl ?_
    refine Run.go rfl rfl rfl (sem_assign ((Value.bool true)) rfl ?_)
    refine Run.region_end ?_
    refine Run.ret ⟨.inr rfl, ?_⟩
    exact hS.imp fun h' hq => ⟨(true), rfl, hq⟩
   ·have hS := hF hb259; clear hT hF
    refine Run.go rfl rfl rfl (sem_binI .i64 ((n3 : Nat)) (60) (.bool false) rfl rfl (binI_gtr_f hb259) ?_)
    refine Run.go rfl rfl rfl (sem_pick false ((Value.bool false)) rfl rfl ?_)
    refine Run.go rfl rfl rfl (sem_move ((Value.bool false)) rfl ?_)
    refine Run.go rfl rfl rfl (sem_move ((Value.slice a5 n6 c7)) rfl ?_)
    refine Run.go rfl rfl rfl (sem_lenSl a5 n6 c7 rfl TF.sl_79 ?_)
    obtain ⟨hT, hF⟩ := hS
    by_cases hb260 : ((n6 : Nat) : Int) > (60)
    ·have hS := hT hb260; clear hT hF
     refine Run.go rfl rfl rfl (sem_binI .i64 ((n6 : Nat)) (60) (.bool true) rfl rfl (binI_gtr_t hb260) ?_)
     refine Run.go rfl rfl rfl (sem_pick false ((Value.bool true)) rfl rfl ?_)
     refine Run.region_end ?_
     refine Run.condT rfl ?_
     refine Run.seq ?_
     refine Run.ops0 (idx := [0]) rfl ?_
     refine Run.go rfl rfl rfl (sem_assign ((Value.bool true)) rfl ?_)
     refine Run.region_end ?_
     refine Run.ret ⟨.inr rfl, ?_⟩
     exact hS.imp fun h' hq => ⟨(true), rfl, hq⟩
    ·have hS := hF hb260; clear hT hF
     refine Run.go rfl rfl rfl (sem_binI .i64 ((n6 : Nat)) (60) (.bool false) rfl rfl (binI_gtr_f hb260) ?_)
     refine Run.go rfl rfl rfl (sem_pick false ((Value.bool false)) rfl rfl ?_)
     refine Run.region_end ?_
     refine Run.condF rfl ?_
     refine Run.skip ?_
     exact Run.of_fin (hS.imp fun h' hS => j139 _ _ ⟨⟨rfl, rfl, rfl, rfl, rfl, trivial⟩, hS⟩)
set_option maxHeartbeats 4000000 in
theorem C_countermandlaw14_SheetOver.of {B : RO} {l1 : List Value} {a2 : Option Addr} {n3 : Nat} {c4 : Nat} {i5 : Int} {h : Heap} {Q : Bool → Heap → Prop} (hS : S_countermandlaw14_SheetOver B l1 a2 n3 c4 i5 h Q) : C_countermandlaw14_SheetOver B l1 a2 n3 c4 i5 h Q := by
 unfold S_countermandlaw14_SheetOver at hS
 unfold C_countermandlaw14_SheetOver
 refine Spec.of_run Try.func12 (N := 87) (rs := [ResultVar.tmp 6]) rfl rfl rfl (Nat.le_of_ble_eq_true rfl) ?_
 refine Run.seq ?_
 refine Run.ops0 (idx := [0, 1]) rfl ?_
 refine Run.go rfl rfl rfl (sem_boxNN l1 rfl (fun k7 hb1 hb2 h8 hb3 => ?_))
 have hS := hS k7 hb1 hb2 h8 hb3
 refine Run.go rfl rfl rfl (sem_assign ((Value.bool false)) rfl ?_)
 refine Run.region_end ?_
 refine Run.seq ?_
 refine Run.seq ?_
 refine Run.ops0 (idx := [0, 1]) rfl ?_
 refine Run.go rfl rfl rfl (sem_callL [] (TF.goes_42) rfl rfl (Spec.mono hS fun v h9 hv => ?_))
 obtain ⟨b10, rfl, hS⟩ := hv
 obtain ⟨hT, hF⟩ := hS
 cases b10
 ·have hS := hF rfl; clear hT hF
  refine Run.go rfl rfl rfl (sem_not false rfl ?_)
  refine Run.region_end ?_
  refine Run.condT rfl ?_
  refine Run.seq ?_
  refine Run.ops0 (idx := [0]) rfl ?_
  refine Run.go rfl rfl rfl (sem_assign ((Value.bool false)) rfl ?_)
  refine Run.region_end ?_
  refine Run.ret ⟨.inr rfl, ?_⟩
  exact hS.imp fun h' hq => ⟨(false), rfl, hq⟩
 ·have hS := hT rfl; clear hT hF
  refine Run.go rfl rfl rfl (sem_not true rfl ?_)
  refine Run.region_end ?_
  refine Run.condF rfl ?_
  refine Run.skip ?_
  refine Run.seq ?_
  refine Run.ops0 (idx := [0, 1, 2, 3, 4, 5, 6, 7, 8, 9, 10]) rfl ?_
  obtain ⟨l11, hln, hl, hS⟩ := hS
  refine Run.go rfl rfl rfl (sem_loadN ⟨k7, 0, none⟩ l11 rfl TF.agg_71 (TF.sz_71.trans (congrArg some hln.symm)) hl ?_)
  refine Run.go rfl rfl rfl (sem_callL [(Value.agg (List.toArray l11))] (TF.goes_43) rfl rfl (Spec.mono hS fun v h12 hv => ?_))
  obtain ⟨p13, p14, p15, b16, rfl, hS⟩ := hv
  refine Run.go rfl rfl rfl (sem_move ((Value.tuple #[(Value.pointer p13), (Value.pointer p14), (Value.pointer p15), (Value.bool b16)])) rfl ?_)
  refine Run.go rfl rfl rfl (sem_extract #[(Value.pointer p13), (Value.pointer p14), (Value.pointer p15), (Value.bool b16)] ((Value.pointer p13)) rfl rfl ?_)
  refine Run.go rfl rfl rfl (sem_extract #[(Value.pointer p13), (Value.pointer p14), (Value.pointer p15), (Value.bool b16)] ((Value.pointer p14)) rfl rfl ?_)
  refine Run.go rfl rfl rfl (sem_extract #[(Value.pointer p13), (Value.pointer p14), (Value.pointer p15), (Value.bool b16)] ((Value.pointer p15)) rfl rfl ?_)
  obtain ⟨hT, hF⟩ := hS
  cases b16
  ·have hS := hF rfl; clear hT hF
   refine Run.go rfl rfl rfl (sem_extract #[(Value.pointer p13), (Value.pointer p14), (Value.pointer p15), (Value.bool false)] (.bool false) rfl rfl ?_)
   refine Run.go rfl rfl rfl (sem_assign ((Value.pointer p13)) rfl ?_)
   refine Run.go rfl rfl rfl (sem_assign ((Value.pointer p14)) rfl ?_)
   refine Run.go rfl rfl rfl (sem_assign ((Value.pointer p15)) rfl ?_)
   refine Run.go rfl rfl rfl (sem_assign ((Value.bool false)) rfl ?_)
   refine Run.region_end ?_
   refine Run.seqJ (fun e h18 => Agree [(1, (Value.slice a2 n3 c4)), (2, (Value.int .i64 (i5))), (7, (Value.pointer p13)), (8, (Value.pointer p14)), (9, (Value.pointer p15))] e ∧ S_countermandlaw14_SheetOver_J1 B a2 n3 c4 i5 p13 p14 p15 h18 Q) ?_ fun j17 => ?_
   ·rintro e h18 ⟨hag, hS⟩
    refine Run.env hag ?_; clear hag
    refine Run.seqJ (fun e h20 => Agree [(2, (Value.int .i64 (i5))), (7, (Value.pointer p13)), (8, (Value.pointer p14)), (9, (Value.pointer p15))] e ∧ S_countermandlaw14_SheetOver_J2 B i5 p13 p14 p15 h20 Q) ?_ fun j19 => ?_
    ·rintro e h20 ⟨hag, hS⟩
     refine Run.env hag ?_; clear hag
     refine Run.seq ?_
     refine Run.ops0 (idx := [0, 1, 2, 3, 4]) rfl ?_
     refine Run.go rfl rfl rfl (sem_move ((Value.pointer p14)) rfl ?_)
     refine Run.go rfl rfl rfl (sem_move ((Value.pointer p13)) rfl ?_)
     refine Run.go rfl rfl rfl (sem_move ((Value.int .i64 (i5))) rfl ?_)
     refine Run.go rfl rfl rfl (sem_callL [(Value.pointer p14), (Value.pointer p13), (Value.int .i64 (i5))] (TF.goes_48) rfl rfl (Spec.mono hS fun v h21 hv => ?_))
     obtain ⟨i22, rfl, hS⟩ := hv
     refine Run.go rfl rfl rfl (sem_assign ((Value.int .i64 (i22))) rfl ?_)
     refine Run.region_end ?_
     refine Run.seq ?_
     refine Run.ops0 (idx := [0]) rfl ?_
     refine Run.go rfl rfl rfl (sem_assign ((Value.int .i64 (0))) rfl ?_)
     refine Run.region_end ?_
     refine Run.seq ?_
     refine Run.seq ?_
     refine Run.ops0 (idx := [0]) rfl ?_
     refine Run.go rfl rfl rfl (sem_move ((Value.int .i64 (0))) rfl ?_)
     refine Run.region_end ?_
     refine Run.block ?_
     obtain ⟨J29, m27, h0, hS⟩ := hS
     refine Run.of_fin (h0.imp fun h' h0 => ?_)
     refine Run.loop (σ := Int × Int × Nat) (fun x e h => J29 x.1 x.2.1 x.2.2 h ∧ Agree [(2, (Value.int .i64 (i5))), (7, (Value.pointer p13)), (9, (Value.pointer p15)), (13, (Value.int .i64 (i22))), (14, (Value.int .i64 (x.1))), (51, (Value.int .i64 (x.2.1)))] e) (fun x => x.2.2) ((0), (0), m27) ⟨h0, ⟨rfl, rfl, rfl, rfl, rfl, rfl, trivial⟩⟩ ?_; clear h0
     rintro ⟨i23, i24, m26⟩ e h25 ⟨hJ, hag⟩ ih28
     have hS := hS i23 i24 m26 h25 hJ; clear hJ
     refine Run.env hag ?_; clear hag
     refine Run.seq ?_
     refine Run.ops0 (idx := [0]) rfl ?_
     obtain ⟨hT, hF⟩ := hS
     by_cases hb30 : (i24 : Int) < (6)
     ·have hS := hT hb30; clear hT hF
      refine Run.go rfl rfl rfl (sem_binI .i64 (i24) (6) (.bool true) rfl rfl (binI_lss_t hb30) ?_)
      refine Run.region_end ?_
      refine Run.seq ?_
      refine Run.condT rfl ?_
      refine Run.skip ?_
      refine Run.seq ?_
      refine Run.block ?_
      refine Run.seq ?_
      refine Run.ops0 (idx := [0, 1]) rfl ?_
      refine Run.go rfl rfl rfl (sem_move ((Value.int .i64 (i24))) rfl ?_)
      refine Run.go rfl rfl rfl (sem_assign ((Value.int .i64 (i24))) rfl ?_)
      refine Run.region_end ?_
      refine Run.seq ?_
      refine Run.ops0 (idx := [0, 1, 2, 3, 4, 5, 6, 7, 8]) rfl ?_
      refine Run.go rfl rfl rfl (sem_move ((Value.pointer p13)) rfl ?_)
      refine Run.go rfl rfl rfl (sem_move ((Value.int .i64 (i24))) rfl ?_)
      refine Run.go rfl rfl rfl (sem_callL [(Value.pointer p13), (Value.int .i64 (i24))] (TF.goes_49) rfl rfl (Spec.mono hS fun v h31 hv => ?_))
      obtain ⟨b32, s33, i34, rfl, hS⟩ := hv
      refine Run.go rfl rfl rfl (sem_move ((Value.tuple #[(Value.agg #[(Value.bool b32), (Value.string s33)]), (Value.int .i64 (i34))])) rfl ?_)
      refine Run.go rfl rfl rfl (sem_extract #[(Value.agg #[(Value.bool b32), (Value.string s33)]), (Value.int .i64 (i34))] ((Value.agg #[(Value.bool b32), (Value.string s33)])) rfl rfl ?_)
      refine Run.go rfl rfl rfl (sem_extract #[(Value.agg #[(Value.bool b32), (Value.string s33)]), (Value.int .i64 (i34))] ((Value.int .i64 (i34))) rfl rfl ?_)
      refine Run.go rfl rfl rfl (sem_allocN [(Value.bool false), (Value.string ByteArray.empty)] TF.zero_41 (fun k35 hb1 hb2 h36 hb3 => ?_))
      have hS := hS k35 hb1 hb2 h36 hb3
      obtain ⟨h37, hst, hS⟩ := hS
      refine Run.go rfl rfl rfl (sem_storeN ⟨k35, 0, none⟩ [(Value.bool b32), (Value.string s33)] h37 rfl rfl TF.sz_41 hst ?_)
      refine Run.go rfl rfl rfl (sem_assign ((Value.int .i64 (i34))) rfl ?_)
      refine Run.region_end ?_
      refine Run.seq ?_
      refine Run.ops0 (idx := [0, 1]) rfl ?_
      refine Run.go rfl rfl rfl (sem_move ((Value.int .i64 (i24))) rfl ?_)
      refine Run.go rfl rfl rfl (sem_assign ((Value.int .i64 (i24))) rfl ?_)
      refine Run.region_end ?_
      refine Run.seqJ (fun e h41 => ∃ i39 : Int, ∃ i40 : Int, Agree [(2, (Value.int .i64 (i5))), (7, (Value.pointer p13)), (9, (Value.pointer p15)), (13, (Value.int .i64 (i22))), (14, (Value.int .i64 (i39))), (15, (Value.int .i64 (i24))), (16, (Value.pointer (some ⟨k35, 0, none⟩))), (17, (Value.int .i64 (i34))), (18, (Value.int .i64 (i40))), (51, (Value.int .i64 (i24)))] e ∧ S_countermandlaw14_SheetOver_J3 B i5 p13 p15 i22 i24 m26 J29 i34 k35 i39 i40 h41 Q) ?_ fun j38 => ?_
      ·rintro e h41 ⟨i39, i40, hag, hS⟩
       refine Run.env hag ?_; clear hag
       refine Run.seq ?_
       refine Run.drawM (fun h' => h' = h41) [] ⟨[0, 0, 0, 2, 8, 20, 32, 65, 128, 256, 256, 1792, 2304], [8191, 8191, 8191, 8189, 8183, 8171, 8159, 8126, 8063, 7935, 7935, 6399, 5887], [0, 0, 0, 0, 0, 0, 0, 0, 0, 0, 0, 0, 0], 0⟩ (.q 0 (.q 1 (.q 2 (.q 3 (.q 4 (.q 5 (.q 6 (.q 7 (.q 8 (.q 9 (.q 10 (.q 11 (.q 12 .nil))))))))))))) TF.mixed (by kernel_rfl) rfl ?_
       obtain ⟨b42, s43, hl, hS⟩ := hS
       refine RunT.quiet rfl rfl rfl (quiet_eq (sem_loadN ⟨k35, 0, none⟩ [(Value.bool b42), (Value.string s43)] rfl TF.agg_41 TF.sz_41 hl ⟨rfl, rfl⟩)) ?_
       refine RunT.quiet rfl rfl rfl (quiet_eq (sem_move ((Value.pointer p15)) rfl ⟨rfl, rfl⟩)) ?_
       refine RunT.quiet rfl rfl rfl (quiet_eq (sem_move ((Value.int .i64 (i24))) rfl ⟨rfl, rfl⟩)) ?_
       obtain ⟨A44, e45, hS⟩ := hS
       refine RunT.quiet rfl rfl rfl (quiet_eq (sem_nilCheck A44 (congrArg Value.pointer e45) ⟨rfl, rfl⟩)) ?_
       refine RunT.quiet rfl rfl rfl (quiet_eq (sem_fieldAddr A44 12 rfl TF.fld_86_1 ⟨rfl, rfl⟩)) ?_
       obtain ⟨hi0, hi1, hS⟩ := hS
       refine RunT.quiet rfl rfl rfl (quiet_eq (sem_indexAddrA (Addr.add A44 12) .i64 (i24) rfl rfl TF.arr_77 hi0 hi1 ⟨rfl, rfl⟩)) ?_
       obtain ⟨b46, s47, hl, hS⟩ := hS
       refine RunT.quiet rfl rfl rfl (quiet_eq (sem_loadN (Addr.add (Addr.add A44 12) (Int.toNat (i24) * 2)) [(Value.bool b46), (Value.string s47)] rfl TF.agg_76 TF.sz_76 hl ⟨rfl, rfl⟩)) ?_
       obtain ⟨hT, hF⟩ := hS
       by_cases hb48 : eqL [(Value.bool b42), (Value.string s43)] [(Value.bool b46), (Value.string s47)] = true
       ·have hS := hT hb48; clear hT hF
        refine RunT.quiet rfl rfl rfl (quiet_eq (sem_aggEq [(Value.bool b42), (Value.string s43)] [(Value.bool b46), (Value.string s47)] _ (false) (.inr rfl) rfl rfl TF.agg_76 TF.flat_76 TF.eqg_76 ⟨⟨_, rfl⟩, ⟨_, rfl⟩, trivial⟩ ⟨⟨_, rfl⟩, ⟨_, rfl⟩, trivial⟩ (eqLT_neq hb48) ⟨rfl, rfl⟩)) ?_
        refine RunT.quiet rfl rfl rfl (quiet_eq (sem_move ((Value.bool false)) rfl ⟨rfl, rfl⟩)) ?_
        refine RunT.quiet rfl rfl rfl (quiet_eq (sem_move ((Value.int .i64 (i34))) rfl ⟨rfl, rfl⟩)) ?_
        refine RunT.quiet rfl rfl rfl (quiet_eq (sem_move ((Value.int .i64 (i40))) rfl ⟨rfl, rfl⟩)) ?_
        obtain ⟨hT, hF⟩ := hS
        by_cases hb49 : (i34 : Int) = i40
        ·have hS := hT hb49; clear hT hF
         refine RunT.quiet rfl rfl rfl (quiet_eq (sem_binI .i64 (i34) (i40) (.bool false) rfl rfl (binI_neq_t hb49) ⟨rfl, rfl⟩)) ?_
         refine RunT.quiet rfl rfl rfl (quiet_eq (sem_pick false ((Value.bool false)) rfl rfl ⟨rfl, rfl⟩)) ?_
         refine Run.condF rfl ?_
         refine Run.skip ?_
         refine Run.inBlock ?_
         refine Run.ops0 (idx := [0, 1]) rfl ?_
         refine Run.go rfl rfl rfl (sem_binI .i64 (i24) (1) ((Value.int .i64 (IntKind.wrap .i64 ((i24) + (1))))) rfl rfl rfl ?_)
         refine Run.go rfl rfl rfl (sem_move ((Value.int .i64 (IntKind.wrap .i64 ((i24) + (1))))) rfl ?_)
         refine Run.region_end ?_
         exact Run.of_fin (hS.imp fun h' ⟨m', hm, hS⟩ => ih28 ((i39), (IntKind.wrap .i64 ((i24) + (1))), m') _ _ ⟨hS, ⟨rfl, rfl, rfl, rfl, rfl, rfl, trivial⟩⟩ hm)
        ·have hS := hF hb49; clear hT hF
         refine RunT.quiet rfl rfl rfl (quiet_eq (sem_binI .i64 (i34) (i40) (.bool true) rfl rfl (binI_neq_f hb49) ⟨rfl, rfl⟩)) ?_
         refine RunT.quiet rfl rfl rfl (quiet_eq (sem_pick false ((Value.bool true)) rfl rfl ⟨rfl, rfl⟩)) ?_
         refine Run.condT rfl ?_
         refine Run.seq ?_
         refine Run.ops0 (idx := [0]) rfl ?_
         refine Run.go rfl rfl rfl (sem_assign ((Value.bool false)) rfl ?_)
         refine Run.region_end ?_
         refine Run.ret ⟨.inr rfl, ?_⟩
         exact hS.imp fun h' hq => ⟨(false), rfl, hq⟩
       ·have hS := hF hb48; clear hT hF
        refine RunT.quiet rfl rfl rfl (quiet_eq (sem_aggEq [(Value.bool b42), (Value.string s43)] [(Value.bool b46), (Value.string s47)] _ (true) (.inr rfl) rfl rfl TF.agg_76 TF.flat_76 TF.eqg_76 ⟨⟨_, rfl⟩, ⟨_, rfl⟩, trivial⟩ ⟨⟨_, rfl⟩, ⟨_, rfl⟩, trivial⟩ (eqLF_neq hb48) ⟨rfl, rfl⟩)) ?_
        refine RunT.quiet rfl rfl rfl (quiet_eq (sem_move ((Value.bool true)) rfl ⟨rfl, rfl⟩)) ?_
        refine RunT.skip rfl rfl rfl ?_
        refine RunT.skip rfl rfl rfl ?_
        refine RunT.skip rfl rfl rfl ?_
        refine RunT.quiet rfl rfl rfl (quiet_eq (sem_pick true ((Value.bool true)) rfl rfl ⟨rfl, rfl⟩)) ?_
        refine Run.condT rfl ?_
        refine Run.seq ?_
        refine Run.ops0 (idx := [0]) rfl ?_
        refine Run.go rfl rfl rfl (sem_assign ((Value.bool false)) rfl ?_)
        refine Run.region_end ?_
        refine Run.ret ⟨.inr rfl, ?_⟩
        exact hS.imp fun h' hq => ⟨(false), rfl, hq⟩
      refine Run.seq ?_
      refine Run.ops0 (idx := [0, 1, 2, 3, 4, 5]) rfl ?_
      refine Run.go rfl rfl rfl (sem_move ((Value.pointer p15)) rfl ?_)
      refine Run.go rfl rfl rfl (sem_move ((Value.int .i64 (i24))) rfl ?_)
      obtain ⟨A50, e51, hS⟩ := hS
      refine Run.go rfl rfl rfl (sem_nilCheck A50 (congrArg Value.pointer e51) ?_)
      refine Run.go rfl rfl rfl (sem_fieldAddr A50 24 rfl TF.fld_86_2 ?_)
      obtain ⟨hi0, hi1, hS⟩ := hS
      refine Run.go rfl rfl rfl (sem_indexAddrA (Addr.add A50 24) .i64 (i24) rfl rfl TF.arr_84 hi0 hi1 ?_)
      obtain ⟨b52, hl, hS⟩ := hS
      obtain ⟨hT, hF⟩ := hS
      cases b52
      ·have hS := hF rfl; clear hT hF
       refine Run.go rfl rfl rfl (sem_load1 (Addr.add (Addr.add A50 24) (Int.toNat (i24) * 1)) (.bool false) rfl TF.agg_4 hl ?_)
       refine Run.region_end ?_
       refine Run.condF rfl ?_
       refine Run.skip ?_
       exact Run.of_fin (hS.imp fun h' hS => j38 _ _ ⟨(i23), (i24), ⟨rfl, rfl, rfl, rfl, rfl, rfl, rfl, rfl, rfl, rfl, trivial⟩, hS⟩)
      ·have hS := hT rfl; clear hT hF
       refine Run.go rfl rfl rfl (sem_load1 (Addr.add (Addr.add A50 24) (Int.toNat (i24) * 1)) (.bool true) rfl TF.agg_4 hl ?_)
       refine Run.region_end ?_
       refine Run.condT rfl ?_
       refine Run.seq ?_
       refine Run.ops0 (idx := [0, 1]) rfl ?_
       refine Run.go rfl rfl rfl (sem_move ((Value.int .i64 (i5))) rfl ?_)
       refine Run.go rfl rfl rfl (sem_assign ((Value.int .i64 (i5))) rfl ?_)
       refine Run.region_end ?_
       refine Run.ops0 (idx := [0, 1, 2]) rfl ?_
       refine Run.go rfl rfl rfl (sem_move ((Value.int .i64 (i23))) rfl ?_)
       refine Run.go rfl rfl rfl (sem_binI .i64 (i23) (1) ((Value.int .i64 (IntKind.wrap .i64 ((i23) + (1))))) rfl rfl rfl ?_)
       refine Run.go rfl rfl rfl (sem_assign ((Value.int .i64 (IntKind.wrap .i64 ((i23) + (1))))) rfl ?_)
       refine Run.region_end ?_
       exact Run.of_fin (hS.imp fun h' hS => j38 _ _ ⟨(IntKind.wrap .i64 ((i23) + (1))), (i5), ⟨rfl, rfl, rfl, rfl, rfl, rfl, rfl, rfl, rfl, rfl, trivial⟩, hS⟩)
     ·have hS := hF hb30; clear hT hF
      refine Run.go rfl rfl rfl (sem_binI .i64 (i24) (6) (.bool false) rfl rfl (binI_lss_f hb30) ?_)
      refine Run.region_end ?_
      refine Run.seq ?_
      refine Run.condF rfl ?_
      refine Run.exit rfl ?_
      refine Run.seq ?_
      refine Run.ops0 (idx := [0, 1, 2, 3]) rfl ?_
      refine Run.go rfl rfl rfl (sem_move ((Value.int .i64 (i22))) rfl ?_)
      refine Run.go rfl rfl rfl (sem_move ((Value.int .i64 (i23))) rfl ?_)
      refine Run.go rfl rfl rfl (sem_binI .i64 (i22) (i23) ((Value.bool ((i22 : Int) == (i23)))) rfl rfl rfl ?_)
      refine Run.go rfl rfl rfl (sem_assign ((Value.bool ((i22 : Int) == (i23)))) rfl ?_)
      refine Run.region_end ?_
      refine Run.ret ⟨.inr rfl, ?_⟩
      exact hS.imp fun h' hq => ⟨(((i22 : Int) == (i23))), rfl, hq⟩
    refine Run.seq ?_
    refine Run.ops0 (idx := [0, 1, 2]) rfl ?_
    refine Run.go rfl rfl rfl (sem_move ((Value.slice a2 n3 c4)) rfl ?_)
    refine Run.go rfl rfl rfl (sem_lenSl a2 n3 c4 rfl TF.sl_79 ?_)
    refine Run.go rfl rfl rfl (sem_move ((Value.int .i64 (0))) rfl ?_)
    refine Run.region_end ?_
    refine Run.block ?_
    obtain ⟨J58, m56, h0, hS⟩ := hS
    refine Run.of_fin (h0.imp fun h' h0 => ?_)
    refine Run.loop (σ := Int × Nat) (fun x e h => J58 x.1 x.2 h ∧ Agree [(2, (Value.int .i64 (i5))), (7, (Value.pointer p13)), (8, (Value.pointer p14)), (9, (Value.pointer p15)), (35, (Value.slice a2 n3 c4)), (36, (Value.int .i64 ((n3 : Nat)))), (37, (Value.int .i64 (x.1)))] e) (fun x => x.2) ((0), m56) ⟨h0, ⟨rfl, rfl, rfl, rfl, rfl, rfl, rfl, trivial⟩⟩ ?_; clear h0
    rintro ⟨i53, m55⟩ e h54 ⟨hJ, hag⟩ ih57
    have hS := hS i53 m55 h54 hJ; clear hJ
    refine Run.env hag ?_; clear hag
    refine Run.seq ?_
    refine Run.ops0 (idx := [0]) rfl ?_
    obtain ⟨hT, hF⟩ := hS
    by_cases hb59 : (i53 : Int) < ((n3 : Nat))
    ·have hS := hT hb59; clear hT hF
     refine Run.go rfl rfl rfl (sem_binI .i64 (i53) ((n3 : Nat)) (.bool true) rfl rfl (binI_lss_t hb59) ?_)
     refine Run.region_end ?_
     refine Run.seq ?_
     refine Run.condT rfl ?_
     refine Run.skip ?_
     refine Run.seq ?_
     refine Run.block ?_
     refine Run.seq ?_
     refine Run.ops0 (idx := [0, 1, 2, 3]) rfl ?_
     obtain ⟨A60, e61, hi0, hi1, hS⟩ := hS
     refine Run.go rfl rfl rfl (sem_indexAddrS A60 n3 c4 .i64 (i53) (congrArg (fun a => Value.slice a n3 c4) e61) rfl TF.slc_79 hi0 hi1 ?_)
     obtain ⟨i62, i63, i64, i65, hl, hS⟩ := hS
     refine Run.go rfl rfl rfl (sem_loadN (Addr.add A60 (Int.toNat (i53) * 4)) [(Value.int .i64 (i62)), (Value.int .i64 (i63)), (Value.int .i64 (i64)), (Value.int .u8 (i65))] rfl TF.agg_81 TF.sz_81 hl ?_)
     refine Run.go rfl rfl rfl (sem_allocN [(Value.int .i64 (0)), (Value.int .i64 (0)), (Value.int .i64 (0)), (Value.int .u8 (0))] TF.zero_81 (fun k66 hb1 hb2 h67 hb3 => ?_))
     have hS := hS k66 hb1 hb2 h67 hb3
     obtain ⟨h68, hst, hS⟩ := hS
     refine Run.go rfl rfl rfl (sem_storeN ⟨k66, 0, none⟩ [(Value.int .i64 (i62)), (Value.int .i64 (i63)), (Value.int .i64 (i64)), (Value.int .u8 (i65))] h68 rfl rfl TF.sz_81 hst ?_)
     refine Run.region_end ?_
     refine Run.ops0 (idx := [0, 1, 2, 3, 4]) rfl ?_
     refine Run.go rfl rfl rfl (sem_move ((Value.pointer p13)) rfl ?_)
     refine Run.go rfl rfl rfl (sem_move ((Value.pointer p14)) rfl ?_)
     refine Run.go rfl rfl rfl (sem_move ((Value.pointer p15)) rfl ?_)
     obtain ⟨i69, i70, i71, i72, hl, hS⟩ := hS
     refine Run.go rfl rfl rfl (sem_loadN ⟨k66, 0, none⟩ [(Value.int .i64 (i69)), (Value.int .i64 (i70)), (Value.int .i64 (i71)), (Value.int .u8 (i72))] rfl TF.agg_81 TF.sz_81 hl ?_)
     refine Run.go rfl rfl rfl (sem_callL [(Value.pointer p13), (Value.pointer p14), (Value.pointer p15), (Value.agg #[(Value.int .i64 (i69)), (Value.int .i64 (i70)), (Value.int .i64 (i71)), (Value.int .u8 (i72))])] (TF.goes_46) rfl rfl (Spec.mono hS fun v h73 hv => ?_))
     obtain ⟨b74, rfl, hS⟩ := hv
     refine Run.region_end ?_
     refine Run.inBlock ?_
     refine Run.ops0 (idx := [0, 1]) rfl ?_
     refine Run.go rfl rfl rfl (sem_binI .i64 (i53) (1) ((Value.int .i64 (IntKind.wrap .i64 ((i53) + (1))))) rfl rfl rfl ?_)
     refine Run.go rfl rfl rfl (sem_move ((Value.int .i64 (IntKind.wrap .i64 ((i53) + (1))))) rfl ?_)
     refine Run.region_end ?_
     exact Run.of_fin (hS.imp fun h' ⟨m', hm, hS⟩ => ih57 ((IntKind.wrap .i64 ((i53) + (1))), m') _ _ ⟨hS, ⟨rfl, rfl, rfl, rfl, rfl, rfl, rfl, trivial⟩⟩ hm)
    ·have hS := hF hb59; clear hT hF
     refine Run.go rfl rfl rfl (sem_binI .i64 (i53) ((n3 : Nat)) (.bool false) rfl rfl (binI_lss_f hb59) ?_)
     refine Run.region_end ?_
     refine Run.seq ?_
     refine Run.condF rfl ?_
     refine Run.exit rfl ?_
     exact Run.of_fin (hS.imp fun h' hS => j19 _ _ ⟨⟨rfl, rfl, rfl, rfl, trivial⟩, hS⟩)
   refine Run.seq ?_
   refine Run.ops0 (idx := [0, 1, 2, 3, 4, 5, 6]) rfl ?_
   refine Run.go rfl rfl rfl (sem_move ((Value.bool false)) rfl ?_)
   refine Run.go rfl rfl rfl (sem_not false rfl ?_)
   refine Run.go rfl rfl rfl (sem_move ((Value.bool true)) rfl ?_)
   refine Run.no rfl rfl rfl ?_
   refine Run.no rfl rfl rfl ?_
   refine Run.no rfl rfl rfl ?_
   refine Run.go rfl rfl rfl (sem_pick true ((Value.bool true)) rfl rfl ?_)
   refine Run.region_end ?_
   refine Run.condT rfl ?_
   refine Run.seq ?_
   refine Run.ops0 (idx := [0]) rfl ?_
   refine Run.go rfl rfl rfl (sem_assign ((Value.bool true)) rfl ?_)
   refine Run.region_end ?_
   refine Run.ret ⟨.inr rfl, ?_⟩
   exact hS.imp fun h' hq => ⟨(true), rfl, hq⟩
  ·have hS := hT rfl; clear hT hF
   refine Run.go rfl rfl rfl (sem_extract #[(Value.pointer p13), (Value.pointer p14), (Value.pointer p15), (Value.bool true)] (.bool true) rfl rfl ?_)
   refine Run.go rfl rfl rfl (sem_assign ((Value.pointer p13)) rfl ?_)
   refine Run.go rfl rfl rfl (sem_assign ((Value.pointer p14)) rfl ?_)
   refine Run.go rfl rfl rfl (sem_assign ((Value.pointer p15)) rfl ?_)
   refine Run.go rfl rfl rfl (sem_assign ((Value.bool true)) rfl ?_)
   refine Run.region_end ?_
   refine Run.seqJ (fun e h76 => Agree [(1, (Value.slice a2 n3 c4)), (2, (Value.int .i64 (i5))), (7, (Value.pointer p13)), (8, (Value.pointer p14)), (9, (Value.pointer p15))] e ∧ S_countermandlaw14_SheetOver_J4 B a2 n3 c4 i5 p13 p14 p15 h76 Q) ?_ fun j75 => ?_
   ·rintro e h76 ⟨hag, hS⟩
    refine Run.env hag ?_; clear hag
    refine Run.seqJ (fun e h78 => Agree [(2, (Value.int .i64 (i5))), (7, (Value.pointer p13)), (8, (Value.pointer p14)), (9, (Value.pointer p15))] e ∧ S_countermandlaw14_SheetOver_J5 B i5 p13 p14 p15 h78 Q) ?_ fun j77 => ?_
    ·rintro e h78 ⟨hag, hS⟩
     refine Run.env hag ?_; clear hag
     refine Run.seq ?_
     refine Run.ops0 (idx := [0, 1, 2, 3, 4]) rfl ?_
     refine Run.go rfl rfl rfl (sem_move ((Value.pointer p14)) rfl ?_)
     refine Run.go rfl rfl rfl (sem_move ((Value.pointer p13)) rfl ?_)
     refine Run.go rfl rfl rfl (sem_move ((Value.int .i64 (i5))) rfl ?_)
     refine Run.go rfl rfl rfl (sem_callL [(Value.pointer p14), (Value.pointer p13), (Value.int .i64 (i5))] (TF.goes_48) rfl rfl (Spec.mono hS fun v h79 hv => ?_))
     obtain ⟨i80, rfl, hS⟩ := hv
     refine Run.go rfl rfl rfl (sem_assign ((Value.int .i64 (i80))) rfl ?_)
     refine Run.region_end ?_
     refine Run.seq ?_
     refine Run.ops0 (idx := [0]) rfl ?_
     refine Run.go rfl rfl rfl (sem_assign ((Value.int .i64 (0))) rfl ?_)
     refine Run.region_end ?_
     refine Run.seq ?_
     refine Run.seq ?_
     refine Run.ops0 (idx := [0]) rfl ?_
     refine Run.go rfl rfl rfl (sem_move ((Value.int .i64 (0))) rfl ?_)
     refine Run.region_end ?_
     refine Run.block ?_
     obtain ⟨J87, m85, h0, hS⟩ := hS
     refine Run.of_fin (h0.imp fun h' h0 => ?_)
     refine Run.loop (σ := Int × Int × Nat) (fun x e h => J87 x.1 x.2.1 x.2.2 h ∧ Agree [(2, (Value.int .i64 (i5))), (7, (Value.pointer p13)), (9, (Value.pointer p15)), (13, (Value.int .i64 (i80))), (14, (Value.int .i64 (x.1))), (51, (Value.int .i64 (x.2.1)))] e) (fun x => x.2.2) ((0), (0), m85) ⟨h0, ⟨rfl, rfl, rfl, rfl, rfl, rfl, trivial⟩⟩ ?_; clear h0
     rintro ⟨i81, i82, m84⟩ e h83 ⟨hJ, hag⟩ ih86
     have hS := hS i81 i82 m84 h83 hJ; clear hJ
     refine Run.env hag ?_; clear hag
     refine Run.seq ?_
     refine Run.ops0 (idx := [0]) rfl ?_
     obtain ⟨hT, hF⟩ := hS
     by_cases hb88 : (i82 : Int) < (6)
     ·have hS := hT hb88; clear hT hF
      refine Run.go rfl rfl rfl (sem_binI .i64 (i82) (6) (.bool true) rfl rfl (binI_lss_t hb88) ?_)
      refine Run.region_end ?_
      refine Run.seq ?_
      refine Run.condT rfl ?_
      refine Run.skip ?_
      refine Run.seq ?_
      refine Run.block ?_
      refine Run.seq ?_
      refine Run.ops0 (idx := [0, 1]) rfl ?_
      refine Run.go rfl rfl rfl (sem_move ((Value.int .i64 (i82))) rfl ?_)
      refine Run.go rfl rfl rfl (sem_assign ((Value.int .i64 (i82))) rfl ?_)
      refine Run.region_end ?_
      refine Run.seq ?_
      refine Run.ops0 (idx := [0, 1, 2, 3, 4, 5, 6, 7, 8]) rfl ?_
      refine Run.go rfl rfl rfl (sem_move ((Value.pointer p13)) rfl ?_)
      refine Run.go rfl rfl rfl (sem_move ((Value.int .i64 (i82))) rfl ?_)
      refine Run.go rfl rfl rfl (sem_callL [(Value.pointer p13), (Value.int .i64 (i82))] (TF.goes_49) rfl rfl (Spec.mono hS fun v h89 hv => ?_))
      obtain ⟨b90, s91, i92, rfl, hS⟩ := hv
      refine Run.go rfl rfl rfl (sem_move ((Value.tuple #[(Value.agg #[(Value.bool b90), (Value.string s91)]), (Value.int .i64 (i92))])) rfl ?_)
      refine Run.go rfl rfl rfl (sem_extract #[(Value.agg #[(Value.bool b90), (Value.string s91)]), (Value.int .i64 (i92))] ((Value.agg #[(Value.bool b90), (Value.string s91)])) rfl rfl ?_)
      refine Run.go rfl rfl rfl (sem_extract #[(Value.agg #[(Value.bool b90), (Value.string s91)]), (Value.int .i64 (i92))] ((Value.int .i64 (i92))) rfl rfl ?_)
      refine Run.go rfl rfl rfl (sem_allocN [(Value.bool false), (Value.string ByteArray.empty)] TF.zero_41 (fun k93 hb1 hb2 h94 hb3 => ?_))
      have hS := hS k93 hb1 hb2 h94 hb3
      obtain ⟨h95, hst, hS⟩ := hS
      refine Run.go rfl rfl rfl (sem_storeN ⟨k93, 0, none⟩ [(Value.bool b90), (Value.string s91)] h95 rfl rfl TF.sz_41 hst ?_)
      refine Run.go rfl rfl rfl (sem_assign ((Value.int .i64 (i92))) rfl ?_)
      refine Run.region_end ?_
      refine Run.seq ?_
      refine Run.ops0 (idx := [0, 1]) rfl ?_
      refine Run.go rfl rfl rfl (sem_move ((Value.int .i64 (i82))) rfl ?_)
      refine Run.go rfl rfl rfl (sem_assign ((Value.int .i64 (i82))) rfl ?_)
      refine Run.region_end ?_
      refine Run.seqJ (fun e h99 => ∃ i97 : Int, ∃ i98 : Int, Agree [(2, (Value.int .i64 (i5))), (7, (Value.pointer p13)), (9, (Value.pointer p15)), (13, (Value.int .i64 (i80))), (14, (Value.int .i64 (i97))), (15, (Value.int .i64 (i82))), (16, (Value.pointer (some ⟨k93, 0, none⟩))), (17, (Value.int .i64 (i92))), (18, (Value.int .i64 (i98))), (51, (Value.int .i64 (i82)))] e ∧ S_countermandlaw14_SheetOver_J6 B i5 p13 p15 i80 i82 m84 J87 i92 k93 i97 i98 h99 Q) ?_ fun j96 => ?_
      ·rintro e h99 ⟨i97, i98, hag, hS⟩
       refine Run.env hag ?_; clear hag
       refine Run.seq ?_
       refine Run.drawM (fun h' => h' = h99) [] ⟨[0, 0, 0, 2, 8, 20, 32, 65, 128, 256, 256, 1792, 2304], [8191, 8191, 8191, 8189, 8183, 8171, 8159, 8126, 8063, 7935, 7935, 6399, 5887], [0, 0, 0, 0, 0, 0, 0, 0, 0, 0, 0, 0, 0], 0⟩ (.q 0 (.q 1 (.q 2 (.q 3 (.q 4 (.q 5 (.q 6 (.q 7 (.q 8 (.q 9 (.q 10 (.q 11 (.q 12 .nil))))))))))))) TF.mixed (by kernel_rfl) rfl ?_
       obtain ⟨b100, s101, hl, hS⟩ := hS
       refine RunT.quiet rfl rfl rfl (quiet_eq (sem_loadN ⟨k93, 0, none⟩ [(Value.bool b100), (Value.string s101)] rfl TF.agg_41 TF.sz_41 hl ⟨rfl, rfl⟩)) ?_
       refine RunT.quiet rfl rfl rfl (quiet_eq (sem_move ((Value.pointer p15)) rfl ⟨rfl, rfl⟩)) ?_
       refine RunT.quiet rfl rfl rfl (quiet_eq (sem_move ((Value.int .i64 (i82))) rfl ⟨rfl, rfl⟩)) ?_
       obtain ⟨A102, e103, hS⟩ := hS
       refine RunT.quiet rfl rfl rfl (quiet_eq (sem_nilCheck A102 (congrArg Value.pointer e103) ⟨rfl, rfl⟩)) ?_
       refine RunT.quiet rfl rfl rfl (quiet_eq (sem_fieldAddr A102 12 rfl TF.fld_86_1 ⟨rfl, rfl⟩)) ?_
       obtain ⟨hi0, hi1, hS⟩ := hS
       refine RunT.quiet rfl rfl rfl (quiet_eq (sem_indexAddrA (Addr.add A102 12) .i64 (i82) rfl rfl TF.arr_77 hi0 hi1 ⟨rfl, rfl⟩)) ?_
       obtain ⟨b104, s105, hl, hS⟩ := hS
       refine RunT.quiet rfl rfl rfl (quiet_eq (sem_loadN (Addr.add (Addr.add A102 12) (Int.toNat (i82) * 2)) [(Value.bool b104), (Value.string s105)] rfl TF.agg_76 TF.sz_76 hl ⟨rfl, rfl⟩)) ?_
       obtain ⟨hT, hF⟩ := hS
       by_cases hb106 : eqL [(Value.bool b100), (Value.string s101)] [(Value.bool b104), (Value.string s105)] = true
       ·have hS := hT hb106; clear hT hF
        refine RunT.quiet rfl rfl rfl (quiet_eq (sem_aggEq [(Value.bool b100), (Value.string s101)] [(Value.bool b104), (Value.string s105)] _ (false) (.inr rfl) rfl rfl TF.agg_76 TF.flat_76 TF.eqg_76 ⟨⟨_, rfl⟩, ⟨_, rfl⟩, trivial⟩ ⟨⟨_, rfl⟩, ⟨_, rfl⟩, trivial⟩ (eqLT_neq hb106) ⟨rfl, rfl⟩)) ?_
        refine RunT.quiet rfl rfl rfl (quiet_eq (sem_move ((Value.bool false)) rfl ⟨rfl, rfl⟩)) ?_
        refine RunT.quiet rfl rfl rfl (quiet_eq (sem_move ((Value.int .i64 (i92))) rfl ⟨rfl, rfl⟩)) ?_
        refine RunT.quiet rfl rfl rfl (quiet_eq (sem_move ((Value.int .i64 (i98))) rfl ⟨rfl, rfl⟩)) ?_
        obtain ⟨hT, hF⟩ := hS
        by_cases hb107 : (i92 : Int) = i98
        ·have hS := hT hb107; clear hT hF
         refine RunT.quiet rfl rfl rfl (quiet_eq (sem_binI .i64 (i92) (i98) (.bool false) rfl rfl (binI_neq_t hb107) ⟨rfl, rfl⟩)) ?_
         refine RunT.quiet rfl rfl rfl (quiet_eq (sem_pick false ((Value.bool false)) rfl rfl ⟨rfl, rfl⟩)) ?_
         refine Run.condF rfl ?_
         refine Run.skip ?_
         refine Run.inBlock ?_
         refine Run.ops0 (idx := [0, 1]) rfl ?_
         refine Run.go rfl rfl rfl (sem_binI .i64 (i82) (1) ((Value.int .i64 (IntKind.wrap .i64 ((i82) + (1))))) rfl rfl rfl ?_)
         refine Run.go rfl rfl rfl (sem_move ((Value.int .i64 (IntKind.wrap .i64 ((i82) + (1))))) rfl ?_)
         refine Run.region_end ?_
         exact Run.of_fin (hS.imp fun h' ⟨m', hm, hS⟩ => ih86 ((i97), (IntKind.wrap .i64 ((i82) + (1))), m') _ _ ⟨hS, ⟨rfl, rfl, rfl, rfl, rfl, rfl, trivial⟩⟩ hm)
        ·have hS := hF hb107; clear hT hF
         refine RunT.quiet rfl rfl rfl (quiet_eq (sem_binI .i64 (i92) (i98) (.bool true) rfl rfl (binI_neq_f hb107) ⟨rfl, rfl⟩)) ?_
         refine RunT.quiet rfl rfl rfl (quiet_eq (sem_pick false ((Value.bool true)) rfl rfl ⟨rfl, rfl⟩)) ?_
         refine Run.condT rfl ?_
         refine Run.seq ?_
         refine Run.ops0 (idx := [0]) rfl ?_
         refine Run.go rfl rfl rfl (sem_assign ((Value.bool false)) rfl ?_)
         refine Run.region_end ?_
         refine Run.ret ⟨.inr rfl, ?_⟩
         exact hS.imp fun h' hq => ⟨(false), rfl, hq⟩
       ·have hS := hF hb106; clear hT hF
        refine RunT.quiet rfl rfl rfl (quiet_eq (sem_aggEq [(Value.bool b100), (Value.string s101)] [(Value.bool b104), (Value.string s105)] _ (true) (.inr rfl) rfl rfl TF.agg_76 TF.flat_76 TF.eqg_76 ⟨⟨_, rfl⟩, ⟨_, rfl⟩, trivial⟩ ⟨⟨_, rfl⟩, ⟨_, rfl⟩, trivial⟩ (eqLF_neq hb106) ⟨rfl, rfl⟩)) ?_
        refine RunT.quiet rfl rfl rfl (quiet_eq (sem_move ((Value.bool true)) rfl ⟨rfl, rfl⟩)) ?_
        refine RunT.skip rfl rfl rfl ?_
        refine RunT.skip rfl rfl rfl ?_
        refine RunT.skip rfl rfl rfl ?_
        refine RunT.quiet rfl rfl rfl (quiet_eq (sem_pick true ((Value.bool true)) rfl rfl ⟨rfl, rfl⟩)) ?_
        refine Run.condT rfl ?_
        refine Run.seq ?_
        refine Run.ops0 (idx := [0]) rfl ?_
        refine Run.go rfl rfl rfl (sem_assign ((Value.bool false)) rfl ?_)
        refine Run.region_end ?_
        refine Run.ret ⟨.inr rfl, ?_⟩
        exact hS.imp fun h' hq => ⟨(false), rfl, hq⟩
      refine Run.seq ?_
      refine Run.ops0 (idx := [0, 1, 2, 3, 4, 5]) rfl ?_
      refine Run.go rfl rfl rfl (sem_move ((Value.pointer p15)) rfl ?_)
      refine Run.go rfl rfl rfl (sem_move ((Value.int .i64 (i82))) rfl ?_)
      obtain ⟨A108, e109, hS⟩ := hS
      refine Run.go rfl rfl rfl (sem_nilCheck A108 (congrArg Value.pointer e109) ?_)
      refine Run.go rfl rfl rfl (sem_fieldAddr A108 24 rfl TF.fld_86_2 ?_)
      obtain ⟨hi0, hi1, hS⟩ := hS
      refine Run.go rfl rfl rfl (sem_indexAddrA (Addr.add A108 24) .i64 (i82) rfl rfl TF.arr_84 hi0 hi1 ?_)
      obtain ⟨b110, hl, hS⟩ := hS
      obtain ⟨hT, hF⟩ := hS
      cases b110
      ·have hS := hF rfl; clear hT hF
       refine Run.go rfl rfl rfl (sem_load1 (Addr.add (Addr.add A108 24) (Int.toNat (i82) * 1)) (.bool false) rfl TF.agg_4 hl ?_)
       refine Run.region_end ?_
       refine Run.condF rfl ?_
       refine Run.skip ?_
       exact Run.of_fin (hS.imp fun h' hS => j96 _ _ ⟨(i81), (i82), ⟨rfl, rfl, rfl, rfl, rfl, rfl, rfl, rfl, rfl, rfl, trivial⟩, hS⟩)
      ·have hS := hT rfl; clear hT hF
       refine Run.go rfl rfl rfl (sem_load1 (Addr.add (Addr.add A108 24) (Int.toNat (i82) * 1)) (.bool true) rfl TF.agg_4 hl ?_)
       refine Run.region_end ?_
       refine Run.condT rfl ?_
       refine Run.seq ?_
       refine Run.ops0 (idx := [0, 1]) rfl ?_
       refine Run.go rfl rfl rfl (sem_move ((Value.int .i64 (i5))) rfl ?_)
       refine Run.go rfl rfl rfl (sem_assign ((Value.int .i64 (i5))) rfl ?_)
       refine Run.region_end ?_
       refine Run.ops0 (idx := [0, 1, 2]) rfl ?_
       refine Run.go rfl rfl rfl (sem_move ((Value.int .i64 (i81))) rfl ?_)
       refine Run.go rfl rfl rfl (sem_binI .i64 (i81) (1) ((Value.int .i64 (IntKind.wrap .i64 ((i81) + (1))))) rfl rfl rfl ?_)
       refine Run.go rfl rfl rfl (sem_assign ((Value.int .i64 (IntKind.wrap .i64 ((i81) + (1))))) rfl ?_)
       refine Run.region_end ?_
       exact Run.of_fin (hS.imp fun h' hS => j96 _ _ ⟨(IntKind.wrap .i64 ((i81) + (1))), (i5), ⟨rfl, rfl, rfl, rfl, rfl, rfl, rfl, rfl, rfl, rfl, trivial⟩, hS⟩)
     ·have hS := hF hb88; clear hT hF
      refine Run.go rfl rfl rfl (sem_binI .i64 (i82) (6) (.bool false) rfl rfl (binI_lss_f hb88) ?_)
      refine Run.region_end ?_
      refine Run.seq ?_
      refine Run.condF rfl ?_
      refine Run.exit rfl ?_
      refine Run.seq ?_
      refine Run.ops0 (idx := [0, 1, 2, 3]) rfl ?_
      refine Run.go rfl rfl rfl (sem_move ((Value.int .i64 (i80))) rfl ?_)
      refine Run.go rfl rfl rfl (sem_move ((Value.int .i64 (i81))) rfl ?_)
      refine Run.go rfl rfl rfl (sem_binI .i64 (i80) (i81) ((Value.bool ((i80 : Int) == (i81)))) rfl rfl rfl ?_)
      refine Run.go rfl rfl rfl (sem_assign ((Value.bool ((i80 : Int) == (i81)))) rfl ?_)
      refine Run.region_end ?_
      refine Run.ret ⟨.inr rfl, ?_⟩
      exact hS.imp fun h' hq => ⟨(((i80 : Int) == (i81))), rfl, hq⟩
    refine Run.seq ?_
    refine Run.ops0 (idx := [0, 1, 2]) rfl ?_
    refine Run.go rfl rfl rfl (sem_move ((Value.slice a2 n3 c4)) rfl ?_)
    refine Run.go rfl rfl rfl (sem_lenSl a2 n3 c4 rfl TF.sl_79 ?_)
    refine Run.go rfl rfl rfl (sem_move ((Value.int .i64 (0))) rfl ?_)
    refine Run.region_end ?_
    refine Run.block ?_
    obtain ⟨J116, m114, h0, hS⟩ := hS
    refine Run.of_fin (h0.imp fun h' h0 => ?_)
    refine Run.loop (σ := Int × Nat) (fun x e h => J116 x.1 x.2 h ∧ Agree [(2, (Value.int .i64 (i5))), (7, (Value.pointer p13)), (8, (Value.pointer p14)), (9, (Value.pointer p15)), (35, (Value.slice a2 n3 c4)), (36, (Value.int .i64 ((n3 : Nat)))), (37, (Value.int .i64 (x.1)))] e) (fun x => x.2) ((0), m114) ⟨h0, ⟨rfl, rfl, rfl, rfl, rfl, rfl, rfl, trivial⟩⟩ ?_; clear h0
    rintro ⟨i111, m113⟩ e h112 ⟨hJ, hag⟩ ih115
    have hS := hS i111 m113 h112 hJ; clear hJ
    refine Run.env hag ?_; clear hag
    refine Run.seq ?_
    refine Run.ops0 (idx := [0]) rfl ?_
    obtain ⟨hT, hF⟩ := hS
    by_cases hb117 : (i111 : Int) < ((n3 : Nat))
    ·have hS := hT hb117; clear hT hF
     refine Run.go rfl rfl rfl (sem_binI .i64 (i111) ((n3 : Nat)) (.bool true) rfl rfl (binI_lss_t hb117) ?_)
     refine Run.region_end ?_
     refine Run.seq ?_
     refine Run.condT rfl ?_
     refine Run.skip ?_
     refine Run.seq ?_
     refine Run.block ?_
     refine Run.seq ?_
     refine Run.ops0 (idx := [0, 1, 2, 3]) rfl ?_
     obtain ⟨A118, e119, hi0, hi1, hS⟩ := hS
     refine Run.go rfl rfl rfl (sem_indexAddrS A118 n3 c4 .i64 (i111) (congrArg (fun a => Value.slice a n3 c4) e119) rfl TF.slc_79 hi0 hi1 ?_)
     obtain ⟨i120, i121, i122, i123, hl, hS⟩ := hS
     refine Run.go rfl rfl rfl (sem_loadN (Addr.add A118 (Int.toNat (i111) * 4)) [(Value.int .i64 (i120)), (Value.int .i64 (i121)), (Value.int .i64 (i122)), (Value.int .u8 (i123))] rfl TF.agg_81 TF.sz_81 hl ?_)
     refine Run.go rfl rfl rfl (sem_allocN [(Value.int .i64 (0)), (Value.int .i64 (0)), (Value.int .i64 (0)), (Value.int .u8 (0))] TF.zero_81 (fun k124 hb1 hb2 h125 hb3 => ?_))
     have hS := hS k124 hb1 hb2 h125 hb3
     obtain ⟨h126, hst, hS⟩ := hS
     refine Run.go rfl rfl rfl (sem_storeN ⟨k124, 0, none⟩ [(Value.int .i64 (i120)), (Value.int .i64 (i121)), (Value.int .i64 (i122)), (Value.int .u8 (i123))] h126 rfl rfl TF.sz_81 hst ?_)
     refine Run.region_end ?_
     refine Run.ops0 (idx := [0, 1, 2, 3, 4]) rfl ?_
     refine Run.go rfl rfl rfl (sem_move ((Value.pointer p13)) rfl ?_)
     refine Run.go rfl rfl rfl (sem_move ((Value.pointer p14)) rfl ?_)
     refine Run.go rfl rfl rfl (sem_move ((Value.pointer p15)) rfl ?_)
     obtain ⟨i127, i128, i129, i130, hl, hS⟩ := hS
     refine Run.go rfl rfl rfl (sem_loadN ⟨k124, 0, none⟩ [(Value.int .i64 (i127)), (Value.int .i64 (i128)), (Value.int .i64 (i129)), (Value.int .u8 (i130))] rfl TF.agg_81 TF.sz_81 hl ?_)
     refine Run.go rfl rfl rfl (sem_callL [(Value.pointer p13), (Value.pointer p14), (Value.pointer p15), (Value.agg #[(Value.int .i64 (i127)), (Value.int .i64 (i128)), (Value.int .i64 (i129)), (Value.int .u8 (i130))])] (TF.goes_46) rfl rfl (Spec.mono hS fun v h131 hv => ?_))
     obtain ⟨b132, rfl, hS⟩ := hv
     refine Run.region_end ?_
     refine Run.inBlock ?_
     refine Run.ops0 (idx := [0, 1]) rfl ?_
     refine Run.go rfl rfl rfl (sem_binI .i64 (i111) (1) ((Value.int .i64 (IntKind.wrap .i64 ((i111) + (1))))) rfl rfl rfl ?_)
     refine Run.go rfl rfl rfl (sem_move ((Value.int .i64 (IntKind.wrap .i64 ((i111) + (1))))) rfl ?_)
     refine Run.region_end ?_
     exact Run.of_fin (hS.imp fun h' ⟨m', hm, hS⟩ => ih115 ((IntKind.wrap .i64 ((i111) + (1))), m') _ _ ⟨hS, ⟨rfl, rfl, rfl, rfl, rfl, rfl, rfl, trivial⟩⟩ hm)
    ·have hS := hF hb117; clear hT hF
     refine Run.go rfl rfl rfl (sem_binI .i64 (i111) ((n3 : Nat)) (.bool false) rfl rfl (binI_lss_f hb117) ?_)
     refine Run.region_end ?_
     refine Run.seq ?_
     refine Run.condF rfl ?_
     refine Run.exit rfl ?_
     exact Run.of_fin (hS.imp fun h' hS => j77 _ _ ⟨⟨rfl, rfl, rfl, rfl, trivial⟩, hS⟩)
   refine Run.seq ?_
   refine Run.ops0 (idx := [0, 1, 2, 3, 4, 5, 6]) rfl ?_
   refine Run.go rfl rfl rfl (sem_move ((Value.bool true)) rfl ?_)
   refine Run.go rfl rfl rfl (sem_not true rfl ?_)
   refine Run.go rfl rfl rfl (sem_move ((Value.bool false)) rfl ?_)
   refine Run.go rfl rfl rfl (sem_move ((Value.slice a2 n3 c4)) rfl ?_)
   refine Run.go rfl rfl rfl (sem_lenSl a2 n3 c4 rfl TF.sl_79 ?_)
   obtain ⟨hT, hF⟩ := hS
   by_cases hb133 : ((n3 : Nat) : Int) > (60)
   ·have hS := hT hb133; clear hT hF
    refine Run.go rfl rfl rfl (sem_binI .i64 ((n3 : Nat)) (60) (.bool true) rfl rfl (binI_gtr_t hb133) ?_)
    refine Run.go rfl rfl rfl (sem_pick false ((Value.bool true)) rfl rfl ?_)
    refine Run.region_end ?_
    refine Run.condT rfl ?_
    refine Run.seq ?_
    refine Run.ops0 (idx := [0]) rfl ?_
    refine Run.go rfl rfl rfl (sem_assign ((Value.bool true)) rfl ?_)
    refine Run.region_end ?_
    refine Run.ret ⟨.inr rfl, ?_⟩
    exact hS.imp fun h' hq => ⟨(true), rfl, hq⟩
   ·have hS := hF hb133; clear hT hF
    refine Run.go rfl rfl rfl (sem_binI .i64 ((n3 : Nat)) (60) (.bool false) rfl rfl (binI_gtr_f hb133) ?_)
    refine Run.go rfl rfl rfl (sem_pick false ((Value.bool false)) rfl rfl ?_)
    refine Run.region_end ?_
    refine Run.condF rfl ?_
    refine Run.skip ?_
    exact Run.of_fin (hS.imp fun h' hS => j75 _ _ ⟨⟨rfl, rfl, rfl, rfl, rfl, trivial⟩, hS⟩)
end Go.Proofs.Ytcncdfmnpmmikaa.H
