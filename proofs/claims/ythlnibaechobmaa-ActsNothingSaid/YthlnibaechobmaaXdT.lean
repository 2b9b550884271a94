/- The functions do what they ask for. No condition. -/
import Derived.Test.YthlnibaechobmaaXdS
namespace Go.Proofs.Ythlnibaechobmaa.H
open Go
set_option linter.unusedVariables false
set_option maxRecDepth 100000

set_option maxHeartbeats 4000000 in
theorem C_countermandlaw16_ActsNothing.of {B : RO} {a1 : Option Addr} {n2 : Nat} {c3 : Nat} {a4 : Option Addr} {n5 : Nat} {c6 : Nat} {h : Heap} {Q : Bool → Heap → Prop} (hS : S_countermandlaw16_ActsNothing B a1 n2 c3 a4 n5 c6 h Q) : C_countermandlaw16_ActsNothing B a1 n2 c3 a4 n5 c6 h Q := by
  unfold S_countermandlaw16_ActsNothing at hS
  unfold C_countermandlaw16_ActsNothing
  refine Spec.of_run Try.func9 (N := 137) (rs := [ResultVar.tmp 4]) rfl rfl rfl (Nat.le_of_ble_eq_true rfl) ?_
  refine Run.seq ?_
  refine Run.ops0 (idx := [0]) rfl ?_
  refine Run.go rfl rfl rfl (sem_assign ((Value.bool false)) rfl ?_)
  refine Run.region_end ?_
  refine Run.seq ?_
  refine Run.seq ?_
  refine Run.ops0 (idx := [0, 1]) rfl ?_
  refine Run.go rfl rfl rfl (sem_callL [] (TF.goes_35) rfl rfl (Spec.mono hS fun v h8 hv => ?_))
  obtain ⟨b9, rfl, hS⟩ := hv
  obtain ⟨hT, hF⟩ := hS
  cases b9
  · have hS := hF rfl; clear hT hF
    refine Run.go rfl rfl rfl (sem_not false rfl ?_)
    refine Run.region_end ?_
    refine Run.condT rfl ?_
    refine Run.seq ?_
    refine Run.ops0 (idx := [0]) rfl ?_
    refine Run.go rfl rfl rfl (sem_assign ((Value.bool false)) rfl ?_)
    refine Run.region_end ?_
    refine Run.ret ⟨.inr rfl, ?_⟩
    exact hS.imp fun h' hq => ⟨(false), rfl, hq⟩
  · have hS := hT rfl; clear hT hF
    refine Run.go rfl rfl rfl (sem_not true rfl ?_)
    refine Run.region_end ?_
    refine Run.condF rfl ?_
    refine Run.skip ?_
    refine Run.seqJ (fun e h11 => Agree [(0, (Value.slice a1 n2 c3)), (1, (Value.slice a4 n5 c6))] e ∧ S_countermandlaw16_ActsNothing_J1 B a1 n2 c3 a4 n5 c6 h11 Q) ?_ fun j10 => ?_
    · rintro e h11 ⟨hag, hS⟩
      refine Run.env hag ?_; clear hag
      refine Run.seq ?_
      refine Run.ops0 (idx := [0, 1, 2]) rfl ?_
      refine Run.go rfl rfl rfl (sem_buildSL [] [(Value.slice none 0 0), (Value.slice none 0 0), (Value.slice none 0 0), (Value.slice none 0 0)] TF.zero_69 TF.places_69 rfl rfl ?_)
      refine Run.go rfl rfl rfl (sem_boxNN [(Value.slice none 0 0), (Value.slice none 0 0), (Value.slice none 0 0), (Value.slice none 0 0)] rfl (fun k12 hb1 hb2 h13 hb3 => ?_))
      have hS := hS k12 hb1 hb2 h13 hb3
      refine Run.go rfl rfl rfl (sem_assign ((Value.pointer (some ⟨k12, 0, none⟩))) rfl ?_)
      refine Run.region_end ?_
      refine Run.seq ?_
      refine Run.ops0 (idx := [0]) rfl ?_
      refine Run.go rfl rfl rfl (sem_allocN [(Value.int .i64 (0)), (Value.int .i64 (0)), (Value.int .i64 (0)), (Value.int .i64 (0))] TF.zero_70 (fun k14 hb1 hb2 h15 hb3 => ?_))
      have hS := hS k14 hb1 hb2 h15 hb3
      refine Run.region_end ?_
      refine Run.seqJ (fun e h17 => Agree [(5, (Value.pointer (some ⟨k12, 0, none⟩))), (6, (Value.pointer (some ⟨k14, 0, none⟩)))] e ∧ S_countermandlaw16_ActsNothing_J2 B k12 k14 h17 Q) ?_ fun j16 => ?_
      · rintro e h17 ⟨hag, hS⟩
        refine Run.env hag ?_; clear hag
        refine Run.seq ?_
        refine Run.seq ?_
        refine Run.ops0 (idx := [0, 1, 2, 3]) rfl ?_
        refine Run.go rfl rfl rfl (sem_move ((Value.pointer (some ⟨k12, 0, none⟩))) rfl ?_)
        refine Run.go rfl rfl rfl (sem_callL [(Value.pointer (some ⟨k12, 0, none⟩))] (TF.goes_39) rfl rfl (Spec.mono hS fun v h18 hv => ?_))
        obtain ⟨a19, n20, c21, rfl, hS⟩ := hv
        refine Run.go rfl rfl rfl (sem_lenSl a19 n20 c21 rfl TF.sl_64 ?_)
        refine Run.go rfl rfl rfl (sem_move ((Value.int .i64 (0))) rfl ?_)
        refine Run.region_end ?_
        refine Run.block ?_
        obtain ⟨J27, m25, h0, hS⟩ := hS
        refine Run.of_fin (h0.imp fun h' h0 => ?_)
        refine Run.loop (σ := Int × Nat) (fun x e h => J27 x.1 x.2 h ∧ Agree [(6, (Value.pointer (some ⟨k14, 0, none⟩))), (111, (Value.slice a19 n20 c21)), (112, (Value.int .i64 ((n20 : Nat)))), (113, (Value.int .i64 (x.1)))] e) (fun x => x.2) ((0), m25) ⟨h0, ⟨rfl, rfl, rfl, rfl, trivial⟩⟩ ?_; clear h0
        rintro ⟨i22, m24⟩ e h23 ⟨hJ, hag⟩ ih26
        have hS := hS i22 m24 h23 hJ; clear hJ
        refine Run.env hag ?_; clear hag
        refine Run.seq ?_
        refine Run.ops0 (idx := [0]) rfl ?_
        obtain ⟨hT, hF⟩ := hS
        by_cases hb28 : (i22 : Int) < ((n20 : Nat))
        · have hS := hT hb28; clear hT hF
          refine Run.go rfl rfl rfl (sem_binI .i64 (i22) ((n20 : Nat)) (.bool true) rfl rfl (binI_lss_t hb28) ?_)
          refine Run.region_end ?_
          refine Run.seq ?_
          refine Run.condT rfl ?_
          refine Run.skip ?_
          refine Run.seq ?_
          refine Run.block ?_
          refine Run.seq ?_
          refine Run.ops0 (idx := [0, 1, 2, 3]) rfl ?_
          obtain ⟨A29, e30, hi0, hi1, hS⟩ := hS
          refine Run.go rfl rfl rfl (sem_indexAddrS A29 n20 c21 .i64 (i22) (congrArg (fun a => Value.slice a n20 c21) e30) rfl TF.slc_64 hi0 hi1 ?_)
          obtain ⟨i31, i32, hl, hS⟩ := hS
          refine Run.go rfl rfl rfl (sem_loadN (Addr.add A29 (Int.toNat (i22) * 2)) [(Value.int .i64 (i31)), (Value.int .i64 (i32))] rfl TF.agg_72 TF.sz_72 hl ?_)
          refine Run.go rfl rfl rfl (sem_allocN [(Value.int .i64 (0)), (Value.int .i64 (0))] TF.zero_72 (fun k33 hb1 hb2 h34 hb3 => ?_))
          have hS := hS k33 hb1 hb2 h34 hb3
          obtain ⟨h35, hst, hS⟩ := hS
          refine Run.go rfl rfl rfl (sem_storeN ⟨k33, 0, none⟩ [(Value.int .i64 (i31)), (Value.int .i64 (i32))] h35 rfl rfl TF.sz_72 hst ?_)
          refine Run.region_end ?_
          refine Run.seqJ (fun e h37 => Agree [(6, (Value.pointer (some ⟨k14, 0, none⟩))), (13, (Value.pointer (some ⟨k33, 0, none⟩))), (111, (Value.slice a19 n20 c21)), (112, (Value.int .i64 ((n20 : Nat)))), (113, (Value.int .i64 (i22)))] e ∧ S_countermandlaw16_ActsNothing_J3 B k14 a19 n20 c21 i22 m24 J27 k33 h37 Q) ?_ fun j36 => ?_
          · rintro e h37 ⟨hag, hS⟩
            refine Run.env hag ?_; clear hag
            refine Run.draw (fun h' => h' = h37) [8] [.q 0, .q 1, .q 2, .q 3, .q 4, .q 5, .q 6, .q 7, .x 8] TF.mixed (by kernel_rfl) rfl ?_
            refine RunO.quiet rfl rfl rfl (quiet_eq (sem_fieldAddr ⟨k33, 0, none⟩ 0 rfl TF.fld_72_0 ⟨rfl, rfl⟩)) ?_
            obtain ⟨i38, hl, hS⟩ := hS
            refine RunO.quiet rfl rfl rfl (quiet_eq (sem_load1 ⟨k33, 0, none⟩ ((Value.int .i64 (i38))) rfl TF.agg_3 hl ⟨rfl, rfl⟩)) ?_
            obtain ⟨hi0, hi1, hS⟩ := hS
            refine RunO.quiet rfl rfl rfl (quiet_eq (sem_indexAddrA ⟨k14, 0, none⟩ .i64 (i38) rfl rfl TF.arr_70 hi0 hi1 ⟨rfl, rfl⟩)) ?_
            obtain ⟨i39, hl, hS⟩ := hS
            refine RunO.quiet rfl rfl rfl (quiet_eq (sem_load1 (Addr.add ⟨k14, 0, none⟩ (Int.toNat (i38) * 1)) ((Value.int .i64 (i39))) rfl TF.agg_3 hl ⟨rfl, rfl⟩)) ?_
            refine RunO.quiet rfl rfl rfl (quiet_eq (sem_fieldAddr ⟨k33, 0, none⟩ 1 rfl TF.fld_72_1 ⟨rfl, rfl⟩)) ?_
            obtain ⟨i40, hl, hS⟩ := hS
            refine RunO.quiet rfl rfl rfl (quiet_eq (sem_load1 ⟨k33, 1, none⟩ ((Value.int .i64 (i40))) rfl TF.agg_3 hl ⟨rfl, rfl⟩)) ?_
            refine RunO.quiet rfl rfl rfl (quiet_eq (sem_binI .i64 (i39) (i40) ((Value.int .i64 (IntKind.wrap .i64 ((i39) + (i40))))) rfl rfl rfl ⟨rfl, rfl⟩)) ?_
            obtain ⟨hi0, hi1, hS⟩ := hS
            refine RunO.quiet rfl rfl rfl (quiet_eq (sem_indexAddrA ⟨k14, 0, none⟩ .i64 (i38) rfl rfl TF.arr_70 hi0 hi1 ⟨rfl, rfl⟩)) ?_
            obtain ⟨h41, hst, hS⟩ := hS
            refine OpH.go rfl rfl rfl (sem_store1 (Addr.add ⟨k14, 0, none⟩ (Int.toNat (i38) * 1)) ((Value.int .i64 (IntKind.wrap .i64 ((i39) + (i40))))) h41 rfl rfl rfl TF.sz_3 hst ?_)
            refine ⟨fun hz => Bool.noConfusion hz, ?_⟩
            refine Run.inBlock ?_
            refine Run.ops0 (idx := [0, 1]) rfl ?_
            refine Run.go rfl rfl rfl (sem_binI .i64 (i22) (1) ((Value.int .i64 (IntKind.wrap .i64 ((i22) + (1))))) rfl rfl rfl ?_)
            refine Run.go rfl rfl rfl (sem_move ((Value.int .i64 (IntKind.wrap .i64 ((i22) + (1))))) rfl ?_)
            refine Run.region_end ?_
            exact Run.of_fin (hS.imp fun h' ⟨m', hm, hS⟩ => ih26 ((IntKind.wrap .i64 ((i22) + (1))), m') _ _ ⟨hS, ⟨rfl, rfl, rfl, rfl, trivial⟩⟩ hm)
          refine Run.seq ?_
          refine Run.ops0 (idx := [0, 1, 2, 3, 4, 5, 6, 7]) rfl ?_
          refine Run.go rfl rfl rfl (sem_fieldAddr ⟨k33, 0, none⟩ 0 rfl TF.fld_72_0 ?_)
          obtain ⟨i42, hl, hS⟩ := hS
          refine Run.go rfl rfl rfl (sem_load1 ⟨k33, 0, none⟩ ((Value.int .i64 (i42))) rfl TF.agg_3 hl ?_)
          obtain ⟨hT, hF⟩ := hS
          by_cases hb43 : (i42 : Int) < (0)
          · have hS := hT hb43; clear hT hF
            refine Run.go rfl rfl rfl (sem_binI .i64 (i42) (0) (.bool true) rfl rfl (binI_lss_t hb43) ?_)
            refine Run.go rfl rfl rfl (sem_move ((Value.bool true)) rfl ?_)
            refine Run.no rfl rfl rfl ?_
            refine Run.no rfl rfl rfl ?_
            refine Run.no rfl rfl rfl ?_
            refine Run.go rfl rfl rfl (sem_pick true ((Value.bool true)) rfl rfl ?_)
            refine Run.region_end ?_
            refine Run.condT rfl ?_
            refine Run.seq ?_
            refine Run.ops0 (idx := [0]) rfl ?_
            refine Run.go rfl rfl rfl (sem_assign ((Value.bool false)) rfl ?_)
            refine Run.region_end ?_
            refine Run.ret ⟨.inr rfl, ?_⟩
            exact hS.imp fun h' hq => ⟨(false), rfl, hq⟩
          · have hS := hF hb43; clear hT hF
            refine Run.go rfl rfl rfl (sem_binI .i64 (i42) (0) (.bool false) rfl rfl (binI_lss_f hb43) ?_)
            refine Run.go rfl rfl rfl (sem_move ((Value.bool false)) rfl ?_)
            refine Run.go rfl rfl rfl (sem_fieldAddr ⟨k33, 0, none⟩ 0 rfl TF.fld_72_0 ?_)
            obtain ⟨i44, hl, hS⟩ := hS
            refine Run.go rfl rfl rfl (sem_load1 ⟨k33, 0, none⟩ ((Value.int .i64 (i44))) rfl TF.agg_3 hl ?_)
            obtain ⟨hT, hF⟩ := hS
            by_cases hb45 : (i44 : Int) > (3)
            · have hS := hT hb45; clear hT hF
              refine Run.go rfl rfl rfl (sem_binI .i64 (i44) (3) (.bool true) rfl rfl (binI_gtr_t hb45) ?_)
              refine Run.go rfl rfl rfl (sem_pick false ((Value.bool true)) rfl rfl ?_)
              refine Run.region_end ?_
              refine Run.condT rfl ?_
              refine Run.seq ?_
              refine Run.ops0 (idx := [0]) rfl ?_
              refine Run.go rfl rfl rfl (sem_assign ((Value.bool false)) rfl ?_)
              refine Run.region_end ?_
              refine Run.ret ⟨.inr rfl, ?_⟩
              exact hS.imp fun h' hq => ⟨(false), rfl, hq⟩
            · have hS := hF hb45; clear hT hF
              refine Run.go rfl rfl rfl (sem_binI .i64 (i44) (3) (.bool false) rfl rfl (binI_gtr_f hb45) ?_)
              refine Run.go rfl rfl rfl (sem_pick false ((Value.bool false)) rfl rfl ?_)
              refine Run.region_end ?_
              refine Run.condF rfl ?_
              refine Run.skip ?_
              exact Run.of_fin (hS.imp fun h' hS => j36 _ _ ⟨⟨rfl, rfl, rfl, rfl, rfl, trivial⟩, hS⟩)
        · have hS := hF hb28; clear hT hF
          refine Run.go rfl rfl rfl (sem_binI .i64 (i22) ((n20 : Nat)) (.bool false) rfl rfl (binI_lss_f hb28) ?_)
          refine Run.region_end ?_
          refine Run.seq ?_
          refine Run.condF rfl ?_
          refine Run.exit rfl ?_
          refine Run.seq ?_
          refine Run.ops0 (idx := [0, 1, 2, 3]) rfl ?_
          obtain ⟨i46, i47, i48, i49, hl, hS⟩ := hS
          refine Run.go rfl rfl rfl (sem_loadN ⟨k14, 0, none⟩ [(Value.int .i64 (i46)), (Value.int .i64 (i47)), (Value.int .i64 (i48)), (Value.int .i64 (i49))] rfl TF.agg_70 TF.sz_70 hl ?_)
          refine Run.go rfl rfl rfl (sem_buildAL [] [(Value.int .i64 (0)), (Value.int .i64 (0)), (Value.int .i64 (0)), (Value.int .i64 (0))] TF.zero_70 TF.arr_70 rfl rfl ?_)
          refine Run.go rfl rfl rfl (sem_aggEq [(Value.int .i64 (i46)), (Value.int .i64 (i47)), (Value.int .i64 (i48)), (Value.int .i64 (i49))] [(Value.int .i64 (0)), (Value.int .i64 (0)), (Value.int .i64 (0)), (Value.int .i64 (0))] _ ((decide (eqL [(Value.int .i64 (i46)), (Value.int .i64 (i47)), (Value.int .i64 (i48)), (Value.int .i64 (i49))] [(Value.int .i64 (0)), (Value.int .i64 (0)), (Value.int .i64 (0)), (Value.int .i64 (0))] = true))) (.inl rfl) rfl rfl TF.agg_70 TF.flat_70 TF.eqg_70 ⟨⟨_, rfl⟩, ⟨_, rfl⟩, ⟨_, rfl⟩, ⟨_, rfl⟩, trivial⟩ ⟨⟨_, rfl⟩, ⟨_, rfl⟩, ⟨_, rfl⟩, ⟨_, rfl⟩, trivial⟩ eqLV_eql ?_)
          refine Run.go rfl rfl rfl (sem_assign ((Value.bool (decide (eqL [(Value.int .i64 (i46)), (Value.int .i64 (i47)), (Value.int .i64 (i48)), (Value.int .i64 (i49))] [(Value.int .i64 (0)), (Value.int .i64 (0)), (Value.int .i64 (0)), (Value.int .i64 (0))] = true)))) rfl ?_)
          refine Run.region_end ?_
          refine Run.ret ⟨.inr rfl, ?_⟩
          exact hS.imp fun h' hq => ⟨((decide (eqL [(Value.int .i64 (i46)), (Value.int .i64 (i47)), (Value.int .i64 (i48)), (Value.int .i64 (i49))] [(Value.int .i64 (0)), (Value.int .i64 (0)), (Value.int .i64 (0)), (Value.int .i64 (0))] = true))), rfl, hq⟩
      refine Run.seq ?_
      refine Run.ops0 (idx := [0, 1, 2]) rfl ?_
      refine Run.go rfl rfl rfl (sem_move ((Value.slice a1 n2 c3)) rfl ?_)
      refine Run.go rfl rfl rfl (sem_lenSl a1 n2 c3 rfl TF.sl_64 ?_)
      refine Run.go rfl rfl rfl (sem_move ((Value.int .i64 (0))) rfl ?_)
      refine Run.region_end ?_
      refine Run.block ?_
      obtain ⟨J55, m53, h0, hS⟩ := hS
      refine Run.of_fin (h0.imp fun h' h0 => ?_)
      refine Run.loop (σ := Int × Nat) (fun x e h => J55 x.1 x.2 h ∧ Agree [(1, (Value.slice a4 n5 c6)), (5, (Value.pointer (some ⟨k12, 0, none⟩))), (6, (Value.pointer (some ⟨k14, 0, none⟩))), (26, (Value.slice a1 n2 c3)), (27, (Value.int .i64 ((n2 : Nat)))), (28, (Value.int .i64 (x.1)))] e) (fun x => x.2) ((0), m53) ⟨h0, ⟨rfl, rfl, rfl, rfl, rfl, rfl, trivial⟩⟩ ?_; clear h0
      rintro ⟨i50, m52⟩ e h51 ⟨hJ, hag⟩ ih54
      have hS := hS i50 m52 h51 hJ; clear hJ
      refine Run.env hag ?_; clear hag
      refine Run.seq ?_
      refine Run.ops0 (idx := [0]) rfl ?_
      obtain ⟨hT, hF⟩ := hS
      by_cases hb56 : (i50 : Int) < ((n2 : Nat))
      · have hS := hT hb56; clear hT hF
        refine Run.go rfl rfl rfl (sem_binI .i64 (i50) ((n2 : Nat)) (.bool true) rfl rfl (binI_lss_t hb56) ?_)
        refine Run.region_end ?_
        refine Run.seq ?_
        refine Run.condT rfl ?_
        refine Run.skip ?_
        refine Run.seq ?_
        refine Run.block ?_
        refine Run.seq ?_
        refine Run.ops0 (idx := [0, 1, 2, 3, 4, 5]) rfl ?_
        refine Run.go rfl rfl rfl (sem_move ((Value.int .i64 (i50))) rfl ?_)
        obtain ⟨A57, e58, hi0, hi1, hS⟩ := hS
        refine Run.go rfl rfl rfl (sem_indexAddrS A57 n2 c3 .i64 (i50) (congrArg (fun a => Value.slice a n2 c3) e58) rfl TF.slc_64 hi0 hi1 ?_)
        obtain ⟨i59, i60, hl, hS⟩ := hS
        refine Run.go rfl rfl rfl (sem_loadN (Addr.add A57 (Int.toNat (i50) * 2)) [(Value.int .i64 (i59)), (Value.int .i64 (i60))] rfl TF.agg_72 TF.sz_72 hl ?_)
        refine Run.go rfl rfl rfl (sem_allocN [(Value.int .i64 (0)), (Value.int .i64 (0))] TF.zero_72 (fun k61 hb1 hb2 h62 hb3 => ?_))
        have hS := hS k61 hb1 hb2 h62 hb3
        refine Run.go rfl rfl rfl (sem_assign ((Value.int .i64 (i50))) rfl ?_)
        obtain ⟨h63, hst, hS⟩ := hS
        refine Run.go rfl rfl rfl (sem_storeN ⟨k61, 0, none⟩ [(Value.int .i64 (i59)), (Value.int .i64 (i60))] h63 rfl rfl TF.sz_72 hst ?_)
        refine Run.region_end ?_
        refine Run.seqJ (fun e h65 => Agree [(1, (Value.slice a4 n5 c6)), (5, (Value.pointer (some ⟨k12, 0, none⟩))), (6, (Value.pointer (some ⟨k14, 0, none⟩))), (7, (Value.int .i64 (i50))), (8, (Value.pointer (some ⟨k61, 0, none⟩))), (26, (Value.slice a1 n2 c3)), (27, (Value.int .i64 ((n2 : Nat)))), (28, (Value.int .i64 (i50)))] e ∧ S_countermandlaw16_ActsNothing_J4 B a1 n2 c3 a4 n5 c6 k12 k14 i50 m52 J55 k61 h65 Q) ?_ fun j64 => ?_
        · rintro e h65 ⟨hag, hS⟩
          refine Run.env hag ?_; clear hag
          refine Run.seqJ (fun e h67 => Agree [(1, (Value.slice a4 n5 c6)), (5, (Value.pointer (some ⟨k12, 0, none⟩))), (6, (Value.pointer (some ⟨k14, 0, none⟩))), (7, (Value.int .i64 (i50))), (26, (Value.slice a1 n2 c3)), (27, (Value.int .i64 ((n2 : Nat)))), (28, (Value.int .i64 (i50)))] e ∧ S_countermandlaw16_ActsNothing_J5 B a1 n2 c3 a4 n5 c6 k12 k14 i50 m52 J55 h67 Q) ?_ fun j66 => ?_
          · rintro e h67 ⟨hag, hS⟩
            refine Run.env hag ?_; clear hag
            refine Run.seqJ (fun e h70 => ∃ b69 : Bool, Agree [(1, (Value.slice a4 n5 c6)), (5, (Value.pointer (some ⟨k12, 0, none⟩))), (6, (Value.pointer (some ⟨k14, 0, none⟩))), (7, (Value.int .i64 (i50))), (26, (Value.slice a1 n2 c3)), (27, (Value.int .i64 ((n2 : Nat)))), (28, (Value.int .i64 (i50))), (73, (Value.bool b69))] e ∧ S_countermandlaw16_ActsNothing_J6 B a1 n2 c3 a4 n5 c6 k12 k14 i50 m52 J55 b69 h70 Q) ?_ fun j68 => ?_
            · rintro e h70 ⟨b69, hag, hS⟩
              refine Run.env hag ?_; clear hag
              obtain ⟨hT, hF⟩ := hS
              cases b69
              · have hS := hF rfl; clear hT hF
                refine Run.condF rfl ?_
                refine Run.skip ?_
                refine Run.inBlock ?_
                refine Run.ops0 (idx := [0, 1]) rfl ?_
                refine Run.go rfl rfl rfl (sem_binI .i64 (i50) (1) ((Value.int .i64 (IntKind.wrap .i64 ((i50) + (1))))) rfl rfl rfl ?_)
                refine Run.go rfl rfl rfl (sem_move ((Value.int .i64 (IntKind.wrap .i64 ((i50) + (1))))) rfl ?_)
                refine Run.region_end ?_
                exact Run.of_fin (hS.imp fun h' ⟨m', hm, hS⟩ => ih54 ((IntKind.wrap .i64 ((i50) + (1))), m') _ _ ⟨hS, ⟨rfl, rfl, rfl, rfl, rfl, rfl, trivial⟩⟩ hm)
              · have hS := hT rfl; clear hT hF
                refine Run.condT rfl ?_
                refine Run.seq ?_
                refine Run.ops0 (idx := [0, 1, 2, 3]) rfl ?_
                refine Run.go rfl rfl rfl (sem_move ((Value.pointer (some ⟨k12, 0, none⟩))) rfl ?_)
                refine Run.go rfl rfl rfl (sem_callL [(Value.pointer (some ⟨k12, 0, none⟩))] (TF.goes_37) rfl rfl (Spec.mono hS fun v h71 hv => ?_))
                obtain ⟨i72, i73, i74, i75, rfl, hS⟩ := hv
                refine Run.go rfl rfl rfl (sem_allocN [(Value.int .i64 (0)), (Value.int .i64 (0)), (Value.int .i64 (0)), (Value.int .i64 (0))] TF.zero_73 (fun k76 hb1 hb2 h77 hb3 => ?_))
                have hS := hS k76 hb1 hb2 h77 hb3
                obtain ⟨h78, hst, hS⟩ := hS
                refine Run.go rfl rfl rfl (sem_storeN ⟨k76, 0, none⟩ [(Value.int .i64 (i72)), (Value.int .i64 (i73)), (Value.int .i64 (i74)), (Value.int .i64 (i75))] h78 rfl rfl TF.sz_73 hst ?_)
                refine Run.region_end ?_
                refine Run.seq ?_
                refine Run.draw (fun h' => h' = h78) [8] [.q 0, .q 1, .q 2, .q 3, .q 4, .q 5, .q 6, .q 7, .x 8] TF.mixed (by kernel_rfl) rfl ?_
                refine RunO.quiet rfl rfl rfl (quiet_eq (sem_move ((Value.slice a4 n5 c6)) rfl ⟨rfl, rfl⟩)) ?_
                refine RunO.quiet rfl rfl rfl (quiet_eq (sem_move ((Value.int .i64 (i50))) rfl ⟨rfl, rfl⟩)) ?_
                obtain ⟨A79, e80, hi0, hi1, hS⟩ := hS
                refine RunO.quiet rfl rfl rfl (quiet_eq (sem_indexAddrS A79 n5 c6 .i64 (i50) (congrArg (fun a => Value.slice a n5 c6) e80) rfl TF.slc_65 hi0 hi1 ⟨rfl, rfl⟩)) ?_
                obtain ⟨i81, hl, hS⟩ := hS
                refine RunO.quiet rfl rfl rfl (quiet_eq (sem_load1 (Addr.add A79 (Int.toNat (i50) * 1)) ((Value.int .i64 (i81))) rfl TF.agg_3 hl ⟨rfl, rfl⟩)) ?_
                obtain ⟨hi0, hi1, hS⟩ := hS
                refine RunO.quiet rfl rfl rfl (quiet_eq (sem_indexAddrA ⟨k76, 0, none⟩ .i64 (3) rfl rfl TF.arr_73 hi0 hi1 ⟨rfl, rfl⟩)) ?_
                obtain ⟨i82, hl, hS⟩ := hS
                refine RunO.quiet rfl rfl rfl (quiet_eq (sem_load1 ⟨k76, 3, none⟩ ((Value.int .i64 (i82))) rfl TF.agg_3 hl ⟨rfl, rfl⟩)) ?_
                refine RunO.quiet rfl rfl rfl (quiet_eq (sem_min .i64 (i81) (i82) rfl rfl ⟨rfl, rfl⟩)) ?_
                obtain ⟨hi0, hi1, hS⟩ := hS
                refine RunO.quiet rfl rfl rfl (quiet_eq (sem_indexAddrA ⟨k76, 0, none⟩ .i64 (3) rfl rfl TF.arr_73 hi0 hi1 ⟨rfl, rfl⟩)) ?_
                obtain ⟨h83, hst, hS⟩ := hS
                refine OpH.go rfl rfl rfl (sem_store1 ⟨k76, 3, none⟩ ((Value.int .i64 (if (i82 : Int) < (i81) then (i82 : Int) else (i81)))) h83 rfl rfl rfl TF.sz_3 hst ?_)
                refine ⟨fun hz => Bool.noConfusion hz, ?_⟩
                refine Run.seq ?_
                refine Run.ops0 (idx := [0, 1, 2, 3, 4]) rfl ?_
                refine Run.go rfl rfl rfl (sem_move ((Value.pointer (some ⟨k12, 0, none⟩))) rfl ?_)
                obtain ⟨i84, i85, i86, i87, hl, hS⟩ := hS
                refine Run.go rfl rfl rfl (sem_loadN ⟨k76, 0, none⟩ [(Value.int .i64 (i84)), (Value.int .i64 (i85)), (Value.int .i64 (i86)), (Value.int .i64 (i87))] rfl TF.agg_73 TF.sz_73 hl ?_)
                refine Run.go rfl rfl rfl (sem_callL [(Value.pointer (some ⟨k12, 0, none⟩)), (Value.agg #[(Value.int .i64 (i84)), (Value.int .i64 (i85)), (Value.int .i64 (i86)), (Value.int .i64 (i87))])] (TF.goes_38) rfl rfl (Spec.mono hS fun v h88 hv => ?_))
                obtain ⟨a89, n90, c91, rfl, hS⟩ := hv
                refine Run.go rfl rfl rfl (sem_lenSl a89 n90 c91 rfl TF.sl_64 ?_)
                refine Run.go rfl rfl rfl (sem_move ((Value.int .i64 (0))) rfl ?_)
                refine Run.region_end ?_
                refine Run.block ?_
                obtain ⟨J97, m95, h0, hS⟩ := hS
                refine Run.of_fin (h0.imp fun h' h0 => ?_)
                refine Run.loop (σ := Int × Nat) (fun x e h => J97 x.1 x.2 h ∧ Agree [(1, (Value.slice a4 n5 c6)), (5, (Value.pointer (some ⟨k12, 0, none⟩))), (6, (Value.pointer (some ⟨k14, 0, none⟩))), (26, (Value.slice a1 n2 c3)), (27, (Value.int .i64 ((n2 : Nat)))), (28, (Value.int .i64 (i50))), (86, (Value.slice a89 n90 c91)), (87, (Value.int .i64 ((n90 : Nat)))), (88, (Value.int .i64 (x.1)))] e) (fun x => x.2) ((0), m95) ⟨h0, ⟨rfl, rfl, rfl, rfl, rfl, rfl, rfl, rfl, rfl, trivial⟩⟩ ?_; clear h0
                rintro ⟨i92, m94⟩ e h93 ⟨hJ, hag⟩ ih96
                have hS := hS i92 m94 h93 hJ; clear hJ
                refine Run.env hag ?_; clear hag
                refine Run.seq ?_
                refine Run.ops0 (idx := [0]) rfl ?_
                obtain ⟨hT, hF⟩ := hS
                by_cases hb98 : (i92 : Int) < ((n90 : Nat))
                · have hS := hT hb98; clear hT hF
                  refine Run.go rfl rfl rfl (sem_binI .i64 (i92) ((n90 : Nat)) (.bool true) rfl rfl (binI_lss_t hb98) ?_)
                  refine Run.region_end ?_
                  refine Run.seq ?_
                  refine Run.condT rfl ?_
                  refine Run.skip ?_
                  refine Run.seq ?_
                  refine Run.block ?_
                  refine Run.seq ?_
                  refine Run.ops0 (idx := [0, 1, 2, 3]) rfl ?_
                  obtain ⟨A99, e100, hi0, hi1, hS⟩ := hS
                  refine Run.go rfl rfl rfl (sem_indexAddrS A99 n90 c91 .i64 (i92) (congrArg (fun a => Value.slice a n90 c91) e100) rfl TF.slc_64 hi0 hi1 ?_)
                  obtain ⟨i101, i102, hl, hS⟩ := hS
                  refine Run.go rfl rfl rfl (sem_loadN (Addr.add A99 (Int.toNat (i92) * 2)) [(Value.int .i64 (i101)), (Value.int .i64 (i102))] rfl TF.agg_72 TF.sz_72 hl ?_)
                  refine Run.go rfl rfl rfl (sem_allocN [(Value.int .i64 (0)), (Value.int .i64 (0))] TF.zero_72 (fun k103 hb1 hb2 h104 hb3 => ?_))
                  have hS := hS k103 hb1 hb2 h104 hb3
                  obtain ⟨h105, hst, hS⟩ := hS
                  refine Run.go rfl rfl rfl (sem_storeN ⟨k103, 0, none⟩ [(Value.int .i64 (i101)), (Value.int .i64 (i102))] h105 rfl rfl TF.sz_72 hst ?_)
                  refine Run.region_end ?_
                  refine Run.seqJ (fun e h107 => Agree [(1, (Value.slice a4 n5 c6)), (5, (Value.pointer (some ⟨k12, 0, none⟩))), (6, (Value.pointer (some ⟨k14, 0, none⟩))), (11, (Value.pointer (some ⟨k103, 0, none⟩))), (26, (Value.slice a1 n2 c3)), (27, (Value.int .i64 ((n2 : Nat)))), (28, (Value.int .i64 (i50))), (86, (Value.slice a89 n90 c91)), (87, (Value.int .i64 ((n90 : Nat)))), (88, (Value.int .i64 (i92)))] e ∧ S_countermandlaw16_ActsNothing_J7 B a1 n2 c3 a4 n5 c6 k12 k14 i50 a89 n90 c91 i92 m94 J97 k103 h107 Q) ?_ fun j106 => ?_
                  · rintro e h107 ⟨hag, hS⟩
                    refine Run.env hag ?_; clear hag
                    refine Run.draw (fun h' => h' = h107) [8] [.q 0, .q 1, .q 2, .q 3, .q 4, .q 5, .q 6, .q 7, .x 8] TF.mixed (by kernel_rfl) rfl ?_
                    refine RunO.quiet rfl rfl rfl (quiet_eq (sem_fieldAddr ⟨k103, 0, none⟩ 0 rfl TF.fld_72_0 ⟨rfl, rfl⟩)) ?_
                    obtain ⟨i108, hl, hS⟩ := hS
                    refine RunO.quiet rfl rfl rfl (quiet_eq (sem_load1 ⟨k103, 0, none⟩ ((Value.int .i64 (i108))) rfl TF.agg_3 hl ⟨rfl, rfl⟩)) ?_
                    obtain ⟨hi0, hi1, hS⟩ := hS
                    refine RunO.quiet rfl rfl rfl (quiet_eq (sem_indexAddrA ⟨k14, 0, none⟩ .i64 (i108) rfl rfl TF.arr_70 hi0 hi1 ⟨rfl, rfl⟩)) ?_
                    obtain ⟨i109, hl, hS⟩ := hS
                    refine RunO.quiet rfl rfl rfl (quiet_eq (sem_load1 (Addr.add ⟨k14, 0, none⟩ (Int.toNat (i108) * 1)) ((Value.int .i64 (i109))) rfl TF.agg_3 hl ⟨rfl, rfl⟩)) ?_
                    refine RunO.quiet rfl rfl rfl (quiet_eq (sem_fieldAddr ⟨k103, 0, none⟩ 1 rfl TF.fld_72_1 ⟨rfl, rfl⟩)) ?_
                    obtain ⟨i110, hl, hS⟩ := hS
                    refine RunO.quiet rfl rfl rfl (quiet_eq (sem_load1 ⟨k103, 1, none⟩ ((Value.int .i64 (i110))) rfl TF.agg_3 hl ⟨rfl, rfl⟩)) ?_
                    refine RunO.quiet rfl rfl rfl (quiet_eq (sem_binI .i64 (i109) (i110) ((Value.int .i64 (IntKind.wrap .i64 ((i109) + (i110))))) rfl rfl rfl ⟨rfl, rfl⟩)) ?_
                    obtain ⟨hi0, hi1, hS⟩ := hS
                    refine RunO.quiet rfl rfl rfl (quiet_eq (sem_indexAddrA ⟨k14, 0, none⟩ .i64 (i108) rfl rfl TF.arr_70 hi0 hi1 ⟨rfl, rfl⟩)) ?_
                    obtain ⟨h111, hst, hS⟩ := hS
                    refine OpH.go rfl rfl rfl (sem_store1 (Addr.add ⟨k14, 0, none⟩ (Int.toNat (i108) * 1)) ((Value.int .i64 (IntKind.wrap .i64 ((i109) + (i110))))) h111 rfl rfl rfl TF.sz_3 hst ?_)
                    refine ⟨fun hz => Bool.noConfusion hz, ?_⟩
                    refine Run.inBlock ?_
                    refine Run.ops0 (idx := [0, 1]) rfl ?_
                    refine Run.go rfl rfl rfl (sem_binI .i64 (i92) (1) ((Value.int .i64 (IntKind.wrap .i64 ((i92) + (1))))) rfl rfl rfl ?_)
                    refine Run.go rfl rfl rfl (sem_move ((Value.int .i64 (IntKind.wrap .i64 ((i92) + (1))))) rfl ?_)
                    refine Run.region_end ?_
                    exact Run.of_fin (hS.imp fun h' ⟨m', hm, hS⟩ => ih96 ((IntKind.wrap .i64 ((i92) + (1))), m') _ _ ⟨hS, ⟨rfl, rfl, rfl, rfl, rfl, rfl, rfl, rfl, rfl, trivial⟩⟩ hm)
                  refine Run.seq ?_
                  refine Run.ops0 (idx := [0, 1, 2, 3, 4, 5, 6, 7]) rfl ?_
                  refine Run.go rfl rfl rfl (sem_fieldAddr ⟨k103, 0, none⟩ 0 rfl TF.fld_72_0 ?_)
                  obtain ⟨i112, hl, hS⟩ := hS
                  refine Run.go rfl rfl rfl (sem_load1 ⟨k103, 0, none⟩ ((Value.int .i64 (i112))) rfl TF.agg_3 hl ?_)
                  obtain ⟨hT, hF⟩ := hS
                  by_cases hb113 : (i112 : Int) < (0)
                  · have hS := hT hb113; clear hT hF
                    refine Run.go rfl rfl rfl (sem_binI .i64 (i112) (0) (.bool true) rfl rfl (binI_lss_t hb113) ?_)
                    refine Run.go rfl rfl rfl (sem_move ((Value.bool true)) rfl ?_)
                    refine Run.no rfl rfl rfl ?_
                    refine Run.no rfl rfl rfl ?_
                    refine Run.no rfl rfl rfl ?_
                    refine Run.go rfl rfl rfl (sem_pick true ((Value.bool true)) rfl rfl ?_)
                    refine Run.region_end ?_
                    refine Run.condT rfl ?_
                    refine Run.seq ?_
                    refine Run.ops0 (idx := [0]) rfl ?_
                    refine Run.go rfl rfl rfl (sem_assign ((Value.bool false)) rfl ?_)
                    refine Run.region_end ?_
                    refine Run.ret ⟨.inr rfl, ?_⟩
                    exact hS.imp fun h' hq => ⟨(false), rfl, hq⟩
                  · have hS := hF hb113; clear hT hF
                    refine Run.go rfl rfl rfl (sem_binI .i64 (i112) (0) (.bool false) rfl rfl (binI_lss_f hb113) ?_)
                    refine Run.go rfl rfl rfl (sem_move ((Value.bool false)) rfl ?_)
                    refine Run.go rfl rfl rfl (sem_fieldAddr ⟨k103, 0, none⟩ 0 rfl TF.fld_72_0 ?_)
                    obtain ⟨i114, hl, hS⟩ := hS
                    refine Run.go rfl rfl rfl (sem_load1 ⟨k103, 0, none⟩ ((Value.int .i64 (i114))) rfl TF.agg_3 hl ?_)
                    obtain ⟨hT, hF⟩ := hS
                    by_cases hb115 : (i114 : Int) > (3)
                    · have hS := hT hb115; clear hT hF
                      refine Run.go rfl rfl rfl (sem_binI .i64 (i114) (3) (.bool true) rfl rfl (binI_gtr_t hb115) ?_)
                      refine Run.go rfl rfl rfl (sem_pick false ((Value.bool true)) rfl rfl ?_)
                      refine Run.region_end ?_
                      refine Run.condT rfl ?_
                      refine Run.seq ?_
                      refine Run.ops0 (idx := [0]) rfl ?_
                      refine Run.go rfl rfl rfl (sem_assign ((Value.bool false)) rfl ?_)
                      refine Run.region_end ?_
                      refine Run.ret ⟨.inr rfl, ?_⟩
                      exact hS.imp fun h' hq => ⟨(false), rfl, hq⟩
                    · have hS := hF hb115; clear hT hF
                      refine Run.go rfl rfl rfl (sem_binI .i64 (i114) (3) (.bool false) rfl rfl (binI_gtr_f hb115) ?_)
                      refine Run.go rfl rfl rfl (sem_pick false ((Value.bool false)) rfl rfl ?_)
                      refine Run.region_end ?_
                      refine Run.condF rfl ?_
                      refine Run.skip ?_
                      exact Run.of_fin (hS.imp fun h' hS => j106 _ _ ⟨⟨rfl, rfl, rfl, rfl, rfl, rfl, rfl, rfl, rfl, rfl, trivial⟩, hS⟩)
                · have hS := hF hb98; clear hT hF
                  refine Run.go rfl rfl rfl (sem_binI .i64 (i92) ((n90 : Nat)) (.bool false) rfl rfl (binI_lss_f hb98) ?_)
                  refine Run.region_end ?_
                  refine Run.seq ?_
                  refine Run.condF rfl ?_
                  refine Run.exit rfl ?_
                  refine Run.inBlock ?_
                  refine Run.ops0 (idx := [0, 1]) rfl ?_
                  refine Run.go rfl rfl rfl (sem_binI .i64 (i50) (1) ((Value.int .i64 (IntKind.wrap .i64 ((i50) + (1))))) rfl rfl rfl ?_)
                  refine Run.go rfl rfl rfl (sem_move ((Value.int .i64 (IntKind.wrap .i64 ((i50) + (1))))) rfl ?_)
                  refine Run.region_end ?_
                  exact Run.of_fin (hS.imp fun h' ⟨m', hm, hS⟩ => ih54 ((IntKind.wrap .i64 ((i50) + (1))), m') _ _ ⟨hS, ⟨rfl, rfl, rfl, rfl, rfl, rfl, trivial⟩⟩ hm)
            refine Run.ops0 (idx := [0, 1, 2, 3, 4, 5, 6, 7, 8, 9, 10]) rfl ?_
            refine Run.go rfl rfl rfl (sem_move ((Value.int .i64 (i50))) rfl ?_)
            refine Run.go rfl rfl rfl (sem_move ((Value.slice a4 n5 c6)) rfl ?_)
            refine Run.go rfl rfl rfl (sem_lenSl a4 n5 c6 rfl TF.sl_65 ?_)
            obtain ⟨hT, hF⟩ := hS
            by_cases hb116 : (i50 : Int) < ((n5 : Nat))
            · have hS := hT hb116; clear hT hF
              refine Run.go rfl rfl rfl (sem_binI .i64 (i50) ((n5 : Nat)) (.bool true) rfl rfl (binI_lss_t hb116) ?_)
              refine Run.go rfl rfl rfl (sem_move ((Value.bool true)) rfl ?_)
              refine Run.go rfl rfl rfl (sem_move ((Value.slice a4 n5 c6)) rfl ?_)
              refine Run.go rfl rfl rfl (sem_move ((Value.int .i64 (i50))) rfl ?_)
              obtain ⟨A117, e118, hi0, hi1, hS⟩ := hS
              refine Run.go rfl rfl rfl (sem_indexAddrS A117 n5 c6 .i64 (i50) (congrArg (fun a => Value.slice a n5 c6) e118) rfl TF.slc_65 hi0 hi1 ?_)
              obtain ⟨i119, hl, hS⟩ := hS
              refine Run.go rfl rfl rfl (sem_load1 (Addr.add A117 (Int.toNat (i50) * 1)) ((Value.int .i64 (i119))) rfl TF.agg_3 hl ?_)
              obtain ⟨hT, hF⟩ := hS
              by_cases hb120 : (i119 : Int) ≥ (0)
              · have hS := hT hb120; clear hT hF
                refine Run.go rfl rfl rfl (sem_binI .i64 (i119) (0) (.bool true) rfl rfl (binI_geq_t hb120) ?_)
                refine Run.go rfl rfl rfl (sem_pick true ((Value.bool true)) rfl rfl ?_)
                refine Run.region_end ?_
                exact Run.of_fin (hS.imp fun h' hS => j68 _ _ ⟨(true), ⟨rfl, rfl, rfl, rfl, rfl, rfl, rfl, rfl, trivial⟩, hS⟩)
              · have hS := hF hb120; clear hT hF
                refine Run.go rfl rfl rfl (sem_binI .i64 (i119) (0) (.bool false) rfl rfl (binI_geq_f hb120) ?_)
                refine Run.go rfl rfl rfl (sem_pick true ((Value.bool false)) rfl rfl ?_)
                refine Run.region_end ?_
                exact Run.of_fin (hS.imp fun h' hS => j68 _ _ ⟨(false), ⟨rfl, rfl, rfl, rfl, rfl, rfl, rfl, rfl, trivial⟩, hS⟩)
            · have hS := hF hb116; clear hT hF
              refine Run.go rfl rfl rfl (sem_binI .i64 (i50) ((n5 : Nat)) (.bool false) rfl rfl (binI_lss_f hb116) ?_)
              refine Run.go rfl rfl rfl (sem_move ((Value.bool false)) rfl ?_)
              refine Run.no rfl rfl rfl ?_
              refine Run.no rfl rfl rfl ?_
              refine Run.no rfl rfl rfl ?_
              refine Run.no rfl rfl rfl ?_
              refine Run.no rfl rfl rfl ?_
              refine Run.go rfl rfl rfl (sem_pick false ((Value.bool false)) rfl rfl ?_)
              refine Run.region_end ?_
              exact Run.of_fin (hS.imp fun h' hS => j68 _ _ ⟨(false), ⟨rfl, rfl, rfl, rfl, rfl, rfl, rfl, rfl, trivial⟩, hS⟩)
          refine Run.seq ?_
          refine Run.ops0 (idx := [0, 1, 2, 3, 4, 5]) rfl ?_
          refine Run.go rfl rfl rfl (sem_move ((Value.pointer (some ⟨k12, 0, none⟩))) rfl ?_)
          refine Run.go rfl rfl rfl (sem_fieldAddr ⟨k61, 0, none⟩ 0 rfl TF.fld_72_0 ?_)
          obtain ⟨i121, hl, hS⟩ := hS
          refine Run.go rfl rfl rfl (sem_load1 ⟨k61, 0, none⟩ ((Value.int .i64 (i121))) rfl TF.agg_3 hl ?_)
          refine Run.go rfl rfl rfl (sem_fieldAddr ⟨k61, 0, none⟩ 1 rfl TF.fld_72_1 ?_)
          obtain ⟨i122, hl, hS⟩ := hS
          refine Run.go rfl rfl rfl (sem_load1 ⟨k61, 1, none⟩ ((Value.int .i64 (i122))) rfl TF.agg_3 hl ?_)
          refine Run.go rfl rfl rfl (sem_callL [(Value.pointer (some ⟨k12, 0, none⟩)), (Value.int .i64 (i121)), (Value.int .i64 (i122))] (TF.goes_36) rfl rfl (Spec.mono hS fun v h123 hv => ?_))
          obtain ⟨b124, rfl, hS⟩ := hv
          obtain ⟨hT, hF⟩ := hS
          cases b124
          · have hS := hF rfl; clear hT hF
            refine Run.region_end ?_
            refine Run.condF rfl ?_
            refine Run.skip ?_
            exact Run.of_fin (hS.imp fun h' hS => j66 _ _ ⟨⟨rfl, rfl, rfl, rfl, rfl, rfl, rfl, trivial⟩, hS⟩)
          · have hS := hT rfl; clear hT hF
            refine Run.region_end ?_
            refine Run.condT rfl ?_
            refine Run.seqJ (fun e h126 => Agree [(1, (Value.slice a4 n5 c6)), (5, (Value.pointer (some ⟨k12, 0, none⟩))), (6, (Value.pointer (some ⟨k14, 0, none⟩))), (7, (Value.int .i64 (i50))), (8, (Value.pointer (some ⟨k61, 0, none⟩))), (26, (Value.slice a1 n2 c3)), (27, (Value.int .i64 ((n2 : Nat)))), (28, (Value.int .i64 (i50)))] e ∧ S_countermandlaw16_ActsNothing_J8 B a1 n2 c3 a4 n5 c6 k12 k14 i50 m52 J55 k61 h126 Q) ?_ fun j125 => ?_
            · rintro e h126 ⟨hag, hS⟩
              refine Run.env hag ?_; clear hag
              refine Run.draw (fun h' => h' = h126) [8] [.q 0, .q 1, .q 2, .q 3, .q 4, .q 5, .q 6, .q 7, .x 8] TF.mixed (by kernel_rfl) rfl ?_
              refine RunO.quiet rfl rfl rfl (quiet_eq (sem_fieldAddr ⟨k61, 0, none⟩ 0 rfl TF.fld_72_0 ⟨rfl, rfl⟩)) ?_
              obtain ⟨i127, hl, hS⟩ := hS
              refine RunO.quiet rfl rfl rfl (quiet_eq (sem_load1 ⟨k61, 0, none⟩ ((Value.int .i64 (i127))) rfl TF.agg_3 hl ⟨rfl, rfl⟩)) ?_
              obtain ⟨hi0, hi1, hS⟩ := hS
              refine RunO.quiet rfl rfl rfl (quiet_eq (sem_indexAddrA ⟨k14, 0, none⟩ .i64 (i127) rfl rfl TF.arr_70 hi0 hi1 ⟨rfl, rfl⟩)) ?_
              obtain ⟨i128, hl, hS⟩ := hS
              refine RunO.quiet rfl rfl rfl (quiet_eq (sem_load1 (Addr.add ⟨k14, 0, none⟩ (Int.toNat (i127) * 1)) ((Value.int .i64 (i128))) rfl TF.agg_3 hl ⟨rfl, rfl⟩)) ?_
              refine RunO.quiet rfl rfl rfl (quiet_eq (sem_fieldAddr ⟨k61, 0, none⟩ 1 rfl TF.fld_72_1 ⟨rfl, rfl⟩)) ?_
              obtain ⟨i129, hl, hS⟩ := hS
              refine RunO.quiet rfl rfl rfl (quiet_eq (sem_load1 ⟨k61, 1, none⟩ ((Value.int .i64 (i129))) rfl TF.agg_3 hl ⟨rfl, rfl⟩)) ?_
              refine RunO.quiet rfl rfl rfl (quiet_eq (sem_binI .i64 (i128) (i129) ((Value.int .i64 (IntKind.wrap .i64 ((i128) + (i129))))) rfl rfl rfl ⟨rfl, rfl⟩)) ?_
              obtain ⟨hi0, hi1, hS⟩ := hS
              refine RunO.quiet rfl rfl rfl (quiet_eq (sem_indexAddrA ⟨k14, 0, none⟩ .i64 (i127) rfl rfl TF.arr_70 hi0 hi1 ⟨rfl, rfl⟩)) ?_
              obtain ⟨h130, hst, hS⟩ := hS
              refine OpH.go rfl rfl rfl (sem_store1 (Addr.add ⟨k14, 0, none⟩ (Int.toNat (i127) * 1)) ((Value.int .i64 (IntKind.wrap .i64 ((i128) + (i129))))) h130 rfl rfl rfl TF.sz_3 hst ?_)
              refine ⟨fun hz => Bool.noConfusion hz, ?_⟩
              exact Run.of_fin (hS.imp fun h' hS => j66 _ _ ⟨⟨rfl, rfl, rfl, rfl, rfl, rfl, rfl, trivial⟩, hS⟩)
            refine Run.seq ?_
            refine Run.ops0 (idx := [0, 1, 2, 3, 4, 5, 6, 7]) rfl ?_
            refine Run.go rfl rfl rfl (sem_fieldAddr ⟨k61, 0, none⟩ 0 rfl TF.fld_72_0 ?_)
            obtain ⟨i131, hl, hS⟩ := hS
            refine Run.go rfl rfl rfl (sem_load1 ⟨k61, 0, none⟩ ((Value.int .i64 (i131))) rfl TF.agg_3 hl ?_)
            obtain ⟨hT, hF⟩ := hS
            by_cases hb132 : (i131 : Int) < (0)
            · have hS := hT hb132; clear hT hF
              refine Run.go rfl rfl rfl (sem_binI .i64 (i131) (0) (.bool true) rfl rfl (binI_lss_t hb132) ?_)
              refine Run.go rfl rfl rfl (sem_move ((Value.bool true)) rfl ?_)
              refine Run.no rfl rfl rfl ?_
              refine Run.no rfl rfl rfl ?_
              refine Run.no rfl rfl rfl ?_
              refine Run.go rfl rfl rfl (sem_pick true ((Value.bool true)) rfl rfl ?_)
              refine Run.region_end ?_
              refine Run.condT rfl ?_
              refine Run.seq ?_
              refine Run.ops0 (idx := [0]) rfl ?_
              refine Run.go rfl rfl rfl (sem_assign ((Value.bool false)) rfl ?_)
              refine Run.region_end ?_
              refine Run.ret ⟨.inr rfl, ?_⟩
              exact hS.imp fun h' hq => ⟨(false), rfl, hq⟩
            · have hS := hF hb132; clear hT hF
              refine Run.go rfl rfl rfl (sem_binI .i64 (i131) (0) (.bool false) rfl rfl (binI_lss_f hb132) ?_)
              refine Run.go rfl rfl rfl (sem_move ((Value.bool false)) rfl ?_)
              refine Run.go rfl rfl rfl (sem_fieldAddr ⟨k61, 0, none⟩ 0 rfl TF.fld_72_0 ?_)
              obtain ⟨i133, hl, hS⟩ := hS
              refine Run.go rfl rfl rfl (sem_load1 ⟨k61, 0, none⟩ ((Value.int .i64 (i133))) rfl TF.agg_3 hl ?_)
              obtain ⟨hT, hF⟩ := hS
              by_cases hb134 : (i133 : Int) > (3)
              · have hS := hT hb134; clear hT hF
                refine Run.go rfl rfl rfl (sem_binI .i64 (i133) (3) (.bool true) rfl rfl (binI_gtr_t hb134) ?_)
                refine Run.go rfl rfl rfl (sem_pick false ((Value.bool true)) rfl rfl ?_)
                refine Run.region_end ?_
                refine Run.condT rfl ?_
                refine Run.seq ?_
                refine Run.ops0 (idx := [0]) rfl ?_
                refine Run.go rfl rfl rfl (sem_assign ((Value.bool false)) rfl ?_)
                refine Run.region_end ?_
                refine Run.ret ⟨.inr rfl, ?_⟩
                exact hS.imp fun h' hq => ⟨(false), rfl, hq⟩
              · have hS := hF hb134; clear hT hF
                refine Run.go rfl rfl rfl (sem_binI .i64 (i133) (3) (.bool false) rfl rfl (binI_gtr_f hb134) ?_)
                refine Run.go rfl rfl rfl (sem_pick false ((Value.bool false)) rfl rfl ?_)
                refine Run.region_end ?_
                refine Run.condF rfl ?_
                refine Run.skip ?_
                exact Run.of_fin (hS.imp fun h' hS => j125 _ _ ⟨⟨rfl, rfl, rfl, rfl, rfl, rfl, rfl, rfl, trivial⟩, hS⟩)
        refine Run.seq ?_
        refine Run.ops0 (idx := [0, 1, 2, 3, 4, 5, 6, 7]) rfl ?_
        refine Run.go rfl rfl rfl (sem_fieldAddr ⟨k61, 0, none⟩ 1 rfl TF.fld_72_1 ?_)
        obtain ⟨i135, hl, hS⟩ := hS
        refine Run.go rfl rfl rfl (sem_load1 ⟨k61, 1, none⟩ ((Value.int .i64 (i135))) rfl TF.agg_3 hl ?_)
        obtain ⟨hT, hF⟩ := hS
        by_cases hb136 : (i135 : Int) < ((-1099511627776))
        · have hS := hT hb136; clear hT hF
          refine Run.go rfl rfl rfl (sem_binI .i64 (i135) ((-1099511627776)) (.bool true) rfl rfl (binI_lss_t hb136) ?_)
          refine Run.go rfl rfl rfl (sem_move ((Value.bool true)) rfl ?_)
          refine Run.no rfl rfl rfl ?_
          refine Run.no rfl rfl rfl ?_
          refine Run.no rfl rfl rfl ?_
          refine Run.go rfl rfl rfl (sem_pick true ((Value.bool true)) rfl rfl ?_)
          refine Run.region_end ?_
          refine Run.condT rfl ?_
          refine Run.seq ?_
          refine Run.ops0 (idx := [0]) rfl ?_
          refine Run.go rfl rfl rfl (sem_assign ((Value.bool true)) rfl ?_)
          refine Run.region_end ?_
          refine Run.ret ⟨.inr rfl, ?_⟩
          exact hS.imp fun h' hq => ⟨(true), rfl, hq⟩
        · have hS := hF hb136; clear hT hF
          refine Run.go rfl rfl rfl (sem_binI .i64 (i135) ((-1099511627776)) (.bool false) rfl rfl (binI_lss_f hb136) ?_)
          refine Run.go rfl rfl rfl (sem_move ((Value.bool false)) rfl ?_)
          refine Run.go rfl rfl rfl (sem_fieldAddr ⟨k61, 0, none⟩ 1 rfl TF.fld_72_1 ?_)
          obtain ⟨i137, hl, hS⟩ := hS
          refine Run.go rfl rfl rfl (sem_load1 ⟨k61, 1, none⟩ ((Value.int .i64 (i137))) rfl TF.agg_3 hl ?_)
          obtain ⟨hT, hF⟩ := hS
          by_cases hb138 : (i137 : Int) > (1099511627776)
          · have hS := hT hb138; clear hT hF
            refine Run.go rfl rfl rfl (sem_binI .i64 (i137) (1099511627776) (.bool true) rfl rfl (binI_gtr_t hb138) ?_)
            refine Run.go rfl rfl rfl (sem_pick false ((Value.bool true)) rfl rfl ?_)
            refine Run.region_end ?_
            refine Run.condT rfl ?_
            refine Run.seq ?_
            refine Run.ops0 (idx := [0]) rfl ?_
            refine Run.go rfl rfl rfl (sem_assign ((Value.bool true)) rfl ?_)
            refine Run.region_end ?_
            refine Run.ret ⟨.inr rfl, ?_⟩
            exact hS.imp fun h' hq => ⟨(true), rfl, hq⟩
          · have hS := hF hb138; clear hT hF
            refine Run.go rfl rfl rfl (sem_binI .i64 (i137) (1099511627776) (.bool false) rfl rfl (binI_gtr_f hb138) ?_)
            refine Run.go rfl rfl rfl (sem_pick false ((Value.bool false)) rfl rfl ?_)
            refine Run.region_end ?_
            refine Run.condF rfl ?_
            refine Run.skip ?_
            exact Run.of_fin (hS.imp fun h' hS => j64 _ _ ⟨⟨rfl, rfl, rfl, rfl, rfl, rfl, rfl, rfl, trivial⟩, hS⟩)
      · have hS := hF hb56; clear hT hF
        refine Run.go rfl rfl rfl (sem_binI .i64 (i50) ((n2 : Nat)) (.bool false) rfl rfl (binI_lss_f hb56) ?_)
        refine Run.region_end ?_
        refine Run.seq ?_
        refine Run.condF rfl ?_
        refine Run.exit rfl ?_
        exact Run.of_fin (hS.imp fun h' hS => j16 _ _ ⟨⟨rfl, rfl, trivial⟩, hS⟩)
    refine Run.seq ?_
    refine Run.ops0 (idx := [0, 1, 2, 3, 4, 5, 6, 7]) rfl ?_
    refine Run.go rfl rfl rfl (sem_move ((Value.slice a1 n2 c3)) rfl ?_)
    refine Run.go rfl rfl rfl (sem_lenSl a1 n2 c3 rfl TF.sl_64 ?_)
    obtain ⟨hT, hF⟩ := hS
    by_cases hb139 : ((n2 : Nat) : Int) > (80)
    · have hS := hT hb139; clear hT hF
      refine Run.go rfl rfl rfl (sem_binI .i64 ((n2 : Nat)) (80) (.bool true) rfl rfl (binI_gtr_t hb139) ?_)
      refine Run.go rfl rfl rfl (sem_move ((Value.bool true)) rfl ?_)
      refine Run.no rfl rfl rfl ?_
      refine Run.no rfl rfl rfl ?_
      refine Run.no rfl rfl rfl ?_
      refine Run.go rfl rfl rfl (sem_pick true ((Value.bool true)) rfl rfl ?_)
      refine Run.region_end ?_
      refine Run.condT rfl ?_
      refine Run.seq ?_
      refine Run.ops0 (idx := [0]) rfl ?_
      refine Run.go rfl rfl rfl (sem_assign ((Value.bool true)) rfl ?_)
      refine Run.region_end ?_
      refine Run.ret ⟨.inr rfl, ?_⟩
      exact hS.imp fun h' hq => ⟨(true), rfl, hq⟩
    · have hS := hF hb139; clear hT hF
      refine Run.go rfl rfl rfl (sem_binI .i64 ((n2 : Nat)) (80) (.bool false) rfl rfl (binI_gtr_f hb139) ?_)
      refine Run.go rfl rfl rfl (sem_move ((Value.bool false)) rfl ?_)
      refine Run.go rfl rfl rfl (sem_move ((Value.slice a4 n5 c6)) rfl ?_)
      refine Run.go rfl rfl rfl (sem_lenSl a4 n5 c6 rfl TF.sl_65 ?_)
      obtain ⟨hT, hF⟩ := hS
      by_cases hb140 : ((n5 : Nat) : Int) > (80)
      · have hS := hT hb140; clear hT hF
        refine Run.go rfl rfl rfl (sem_binI .i64 ((n5 : Nat)) (80) (.bool true) rfl rfl (binI_gtr_t hb140) ?_)
        refine Run.go rfl rfl rfl (sem_pick false ((Value.bool true)) rfl rfl ?_)
        refine Run.region_end ?_
        refine Run.condT rfl ?_
        refine Run.seq ?_
        refine Run.ops0 (idx := [0]) rfl ?_
        refine Run.go rfl rfl rfl (sem_assign ((Value.bool true)) rfl ?_)
        refine Run.region_end ?_
        refine Run.ret ⟨.inr rfl, ?_⟩
        exact hS.imp fun h' hq => ⟨(true), rfl, hq⟩
      · have hS := hF hb140; clear hT hF
        refine Run.go rfl rfl rfl (sem_binI .i64 ((n5 : Nat)) (80) (.bool false) rfl rfl (binI_gtr_f hb140) ?_)
        refine Run.go rfl rfl rfl (sem_pick false ((Value.bool false)) rfl rfl ?_)
        refine Run.region_end ?_
        refine Run.condF rfl ?_
        refine Run.skip ?_
        exact Run.of_fin (hS.imp fun h' hS => j10 _ _ ⟨⟨rfl, rfl, trivial⟩, hS⟩)
set_option maxHeartbeats 4000000 in
theorem C_countermandlaw16_alive.of {B : RO} {h : Heap} {Q : Bool → Heap → Prop} (hS : S_countermandlaw16_alive B h Q) : C_countermandlaw16_alive B h Q := by
  unfold S_countermandlaw16_alive at hS
  unfold C_countermandlaw16_alive
  refine Spec.of_run Try.func35 (N := 25) (rs := [ResultVar.tmp 0]) rfl rfl rfl (Nat.le_of_ble_eq_true rfl) ?_
  refine Run.seq ?_
  refine Run.ops0 (idx := [0]) rfl ?_
  refine Run.go rfl rfl rfl (sem_assign ((Value.bool false)) rfl ?_)
  refine Run.region_end ?_
  refine Run.seq ?_
  refine Run.ops0 (idx := [0, 1, 2]) rfl ?_
  refine Run.go rfl rfl rfl (sem_buildSL [] [(Value.slice none 0 0), (Value.slice none 0 0), (Value.slice none 0 0), (Value.slice none 0 0)] TF.zero_69 TF.places_69 rfl rfl ?_)
  refine Run.go rfl rfl rfl (sem_boxNN [(Value.slice none 0 0), (Value.slice none 0 0), (Value.slice none 0 0), (Value.slice none 0 0)] rfl (fun k2 hb1 hb2 h3 hb3 => ?_))
  have hS := hS k2 hb1 hb2 h3 hb3
  refine Run.go rfl rfl rfl (sem_assign ((Value.pointer (some ⟨k2, 0, none⟩))) rfl ?_)
  refine Run.region_end ?_
  refine Run.seqJ (fun e h5 => Agree [(1, (Value.pointer (some ⟨k2, 0, none⟩)))] e ∧ S_countermandlaw16_alive_J1 B k2 h5 Q) ?_ fun j4 => ?_
  · rintro e h5 ⟨hag, hS⟩
    refine Run.env hag ?_; clear hag
    refine Run.seq ?_
    refine Run.ops0 (idx := [0, 1, 2]) rfl ?_
    refine Run.go rfl rfl rfl (sem_move ((Value.pointer (some ⟨k2, 0, none⟩))) rfl ?_)
    refine Run.go rfl rfl rfl (sem_callL [(Value.pointer (some ⟨k2, 0, none⟩))] (TF.goes_39) rfl rfl (Spec.mono hS fun v h6 hv => ?_))
    obtain ⟨a7, n8, c9, rfl, hS⟩ := hv
    refine Run.go rfl rfl rfl (sem_assign ((Value.slice a7 n8 c9)) rfl ?_)
    refine Run.region_end ?_
    refine Run.seq ?_
    refine Run.ops0 (idx := [0, 1, 2, 3, 4, 5, 6, 7, 8, 9, 10]) rfl ?_
    refine Run.go rfl rfl rfl (sem_move ((Value.slice a7 n8 c9)) rfl ?_)
    refine Run.go rfl rfl rfl (sem_lenSl a7 n8 c9 rfl TF.sl_64 ?_)
    obtain ⟨hT, hF⟩ := hS
    by_cases hb10 : ((n8 : Nat) : Int) = 2
    · have hS := hT hb10; clear hT hF
      refine Run.go rfl rfl rfl (sem_binI .i64 ((n8 : Nat)) (2) (.bool true) rfl rfl (binI_eql_t hb10) ?_)
      refine Run.go rfl rfl rfl (sem_move ((Value.bool true)) rfl ?_)
      refine Run.go rfl rfl rfl (sem_move ((Value.slice a7 n8 c9)) rfl ?_)
      obtain ⟨A11, e12, hi0, hi1, hS⟩ := hS
      refine Run.go rfl rfl rfl (sem_indexAddrS A11 n8 c9 .i64 (0) (congrArg (fun a => Value.slice a n8 c9) e12) rfl TF.slc_64 hi0 hi1 ?_)
      obtain ⟨i13, i14, hl, hS⟩ := hS
      refine Run.go rfl rfl rfl (sem_loadN (Addr.add A11 (Int.toNat (0) * 2)) [(Value.int .i64 (i13)), (Value.int .i64 (i14))] rfl TF.agg_72 TF.sz_72 hl ?_)
      refine Run.go rfl rfl rfl (sem_buildSL [(0, (Value.int .i64 (2))), (1, (Value.int .i64 ((-3))))] [(Value.int .i64 (2)), (Value.int .i64 ((-3)))] TF.zero_72 TF.places_72 rfl rfl ?_)
      refine Run.go rfl rfl rfl (sem_aggEq [(Value.int .i64 (i13)), (Value.int .i64 (i14))] [(Value.int .i64 (2)), (Value.int .i64 ((-3)))] _ ((decide (eqL [(Value.int .i64 (i13)), (Value.int .i64 (i14))] [(Value.int .i64 (2)), (Value.int .i64 ((-3)))] = true))) (.inl rfl) rfl rfl TF.agg_72 TF.flat_72 TF.eqg_72 ⟨⟨_, rfl⟩, ⟨_, rfl⟩, trivial⟩ ⟨⟨_, rfl⟩, ⟨_, rfl⟩, trivial⟩ eqLV_eql ?_)
      refine Run.go rfl rfl rfl (sem_pick true ((Value.bool (decide (eqL [(Value.int .i64 (i13)), (Value.int .i64 (i14))] [(Value.int .i64 (2)), (Value.int .i64 ((-3)))] = true)))) rfl rfl ?_)
      refine Run.go rfl rfl rfl (sem_assign ((Value.bool (decide (eqL [(Value.int .i64 (i13)), (Value.int .i64 (i14))] [(Value.int .i64 (2)), (Value.int .i64 ((-3)))] = true)))) rfl ?_)
      refine Run.region_end ?_
      refine Run.ret ⟨.inr rfl, ?_⟩
      exact hS.imp fun h' hq => ⟨((decide (eqL [(Value.int .i64 (i13)), (Value.int .i64 (i14))] [(Value.int .i64 (2)), (Value.int .i64 ((-3)))] = true))), rfl, hq⟩
    · have hS := hF hb10; clear hT hF
      refine Run.go rfl rfl rfl (sem_binI .i64 ((n8 : Nat)) (2) (.bool false) rfl rfl (binI_eql_f hb10) ?_)
      refine Run.go rfl rfl rfl (sem_move ((Value.bool false)) rfl ?_)
      refine Run.no rfl rfl rfl ?_
      refine Run.no rfl rfl rfl ?_
      refine Run.no rfl rfl rfl ?_
      refine Run.no rfl rfl rfl ?_
      refine Run.no rfl rfl rfl ?_
      refine Run.go rfl rfl rfl (sem_pick false ((Value.bool false)) rfl rfl ?_)
      refine Run.go rfl rfl rfl (sem_assign ((Value.bool false)) rfl ?_)
      refine Run.region_end ?_
      refine Run.ret ⟨.inr rfl, ?_⟩
      exact hS.imp fun h' hq => ⟨(false), rfl, hq⟩
  refine Run.seq ?_
  refine Run.ops0 (idx := [0, 1, 2, 3, 4, 5, 6, 7]) rfl ?_
  refine Run.go rfl rfl rfl (sem_move ((Value.pointer (some ⟨k2, 0, none⟩))) rfl ?_)
  refine Run.go rfl rfl rfl (sem_callL [(Value.pointer (some ⟨k2, 0, none⟩)), (Value.int .i64 (1)), (Value.int .i64 (5))] (TF.goes_36) rfl rfl (Spec.mono hS fun v h15 hv => ?_))
  obtain ⟨b16, rfl, hS⟩ := hv
  obtain ⟨hT, hF⟩ := hS
  cases b16
  · have hS := hF rfl; clear hT hF
    refine Run.go rfl rfl rfl (sem_not false rfl ?_)
    refine Run.go rfl rfl rfl (sem_move ((Value.bool true)) rfl ?_)
    refine Run.no rfl rfl rfl ?_
    refine Run.no rfl rfl rfl ?_
    refine Run.no rfl rfl rfl ?_
    refine Run.go rfl rfl rfl (sem_pick true ((Value.bool true)) rfl rfl ?_)
    refine Run.region_end ?_
    refine Run.condT rfl ?_
    refine Run.seq ?_
    refine Run.ops0 (idx := [0]) rfl ?_
    refine Run.go rfl rfl rfl (sem_assign ((Value.bool false)) rfl ?_)
    refine Run.region_end ?_
    refine Run.ret ⟨.inr rfl, ?_⟩
    exact hS.imp fun h' hq => ⟨(false), rfl, hq⟩
  · have hS := hT rfl; clear hT hF
    refine Run.go rfl rfl rfl (sem_not true rfl ?_)
    refine Run.go rfl rfl rfl (sem_move ((Value.bool false)) rfl ?_)
    refine Run.go rfl rfl rfl (sem_move ((Value.pointer (some ⟨k2, 0, none⟩))) rfl ?_)
    refine Run.go rfl rfl rfl (sem_callL [(Value.pointer (some ⟨k2, 0, none⟩)), (Value.int .i64 (2)), (Value.int .i64 (3))] (TF.goes_36) rfl rfl (Spec.mono hS fun v h17 hv => ?_))
    obtain ⟨b18, rfl, hS⟩ := hv
    obtain ⟨hT, hF⟩ := hS
    cases b18
    · have hS := hF rfl; clear hT hF
      refine Run.go rfl rfl rfl (sem_not false rfl ?_)
      refine Run.go rfl rfl rfl (sem_pick false ((Value.bool true)) rfl rfl ?_)
      refine Run.region_end ?_
      refine Run.condT rfl ?_
      refine Run.seq ?_
      refine Run.ops0 (idx := [0]) rfl ?_
      refine Run.go rfl rfl rfl (sem_assign ((Value.bool false)) rfl ?_)
      refine Run.region_end ?_
      refine Run.ret ⟨.inr rfl, ?_⟩
      exact hS.imp fun h' hq => ⟨(false), rfl, hq⟩
    · have hS := hT rfl; clear hT hF
      refine Run.go rfl rfl rfl (sem_not true rfl ?_)
      refine Run.go rfl rfl rfl (sem_pick false ((Value.bool false)) rfl rfl ?_)
      refine Run.region_end ?_
      refine Run.condF rfl ?_
      refine Run.skip ?_
      exact Run.of_fin (hS.imp fun h' hS => j4 _ _ ⟨⟨rfl, trivial⟩, hS⟩)
set_option maxHeartbeats 4000000 in
theorem C_acts_Acts_Opened.of {B : RO} {p1 : Option Addr} {i2 : Int} {i3 : Int} {h : Heap} {Q : Bool → Heap → Prop} (hS : S_acts_Acts_Opened B p1 i2 i3 h Q) : C_acts_Acts_Opened B p1 i2 i3 h Q := by
  unfold S_acts_Acts_Opened at hS
  unfold C_acts_Acts_Opened
  refine Spec.of_run Try.func36 (N := 29) (rs := [ResultVar.tmp 6]) rfl rfl rfl (Nat.le_of_ble_eq_true rfl) ?_
  refine Run.seq ?_
  refine Run.ops0 (idx := [0]) rfl ?_
  refine Run.go rfl rfl rfl (sem_assign ((Value.bool false)) rfl ?_)
  refine Run.region_end ?_
  refine Run.seqJ (fun e h6 => Agree [(0, (Value.pointer p1)), (1, (Value.int .i64 (i2))), (2, (Value.int .i64 (i3)))] e ∧ S_acts_Acts_Opened_J1 B p1 i2 i3 h6 Q) ?_ fun j5 => ?_
  · rintro e h6 ⟨hag, hS⟩
    refine Run.env hag ?_; clear hag
    refine Run.seq ?_
    refine Run.ops0 (idx := [0, 1, 2, 3, 4, 5, 6, 7, 8, 9, 10, 11, 12]) rfl ?_
    refine Run.go rfl rfl rfl (sem_move ((Value.pointer p1)) rfl ?_)
    refine Run.go rfl rfl rfl (sem_move ((Value.pointer p1)) rfl ?_)
    obtain ⟨A7, e8, hS⟩ := hS
    refine Run.go rfl rfl rfl (sem_nilCheck A7 (congrArg Value.pointer e8) ?_)
    refine Run.go rfl rfl rfl (sem_fieldAddr A7 3 rfl TF.fld_69_3 ?_)
    refine Run.ldSl hS fun a9 n10 c11 h12 hl hS => ?_
    refine Run.go rfl rfl rfl (sem_load1 (Addr.add A7 3) ((Value.slice a9 n10 c11)) rfl TF.agg_64 hl ?_)
    refine Run.go rfl rfl rfl (sem_move ((Value.int .i64 (i2))) rfl ?_)
    refine Run.go rfl rfl rfl (sem_move ((Value.int .i64 (i3))) rfl ?_)
    refine Run.go rfl rfl rfl (sem_buildSL [(0, (Value.int .i64 (i2))), (1, (Value.int .i64 (i3)))] [(Value.int .i64 (i2)), (Value.int .i64 (i3))] TF.zero_72 TF.places_72 rfl rfl ?_)
    refine Run.go rfl rfl rfl (sem_buildSliceL [(0, (Value.agg #[(Value.int .i64 (i2)), (Value.int .i64 (i3))]))] [(Value.int .i64 (i2)), (Value.int .i64 (i3))] TF.slc_64 TF.zero_72 rfl (by decide) (by decide) rfl rfl (fun k13 hb1 hb2 h14 hb3 => ?_))
    have hS := hS k13 hb1 hb2 h14 hb3
    refine Run.go rfl rfl rfl (sem_appendL [(Value.slice a9 n10 c11), (Value.slice (some ⟨k13, 0, none⟩) 1 1)] rfl (semH_mono (fun v h15 hv => ?_) hS))
    obtain ⟨a16, n17, c18, rfl, hS⟩ := hv
    obtain ⟨A19, e20, hS⟩ := hS
    refine Run.go rfl rfl rfl (sem_nilCheck A19 (congrArg Value.pointer e20) ?_)
    refine Run.go rfl rfl rfl (sem_fieldAddr A19 3 rfl TF.fld_69_3 ?_)
    obtain ⟨h21, hst, hS⟩ := hS
    refine Run.go rfl rfl rfl (sem_store1 (Addr.add A19 3) ((Value.slice a16 n17 c18)) h21 rfl rfl rfl TF.sz_64 hst ?_)
    refine Run.region_end ?_
    refine Run.seq ?_
    refine Run.ops0 (idx := [0]) rfl ?_
    refine Run.go rfl rfl rfl (sem_assign ((Value.bool true)) rfl ?_)
    refine Run.region_end ?_
    refine Run.ret ⟨.inr rfl, ?_⟩
    exact hS.imp fun h' hq => ⟨(true), rfl, hq⟩
  refine Run.seq ?_
  refine Run.ops0 (idx := [0, 1, 2, 3, 4, 5, 6, 7, 8, 9]) rfl ?_
  refine Run.go rfl rfl rfl (sem_move ((Value.pointer p1)) rfl ?_)
  obtain ⟨hT, hF⟩ := hS
  by_cases hb22 : p1 = none
  · have hS := hT hb22; clear hT hF
    refine Run.go rfl rfl rfl (sem_ptrNilT p1 (.inl rfl) true rfl rfl TF.ptr_66 hb22 rfl ?_)
    refine Run.go rfl rfl rfl (sem_move ((Value.bool true)) rfl ?_)
    refine Run.no rfl rfl rfl ?_
    refine Run.no rfl rfl rfl ?_
    refine Run.go rfl rfl rfl (sem_pick true ((Value.bool true)) rfl rfl ?_)
    refine Run.go rfl rfl rfl (sem_move ((Value.bool true)) rfl ?_)
    refine Run.no rfl rfl rfl ?_
    refine Run.no rfl rfl rfl ?_
    refine Run.go rfl rfl rfl (sem_pick true ((Value.bool true)) rfl rfl ?_)
    refine Run.region_end ?_
    refine Run.condT rfl ?_
    refine Run.seq ?_
    refine Run.ops0 (idx := [0]) rfl ?_
    refine Run.go rfl rfl rfl (sem_assign ((Value.bool false)) rfl ?_)
    refine Run.region_end ?_
    refine Run.ret ⟨.inr rfl, ?_⟩
    exact hS.imp fun h' hq => ⟨(false), rfl, hq⟩
  · have hS := hF hb22; clear hT hF
    refine Run.go rfl rfl rfl (sem_ptrNilF p1 (.inl rfl) false rfl rfl TF.ptr_66 hb22 rfl ?_)
    refine Run.go rfl rfl rfl (sem_move ((Value.bool false)) rfl ?_)
    refine Run.go rfl rfl rfl (sem_move ((Value.int .i64 (i2))) rfl ?_)
    obtain ⟨hT, hF⟩ := hS
    by_cases hb23 : (i2 : Int) < (0)
    · have hS := hT hb23; clear hT hF
      refine Run.go rfl rfl rfl (sem_binI .i64 (i2) (0) (.bool true) rfl rfl (binI_lss_t hb23) ?_)
      refine Run.go rfl rfl rfl (sem_pick false ((Value.bool true)) rfl rfl ?_)
      refine Run.go rfl rfl rfl (sem_move ((Value.bool true)) rfl ?_)
      refine Run.no rfl rfl rfl ?_
      refine Run.no rfl rfl rfl ?_
      refine Run.go rfl rfl rfl (sem_pick true ((Value.bool true)) rfl rfl ?_)
      refine Run.region_end ?_
      refine Run.condT rfl ?_
      refine Run.seq ?_
      refine Run.ops0 (idx := [0]) rfl ?_
      refine Run.go rfl rfl rfl (sem_assign ((Value.bool false)) rfl ?_)
      refine Run.region_end ?_
      refine Run.ret ⟨.inr rfl, ?_⟩
      exact hS.imp fun h' hq => ⟨(false), rfl, hq⟩
    · have hS := hF hb23; clear hT hF
      refine Run.go rfl rfl rfl (sem_binI .i64 (i2) (0) (.bool false) rfl rfl (binI_lss_f hb23) ?_)
      refine Run.go rfl rfl rfl (sem_pick false ((Value.bool false)) rfl rfl ?_)
      refine Run.go rfl rfl rfl (sem_move ((Value.bool false)) rfl ?_)
      refine Run.go rfl rfl rfl (sem_move ((Value.int .i64 (i2))) rfl ?_)
      obtain ⟨hT, hF⟩ := hS
      by_cases hb24 : (i2 : Int) ≥ (4)
      · have hS := hT hb24; clear hT hF
        refine Run.go rfl rfl rfl (sem_binI .i64 (i2) (4) (.bool true) rfl rfl (binI_geq_t hb24) ?_)
        refine Run.go rfl rfl rfl (sem_pick false ((Value.bool true)) rfl rfl ?_)
        refine Run.region_end ?_
        refine Run.condT rfl ?_
        refine Run.seq ?_
        refine Run.ops0 (idx := [0]) rfl ?_
        refine Run.go rfl rfl rfl (sem_assign ((Value.bool false)) rfl ?_)
        refine Run.region_end ?_
        refine Run.ret ⟨.inr rfl, ?_⟩
        exact hS.imp fun h' hq => ⟨(false), rfl, hq⟩
      · have hS := hF hb24; clear hT hF
        refine Run.go rfl rfl rfl (sem_binI .i64 (i2) (4) (.bool false) rfl rfl (binI_geq_f hb24) ?_)
        refine Run.go rfl rfl rfl (sem_pick false ((Value.bool false)) rfl rfl ?_)
        refine Run.region_end ?_
        refine Run.condF rfl ?_
        refine Run.skip ?_
        exact Run.of_fin (hS.imp fun h' hS => j5 _ _ ⟨⟨rfl, rfl, rfl, trivial⟩, hS⟩)
set_option maxHeartbeats 4000000 in
theorem C_acts_Acts_Mark.of {B : RO} {p1 : Option Addr} {h : Heap} {Q : Int → Int → Int → Int → Heap → Prop} (hS : S_acts_Acts_Mark B p1 h Q) : C_acts_Acts_Mark B p1 h Q := by
  unfold S_acts_Acts_Mark at hS
  unfold C_acts_Acts_Mark
  refine Spec.of_run Try.func37 (N := 27) (rs := [ResultVar.cell 2 73]) rfl rfl rfl (Nat.le_of_ble_eq_true rfl) ?_
  refine Run.seq ?_
  refine Run.ops0 (idx := [0]) rfl ?_
  refine Run.go rfl rfl rfl (sem_allocN [(Value.int .i64 (0)), (Value.int .i64 (0)), (Value.int .i64 (0)), (Value.int .i64 (0))] TF.zero_73 (fun k6 hb1 hb2 h7 hb3 => ?_))
  have hS := hS k6 hb1 hb2 h7 hb3
  refine Run.region_end ?_
  refine Run.seq ?_
  refine Run.seq ?_
  refine Run.ops0 (idx := [0, 1]) rfl ?_
  refine Run.go rfl rfl rfl (sem_move ((Value.pointer p1)) rfl ?_)
  obtain ⟨hT, hF⟩ := hS
  by_cases hb8 : p1 = none
  · have hS := hT hb8; clear hT hF
    refine Run.go rfl rfl rfl (sem_ptrNilT p1 (.inl rfl) true rfl rfl TF.ptr_66 hb8 rfl ?_)
    refine Run.region_end ?_
    refine Run.condT rfl ?_
    refine Run.seq ?_
    refine Run.ops0 (idx := [0, 1]) rfl ?_
    refine Run.go rfl rfl rfl (sem_buildAL [] [(Value.int .i64 (0)), (Value.int .i64 (0)), (Value.int .i64 (0)), (Value.int .i64 (0))] TF.zero_73 TF.arr_73 rfl rfl ?_)
    obtain ⟨h9, hst, hS⟩ := hS
    refine Run.go rfl rfl rfl (sem_storeN ⟨k6, 0, none⟩ [(Value.int .i64 (0)), (Value.int .i64 (0)), (Value.int .i64 (0)), (Value.int .i64 (0))] h9 rfl rfl TF.sz_73 hst ?_)
    refine Run.region_end ?_
    obtain ⟨i10, i11, i12, i13, hl0, hS⟩ := hS
    refine Run.ret ⟨.inr rfl, ?_⟩
    exact ⟨⟨k6, 0, none⟩, (Value.agg #[(Value.int .i64 (i10)), (Value.int .i64 (i11)), (Value.int .i64 (i12)), (Value.int .i64 (i13))]), rfl, loadHN TF.agg_73 TF.sz_73 hl0, hS.imp fun h' hq => ⟨(i10), (i11), (i12), (i13), rfl, hq⟩⟩
  · have hS := hF hb8; clear hT hF
    refine Run.go rfl rfl rfl (sem_ptrNilF p1 (.inl rfl) false rfl rfl TF.ptr_66 hb8 rfl ?_)
    refine Run.region_end ?_
    refine Run.condF rfl ?_
    refine Run.skip ?_
    refine Run.seq ?_
    refine Run.draw (fun h' => h' = h7) [21] [.q 0, .q 1, .q 2, .q 3, .q 4, .q 5, .q 6, .q 7, .q 8, .q 9, .q 10, .q 11, .q 12, .q 13, .q 14, .q 15, .q 16, .q 17, .q 18, .q 19, .q 20, .x 21] TF.mixed (by kernel_rfl) rfl ?_
    refine RunO.quiet rfl rfl rfl (quiet_eq (sem_move ((Value.pointer p1)) rfl ⟨rfl, rfl⟩)) ?_
    obtain ⟨A14, e15, hS⟩ := hS
    refine RunO.quiet rfl rfl rfl (quiet_eq (sem_nilCheck A14 (congrArg Value.pointer e15) ⟨rfl, rfl⟩)) ?_
    refine RunO.quiet rfl rfl rfl (quiet_eq (sem_fieldAddr A14 0 rfl TF.fld_69_0 ⟨rfl, rfl⟩)) ?_
    obtain ⟨a16, n17, c18, hl, hS⟩ := hS
    refine RunO.quiet rfl rfl rfl (quiet_eq (sem_load1 A14 ((Value.slice a16 n17 c18)) rfl TF.agg_67 hl ⟨rfl, rfl⟩)) ?_
    refine RunO.quiet rfl rfl rfl (quiet_eq (sem_lenSl a16 n17 c18 rfl TF.sl_67 ⟨rfl, rfl⟩)) ?_
    refine RunO.quiet rfl rfl rfl (quiet_eq (sem_move ((Value.pointer p1)) rfl ⟨rfl, rfl⟩)) ?_
    obtain ⟨A19, e20, hS⟩ := hS
    refine RunO.quiet rfl rfl rfl (quiet_eq (sem_nilCheck A19 (congrArg Value.pointer e20) ⟨rfl, rfl⟩)) ?_
    refine RunO.quiet rfl rfl rfl (quiet_eq (sem_fieldAddr A19 1 rfl TF.fld_69_1 ⟨rfl, rfl⟩)) ?_
    obtain ⟨a21, n22, c23, hl, hS⟩ := hS
    refine RunO.quiet rfl rfl rfl (quiet_eq (sem_load1 (Addr.add A19 1) ((Value.slice a21 n22 c23)) rfl TF.agg_67 hl ⟨rfl, rfl⟩)) ?_
    refine RunO.quiet rfl rfl rfl (quiet_eq (sem_lenSl a21 n22 c23 rfl TF.sl_67 ⟨rfl, rfl⟩)) ?_
    refine RunO.quiet rfl rfl rfl (quiet_eq (sem_move ((Value.pointer p1)) rfl ⟨rfl, rfl⟩)) ?_
    obtain ⟨A24, e25, hS⟩ := hS
    refine RunO.quiet rfl rfl rfl (quiet_eq (sem_nilCheck A24 (congrArg Value.pointer e25) ⟨rfl, rfl⟩)) ?_
    refine RunO.quiet rfl rfl rfl (quiet_eq (sem_fieldAddr A24 2 rfl TF.fld_69_2 ⟨rfl, rfl⟩)) ?_
    obtain ⟨a26, n27, c28, hl, hS⟩ := hS
    refine RunO.quiet rfl rfl rfl (quiet_eq (sem_load1 (Addr.add A24 2) ((Value.slice a26 n27 c28)) rfl TF.agg_65 hl ⟨rfl, rfl⟩)) ?_
    refine RunO.quiet rfl rfl rfl (quiet_eq (sem_lenSl a26 n27 c28 rfl TF.sl_65 ⟨rfl, rfl⟩)) ?_
    refine RunO.quiet rfl rfl rfl (quiet_eq (sem_move ((Value.pointer p1)) rfl ⟨rfl, rfl⟩)) ?_
    obtain ⟨A29, e30, hS⟩ := hS
    refine RunO.quiet rfl rfl rfl (quiet_eq (sem_nilCheck A29 (congrArg Value.pointer e30) ⟨rfl, rfl⟩)) ?_
    refine RunO.quiet rfl rfl rfl (quiet_eq (sem_fieldAddr A29 3 rfl TF.fld_69_3 ⟨rfl, rfl⟩)) ?_
    obtain ⟨a31, n32, c33, hl, hS⟩ := hS
    refine RunO.quiet rfl rfl rfl (quiet_eq (sem_load1 (Addr.add A29 3) ((Value.slice a31 n32 c33)) rfl TF.agg_64 hl ⟨rfl, rfl⟩)) ?_
    refine RunO.quiet rfl rfl rfl (quiet_eq (sem_lenSl a31 n32 c33 rfl TF.sl_64 ⟨rfl, rfl⟩)) ?_
    refine RunO.quiet rfl rfl rfl (quiet_eq (sem_buildAL [(0, (Value.int .i64 ((n17 : Nat)))), (1, (Value.int .i64 ((n22 : Nat)))), (2, (Value.int .i64 ((n27 : Nat)))), (3, (Value.int .i64 ((n32 : Nat))))] [(Value.int .i64 ((n17 : Nat))), (Value.int .i64 ((n22 : Nat))), (Value.int .i64 ((n27 : Nat))), (Value.int .i64 ((n32 : Nat)))] TF.zero_73 TF.arr_73 rfl rfl ⟨rfl, rfl⟩)) ?_
    obtain ⟨h34, hst, hS⟩ := hS
    refine OpH.go rfl rfl rfl (sem_storeN ⟨k6, 0, none⟩ [(Value.int .i64 ((n17 : Nat))), (Value.int .i64 ((n22 : Nat))), (Value.int .i64 ((n27 : Nat))), (Value.int .i64 ((n32 : Nat)))] h34 rfl rfl TF.sz_73 hst ?_)
    refine ⟨fun hz => Bool.noConfusion hz, ?_⟩
    obtain ⟨i35, i36, i37, i38, hl0, hS⟩ := hS
    refine Run.ret ⟨.inr rfl, ?_⟩
    exact ⟨⟨k6, 0, none⟩, (Value.agg #[(Value.int .i64 (i35)), (Value.int .i64 (i36)), (Value.int .i64 (i37)), (Value.int .i64 (i38))]), rfl, loadHN TF.agg_73 TF.sz_73 hl0, hS.imp fun h' hq => ⟨(i35), (i36), (i37), (i38), rfl, hq⟩⟩
set_option maxHeartbeats 4000000 in
theorem C_acts_Acts_Back.of {B : RO} {p1 : Option Addr} {i2 : Int} {i3 : Int} {i4 : Int} {i5 : Int} {h : Heap} {Q : Option Addr → Nat → Nat → Heap → Prop} (hS : S_acts_Acts_Back B p1 i2 i3 i4 i5 h Q) : C_acts_Acts_Back B p1 i2 i3 i4 i5 h Q := by
  unfold S_acts_Acts_Back at hS
  unfold C_acts_Acts_Back
  refine Spec.of_run Try.func38 (N := 59) (rs := [ResultVar.tmp 4]) rfl rfl rfl (Nat.le_of_ble_eq_true rfl) ?_
  refine Run.seq ?_
  refine Run.ops0 (idx := [0, 1]) rfl ?_
  refine Run.go rfl rfl rfl (sem_boxNN [(Value.int .i64 (i2)), (Value.int .i64 (i3)), (Value.int .i64 (i4)), (Value.int .i64 (i5))] rfl (fun k9 hb1 hb2 h10 hb3 => ?_))
  have hS := hS k9 hb1 hb2 h10 hb3
  refine Run.go rfl rfl rfl (sem_assign ((Value.slice none 0 0)) rfl ?_)
  refine Run.region_end ?_
  refine Run.seq ?_
  refine Run.seq ?_
  refine Run.ops0 (idx := [0, 1]) rfl ?_
  refine Run.go rfl rfl rfl (sem_move ((Value.pointer p1)) rfl ?_)
  obtain ⟨hT, hF⟩ := hS
  by_cases hb11 : p1 = none
  · have hS := hT hb11; clear hT hF
    refine Run.go rfl rfl rfl (sem_ptrNilT p1 (.inl rfl) true rfl rfl TF.ptr_66 hb11 rfl ?_)
    refine Run.region_end ?_
    refine Run.condT rfl ?_
    refine Run.seq ?_
    refine Run.ops0 (idx := [0]) rfl ?_
    refine Run.go rfl rfl rfl (sem_assign ((Value.slice none 0 0)) rfl ?_)
    refine Run.region_end ?_
    refine Run.ret ⟨.inr rfl, ?_⟩
    exact hS.imp fun h' hq => ⟨none, 0, 0, rfl, hq⟩
  · have hS := hF hb11; clear hT hF
    refine Run.go rfl rfl rfl (sem_ptrNilF p1 (.inl rfl) false rfl rfl TF.ptr_66 hb11 rfl ?_)
    refine Run.region_end ?_
    refine Run.condF rfl ?_
    refine Run.skip ?_
    refine Run.seq ?_
    skip
    skip
    obtain ⟨A14, e15, hS⟩ := hS
    skip
    skip
    obtain ⟨a18, n19, c20, hl, hS⟩ := hS
    have f21 := hl
    obtain ⟨hi0, hi1, hS⟩ := hS
    have f23 := hi0; have f24 := hi1
    obtain ⟨i25, hl, hS⟩ := hS
    have f26 := hl
    refine Run.draw (fun h' => cellH B h' A14 = some (Value.slice a18 n19 c20) ∧ cellH B h' ⟨k9, 0, none⟩ = some (Value.int .i64 (i25)) ∧ True) [10] [.q 0, .q 1, .q 2, .q 3, .q 4, .q 5, .q 6, .x 7, .q 8, .q 9, .x 10] TF.mixed (by kernel_rfl) ⟨f21, f26, trivial⟩ ?_
    refine RunO.quiet rfl rfl rfl (fun h' hC => sem_move ((Value.pointer p1)) rfl ⟨rfl, rfl⟩) ?_
    refine RunO.quiet rfl rfl rfl (fun h' hC => sem_move ((Value.pointer p1)) rfl ⟨rfl, rfl⟩) ?_
    refine RunO.quiet rfl rfl rfl (fun h' hC => sem_nilCheck A14 (congrArg Value.pointer e15) ⟨rfl, rfl⟩) ?_
    refine RunO.quiet rfl rfl rfl (fun h' hC => sem_fieldAddr A14 0 rfl TF.fld_69_0 ⟨rfl, rfl⟩) ?_
    refine RunO.quiet rfl rfl rfl (fun h' hC => sem_load1 A14 ((Value.slice a18 n19 c20)) rfl TF.agg_67 hC.1 ⟨rfl, rfl⟩) ?_
    refine RunO.quiet rfl rfl rfl (fun h' hC => sem_indexAddrA ⟨k9, 0, none⟩ .i64 (0) rfl rfl TF.arr_73 f23 f24 ⟨rfl, rfl⟩) ?_
    refine RunO.quiet rfl rfl rfl (fun h' hC => sem_load1 ⟨k9, 0, none⟩ ((Value.int .i64 (i25))) rfl TF.agg_3 hC.2.1 ⟨rfl, rfl⟩) ?_
    refine OpH.go rfl rfl rfl (sem_callL [(Value.slice a18 n19 c20), (Value.int .i64 (i25))] (TF.goes_72) rfl rfl (Spec.mono hS fun v h27 hv => ?_))
    obtain ⟨a28, n29, c30, rfl, hS⟩ := hv
    obtain ⟨g31, g32, hS⟩ := hS
    refine ⟨fun _ => ⟨g31, g32, trivial⟩, ?_⟩
    obtain ⟨A33, e34, hS⟩ := hS
    refine RunO.quiet rfl rfl rfl (fun h' hC => sem_nilCheck A33 (congrArg Value.pointer e34) ⟨rfl, rfl⟩) ?_
    refine RunO.quiet rfl rfl rfl (fun h' hC => sem_fieldAddr A33 0 rfl TF.fld_69_0 ⟨rfl, rfl⟩) ?_
    obtain ⟨h35, hst, hS⟩ := hS
    refine OpH.go rfl rfl rfl (sem_store1 A33 ((Value.slice a28 n29 c30)) h35 rfl rfl rfl TF.sz_67 hst ?_)
    refine ⟨fun hz => Bool.noConfusion hz, ?_⟩
    refine Run.seq ?_
    skip
    skip
    obtain ⟨A38, e39, hS⟩ := hS
    skip
    skip
    obtain ⟨a42, n43, c44, hl, hS⟩ := hS
    have f45 := hl
    obtain ⟨hi0, hi1, hS⟩ := hS
    have f47 := hi0; have f48 := hi1
    obtain ⟨i49, hl, hS⟩ := hS
    have f50 := hl
    refine Run.draw (fun h' => cellH B h' (Addr.add A38 1) = some (Value.slice a42 n43 c44) ∧ cellH B h' ⟨k9, 1, none⟩ = some (Value.int .i64 (i49)) ∧ True) [10] [.q 0, .q 1, .q 2, .q 3, .q 4, .q 5, .q 6, .x 7, .q 8, .q 9, .x 10] TF.mixed (by kernel_rfl) ⟨f45, f50, trivial⟩ ?_
    refine RunO.quiet rfl rfl rfl (fun h' hC => sem_move ((Value.pointer p1)) rfl ⟨rfl, rfl⟩) ?_
    refine RunO.quiet rfl rfl rfl (fun h' hC => sem_move ((Value.pointer p1)) rfl ⟨rfl, rfl⟩) ?_
    refine RunO.quiet rfl rfl rfl (fun h' hC => sem_nilCheck A38 (congrArg Value.pointer e39) ⟨rfl, rfl⟩) ?_
    refine RunO.quiet rfl rfl rfl (fun h' hC => sem_fieldAddr A38 1 rfl TF.fld_69_1 ⟨rfl, rfl⟩) ?_
    refine RunO.quiet rfl rfl rfl (fun h' hC => sem_load1 (Addr.add A38 1) ((Value.slice a42 n43 c44)) rfl TF.agg_67 hC.1 ⟨rfl, rfl⟩) ?_
    refine RunO.quiet rfl rfl rfl (fun h' hC => sem_indexAddrA ⟨k9, 0, none⟩ .i64 (1) rfl rfl TF.arr_73 f47 f48 ⟨rfl, rfl⟩) ?_
    refine RunO.quiet rfl rfl rfl (fun h' hC => sem_load1 ⟨k9, 1, none⟩ ((Value.int .i64 (i49))) rfl TF.agg_3 hC.2.1 ⟨rfl, rfl⟩) ?_
    refine OpH.go rfl rfl rfl (sem_callL [(Value.slice a42 n43 c44), (Value.int .i64 (i49))] (TF.goes_72) rfl rfl (Spec.mono hS fun v h51 hv => ?_))
    obtain ⟨a52, n53, c54, rfl, hS⟩ := hv
    obtain ⟨g55, g56, hS⟩ := hS
    refine ⟨fun _ => ⟨g55, g56, trivial⟩, ?_⟩
    obtain ⟨A57, e58, hS⟩ := hS
    refine RunO.quiet rfl rfl rfl (fun h' hC => sem_nilCheck A57 (congrArg Value.pointer e58) ⟨rfl, rfl⟩) ?_
    refine RunO.quiet rfl rfl rfl (fun h' hC => sem_fieldAddr A57 1 rfl TF.fld_69_1 ⟨rfl, rfl⟩) ?_
    obtain ⟨h59, hst, hS⟩ := hS
    refine OpH.go rfl rfl rfl (sem_store1 (Addr.add A57 1) ((Value.slice a52 n53 c54)) h59 rfl rfl rfl TF.sz_67 hst ?_)
    refine ⟨fun hz => Bool.noConfusion hz, ?_⟩
    refine Run.seq ?_
    skip
    skip
    obtain ⟨A62, e63, hS⟩ := hS
    skip
    skip
    obtain ⟨a66, n67, c68, hl, hS⟩ := hS
    have f69 := hl
    obtain ⟨hi0, hi1, hS⟩ := hS
    have f71 := hi0; have f72 := hi1
    obtain ⟨i73, hl, hS⟩ := hS
    have f74 := hl
    refine Run.draw (fun h' => cellH B h' (Addr.add A62 2) = some (Value.slice a66 n67 c68) ∧ cellH B h' ⟨k9, 2, none⟩ = some (Value.int .i64 (i73)) ∧ True) [10] [.q 0, .q 1, .q 2, .q 3, .q 4, .q 5, .q 6, .x 7, .q 8, .q 9, .x 10] TF.mixed (by kernel_rfl) ⟨f69, f74, trivial⟩ ?_
    refine RunO.quiet rfl rfl rfl (fun h' hC => sem_move ((Value.pointer p1)) rfl ⟨rfl, rfl⟩) ?_
    refine RunO.quiet rfl rfl rfl (fun h' hC => sem_move ((Value.pointer p1)) rfl ⟨rfl, rfl⟩) ?_
    refine RunO.quiet rfl rfl rfl (fun h' hC => sem_nilCheck A62 (congrArg Value.pointer e63) ⟨rfl, rfl⟩) ?_
    refine RunO.quiet rfl rfl rfl (fun h' hC => sem_fieldAddr A62 2 rfl TF.fld_69_2 ⟨rfl, rfl⟩) ?_
    refine RunO.quiet rfl rfl rfl (fun h' hC => sem_load1 (Addr.add A62 2) ((Value.slice a66 n67 c68)) rfl TF.agg_65 hC.1 ⟨rfl, rfl⟩) ?_
    refine RunO.quiet rfl rfl rfl (fun h' hC => sem_indexAddrA ⟨k9, 0, none⟩ .i64 (2) rfl rfl TF.arr_73 f71 f72 ⟨rfl, rfl⟩) ?_
    refine RunO.quiet rfl rfl rfl (fun h' hC => sem_load1 ⟨k9, 2, none⟩ ((Value.int .i64 (i73))) rfl TF.agg_3 hC.2.1 ⟨rfl, rfl⟩) ?_
    refine OpH.go rfl rfl rfl (sem_callL [(Value.slice a66 n67 c68), (Value.int .i64 (i73))] (TF.goes_73) rfl rfl (Spec.mono hS fun v h75 hv => ?_))
    obtain ⟨a76, n77, c78, rfl, hS⟩ := hv
    obtain ⟨g79, g80, hS⟩ := hS
    refine ⟨fun _ => ⟨g79, g80, trivial⟩, ?_⟩
    obtain ⟨A81, e82, hS⟩ := hS
    refine RunO.quiet rfl rfl rfl (fun h' hC => sem_nilCheck A81 (congrArg Value.pointer e82) ⟨rfl, rfl⟩) ?_
    refine RunO.quiet rfl rfl rfl (fun h' hC => sem_fieldAddr A81 2 rfl TF.fld_69_2 ⟨rfl, rfl⟩) ?_
    obtain ⟨h83, hst, hS⟩ := hS
    refine OpH.go rfl rfl rfl (sem_store1 (Addr.add A81 2) ((Value.slice a76 n77 c78)) h83 rfl rfl rfl TF.sz_65 hst ?_)
    refine ⟨fun hz => Bool.noConfusion hz, ?_⟩
    refine Run.seq ?_
    skip
    obtain ⟨A85, e86, hS⟩ := hS
    skip
    skip
    obtain ⟨a89, n90, c91, hl, hS⟩ := hS
    have f92 := hl
    obtain ⟨hi0, hi1, hS⟩ := hS
    have f94 := hi0; have f95 := hi1
    obtain ⟨i96, hl, hS⟩ := hS
    have f97 := hl
    refine Run.draw (fun h' => cellH B h' (Addr.add A85 3) = some (Value.slice a89 n90 c91) ∧ cellH B h' ⟨k9, 3, none⟩ = some (Value.int .i64 (i96)) ∧ True) [] [.q 0, .q 1, .q 2, .q 3, .q 4, .q 5, .x 6, .q 7] TF.mixed (by kernel_rfl) ⟨f92, f97, trivial⟩ ?_
    refine RunO.quiet rfl rfl rfl (fun h' hC => sem_move ((Value.pointer p1)) rfl ⟨rfl, rfl⟩) ?_
    refine RunO.quiet rfl rfl rfl (fun h' hC => sem_nilCheck A85 (congrArg Value.pointer e86) ⟨rfl, rfl⟩) ?_
    refine RunO.quiet rfl rfl rfl (fun h' hC => sem_fieldAddr A85 3 rfl TF.fld_69_3 ⟨rfl, rfl⟩) ?_
    refine RunO.quiet rfl rfl rfl (fun h' hC => sem_load1 (Addr.add A85 3) ((Value.slice a89 n90 c91)) rfl TF.agg_64 hC.1 ⟨rfl, rfl⟩) ?_
    refine RunO.quiet rfl rfl rfl (fun h' hC => sem_indexAddrA ⟨k9, 0, none⟩ .i64 (3) rfl rfl TF.arr_73 f94 f95 ⟨rfl, rfl⟩) ?_
    refine RunO.quiet rfl rfl rfl (fun h' hC => sem_load1 ⟨k9, 3, none⟩ ((Value.int .i64 (i96))) rfl TF.agg_3 hC.2.1 ⟨rfl, rfl⟩) ?_
    refine OpH.go rfl rfl rfl (sem_callL [(Value.slice a89 n90 c91), (Value.int .i64 (i96))] (TF.goes_74) rfl rfl (Spec.mono hS fun v h98 hv => ?_))
    obtain ⟨a99, n100, c101, rfl, hS⟩ := hv
    obtain ⟨g102, g103, hS⟩ := hS
    refine ⟨fun _ => ⟨g102, g103, trivial⟩, ?_⟩
    refine RunO.quiet rfl rfl rfl (fun h' hC => sem_assign ((Value.slice a99 n100 c101)) rfl ⟨rfl, rfl⟩) ?_
    refine Run.seq ?_
    refine Run.ops0 (idx := [0, 1, 2, 3, 4, 5, 6, 7, 8]) rfl ?_
    refine Run.go rfl rfl rfl (sem_move ((Value.pointer p1)) rfl ?_)
    obtain ⟨A104, e105, hS⟩ := hS
    refine Run.go rfl rfl rfl (sem_nilCheck A104 (congrArg Value.pointer e105) ?_)
    refine Run.go rfl rfl rfl (sem_fieldAddr A104 3 rfl TF.fld_69_3 ?_)
    refine Run.ldSl hS fun a106 n107 c108 h109 hl hS => ?_
    refine Run.go rfl rfl rfl (sem_load1 (Addr.add A104 3) ((Value.slice a106 n107 c108)) rfl TF.agg_64 hl ?_)
    refine Run.go rfl rfl rfl (sem_move ((Value.slice a99 n100 c101)) rfl ?_)
    refine Run.go rfl rfl rfl (sem_lenSl a99 n100 c101 rfl TF.sl_64 ?_)
    obtain ⟨hi0, hi1, hi2, hS⟩ := hS
    refine Run.go rfl rfl rfl (sem_sliceSlI a106 n107 c108 ((n100 : Nat)) ((n107 : Nat)) rfl TF.slc_64 ⟨_, rfl⟩ rfl hi0 hi1 hi2 ?_)
    refine Run.go rfl rfl rfl (sem_callL [(Value.slice (if c108 = Int.toNat ((n100 : Nat)) then a106 else Option.map (·.add (Int.toNat ((n100 : Nat)) * 2)) a106) (Int.toNat ((n107 : Nat)) - Int.toNat ((n100 : Nat))) (c108 - Int.toNat ((n100 : Nat))))] (TF.goes_75) rfl rfl (Spec.mono hS fun v h110 hv => ?_))
    obtain ⟨a111, n112, c113, rfl, hS⟩ := hv
    refine Run.go rfl rfl rfl (sem_assign ((Value.slice a111 n112 c113)) rfl ?_)
    refine Run.region_end ?_
    refine Run.seq ?_
    refine Run.ops0 (idx := [0, 1, 2, 3, 4]) rfl ?_
    refine Run.go rfl rfl rfl (sem_move ((Value.pointer p1)) rfl ?_)
    refine Run.go rfl rfl rfl (sem_move ((Value.slice a99 n100 c101)) rfl ?_)
    obtain ⟨A114, e115, hS⟩ := hS
    refine Run.go rfl rfl rfl (sem_nilCheck A114 (congrArg Value.pointer e115) ?_)
    refine Run.go rfl rfl rfl (sem_fieldAddr A114 3 rfl TF.fld_69_3 ?_)
    obtain ⟨h116, hst, hS⟩ := hS
    refine Run.go rfl rfl rfl (sem_store1 (Addr.add A114 3) ((Value.slice a99 n100 c101)) h116 rfl rfl rfl TF.sz_64 hst ?_)
    refine Run.region_end ?_
    refine Run.seq ?_
    refine Run.ops0 (idx := [0, 1]) rfl ?_
    refine Run.go rfl rfl rfl (sem_move ((Value.slice a111 n112 c113)) rfl ?_)
    refine Run.go rfl rfl rfl (sem_assign ((Value.slice a111 n112 c113)) rfl ?_)
    refine Run.region_end ?_
    refine Run.ret ⟨.inr rfl, ?_⟩
    exact hS.imp fun h' hq => ⟨a111, n112, c113, rfl, hq⟩
set_option maxHeartbeats 4000000 in
theorem C_acts_Acts_Undo.of {B : RO} {p1 : Option Addr} {h : Heap} {Q : Option Addr → Nat → Nat → Heap → Prop} (hS : S_acts_Acts_Undo B p1 h Q) : C_acts_Acts_Undo B p1 h Q := by
  unfold S_acts_Acts_Undo at hS
  unfold C_acts_Acts_Undo
  refine Spec.of_run Try.func39 (N := 10) (rs := [ResultVar.tmp 2]) rfl rfl rfl (Nat.le_of_ble_eq_true rfl) ?_
  refine Run.seq ?_
  refine Run.ops0 (idx := [0]) rfl ?_
  refine Run.go rfl rfl rfl (sem_assign ((Value.slice none 0 0)) rfl ?_)
  refine Run.region_end ?_
  refine Run.seq ?_
  refine Run.seq ?_
  refine Run.ops0 (idx := [0, 1]) rfl ?_
  refine Run.go rfl rfl rfl (sem_move ((Value.pointer p1)) rfl ?_)
  obtain ⟨hT, hF⟩ := hS
  by_cases hb5 : p1 = none
  · have hS := hT hb5; clear hT hF
    refine Run.go rfl rfl rfl (sem_ptrNilT p1 (.inl rfl) true rfl rfl TF.ptr_66 hb5 rfl ?_)
    refine Run.region_end ?_
    refine Run.condT rfl ?_
    refine Run.seq ?_
    refine Run.ops0 (idx := [0]) rfl ?_
    refine Run.go rfl rfl rfl (sem_assign ((Value.slice none 0 0)) rfl ?_)
    refine Run.region_end ?_
    refine Run.ret ⟨.inr rfl, ?_⟩
    exact hS.imp fun h' hq => ⟨none, 0, 0, rfl, hq⟩
  · have hS := hF hb5; clear hT hF
    refine Run.go rfl rfl rfl (sem_ptrNilF p1 (.inl rfl) false rfl rfl TF.ptr_66 hb5 rfl ?_)
    refine Run.region_end ?_
    refine Run.condF rfl ?_
    refine Run.skip ?_
    refine Run.seq ?_
    refine Run.ops0 (idx := [0, 1, 2, 3, 4, 5]) rfl ?_
    refine Run.go rfl rfl rfl (sem_move ((Value.pointer p1)) rfl ?_)
    obtain ⟨A6, e7, hS⟩ := hS
    refine Run.go rfl rfl rfl (sem_nilCheck A6 (congrArg Value.pointer e7) ?_)
    refine Run.go rfl rfl rfl (sem_fieldAddr A6 3 rfl TF.fld_69_3 ?_)
    refine Run.ldSl hS fun a8 n9 c10 h11 hl hS => ?_
    refine Run.go rfl rfl rfl (sem_load1 (Addr.add A6 3) ((Value.slice a8 n9 c10)) rfl TF.agg_64 hl ?_)
    refine Run.go rfl rfl rfl (sem_callL [(Value.slice a8 n9 c10)] (TF.goes_75) rfl rfl (Spec.mono hS fun v h12 hv => ?_))
    obtain ⟨a13, n14, c15, rfl, hS⟩ := hv
    refine Run.go rfl rfl rfl (sem_assign ((Value.slice a13 n14 c15)) rfl ?_)
    refine Run.region_end ?_
    refine Run.ret ⟨.inr rfl, ?_⟩
    exact hS.imp fun h' hq => ⟨a13, n14, c15, rfl, hq⟩
set_option maxHeartbeats 4000000 in
theorem C_acts_first_acts_Out.of {B : RO} {a1 : Option Addr} {n2 : Nat} {c3 : Nat} {i4 : Int} {h : Heap} {Q : Option Addr → Nat → Nat → Heap → Prop} (hS : S_acts_first_acts_Out B a1 n2 c3 i4 h Q) : C_acts_first_acts_Out B a1 n2 c3 i4 h Q := by
  unfold S_acts_first_acts_Out at hS
  unfold C_acts_first_acts_Out
  refine Spec.of_run Try.func72 (N := 14) (rs := [ResultVar.tmp 4]) rfl rfl rfl (Nat.le_of_ble_eq_true rfl) ?_
  refine Run.seq ?_
  refine Run.ops0 (idx := [0]) rfl ?_
  refine Run.go rfl rfl rfl (sem_assign ((Value.slice none 0 0)) rfl ?_)
  refine Run.region_end ?_
  refine Run.seq ?_
  refine Run.ops0 (idx := [0, 1, 2, 3, 4, 5]) rfl ?_
  refine Run.go rfl rfl rfl (sem_move ((Value.int .i64 (i4))) rfl ?_)
  refine Run.go rfl rfl rfl (sem_max .i64 (i4) (0) rfl rfl ?_)
  refine Run.go rfl rfl rfl (sem_move ((Value.slice a1 n2 c3)) rfl ?_)
  refine Run.go rfl rfl rfl (sem_lenSl a1 n2 c3 rfl TF.sl_67 ?_)
  refine Run.go rfl rfl rfl (sem_min .i64 (if (0 : Int) > (i4) then (0 : Int) else (i4)) ((n2 : Nat)) rfl rfl ?_)
  refine Run.go rfl rfl rfl (sem_assign ((Value.int .i64 (if ((n2 : Nat) : Int) < (if (0 : Int) > (i4) then (0 : Int) else (i4)) then ((n2 : Nat) : Int) else (if (0 : Int) > (i4) then (0 : Int) else (i4))))) rfl ?_)
  refine Run.region_end ?_
  refine Run.seq ?_
  refine Run.ops0 (idx := [0, 1, 2, 3, 4]) rfl ?_
  refine Run.go rfl rfl rfl (sem_move ((Value.slice a1 n2 c3)) rfl ?_)
  refine Run.go rfl rfl rfl (sem_move ((Value.int .i64 (if ((n2 : Nat) : Int) < (if (0 : Int) > (i4) then (0 : Int) else (i4)) then ((n2 : Nat) : Int) else (if (0 : Int) > (i4) then (0 : Int) else (i4))))) rfl ?_)
  refine Run.go rfl rfl rfl (sem_move ((Value.int .i64 (if ((n2 : Nat) : Int) < (if (0 : Int) > (i4) then (0 : Int) else (i4)) then ((n2 : Nat) : Int) else (if (0 : Int) > (i4) then (0 : Int) else (i4))))) rfl ?_)
  obtain ⟨hi0, hi1, hi2, hS⟩ := hS
  refine Run.go rfl rfl rfl (sem_slice3I a1 n2 c3 (if ((n2 : Nat) : Int) < (if (0 : Int) > (i4) then (0 : Int) else (i4)) then ((n2 : Nat) : Int) else (if (0 : Int) > (i4) then (0 : Int) else (i4))) (if ((n2 : Nat) : Int) < (if (0 : Int) > (i4) then (0 : Int) else (i4)) then ((n2 : Nat) : Int) else (if (0 : Int) > (i4) then (0 : Int) else (i4))) .i64 .i64 rfl TF.slc_67 rfl rfl hi0 hi1 hi2 ?_)
  refine Run.go rfl rfl rfl (sem_assign ((Value.slice (if Int.toNat (if ((n2 : Nat) : Int) < (if (0 : Int) > (i4) then (0 : Int) else (i4)) then ((n2 : Nat) : Int) else (if (0 : Int) > (i4) then (0 : Int) else (i4))) = 0 then a1 else Option.map (·.add (0 * 2)) a1) (Int.toNat (if ((n2 : Nat) : Int) < (if (0 : Int) > (i4) then (0 : Int) else (i4)) then ((n2 : Nat) : Int) else (if (0 : Int) > (i4) then (0 : Int) else (i4)))) (Int.toNat (if ((n2 : Nat) : Int) < (if (0 : Int) > (i4) then (0 : Int) else (i4)) then ((n2 : Nat) : Int) else (if (0 : Int) > (i4) then (0 : Int) else (i4)))))) rfl ?_)
  refine Run.region_end ?_
  refine Run.ret ⟨.inr rfl, ?_⟩
  exact hS.imp fun h' hq => ⟨(if Int.toNat (if ((n2 : Nat) : Int) < (if (0 : Int) > (i4) then (0 : Int) else (i4)) then ((n2 : Nat) : Int) else (if (0 : Int) > (i4) then (0 : Int) else (i4))) = 0 then a1 else Option.map (·.add (0 * 2)) a1), (Int.toNat (if ((n2 : Nat) : Int) < (if (0 : Int) > (i4) then (0 : Int) else (i4)) then ((n2 : Nat) : Int) else (if (0 : Int) > (i4) then (0 : Int) else (i4)))), (Int.toNat (if ((n2 : Nat) : Int) < (if (0 : Int) > (i4) then (0 : Int) else (i4)) then ((n2 : Nat) : Int) else (if (0 : Int) > (i4) then (0 : Int) else (i4)))), rfl, hq⟩
set_option maxHeartbeats 4000000 in
theorem C_acts_first_int.of {B : RO} {a1 : Option Addr} {n2 : Nat} {c3 : Nat} {i4 : Int} {h : Heap} {Q : Option Addr → Nat → Nat → Heap → Prop} (hS : S_acts_first_int B a1 n2 c3 i4 h Q) : C_acts_first_int B a1 n2 c3 i4 h Q := by
  unfold S_acts_first_int at hS
  unfold C_acts_first_int
  refine Spec.of_run Try.func73 (N := 14) (rs := [ResultVar.tmp 4]) rfl rfl rfl (Nat.le_of_ble_eq_true rfl) ?_
  refine Run.seq ?_
  refine Run.ops0 (idx := [0]) rfl ?_
  refine Run.go rfl rfl rfl (sem_assign ((Value.slice none 0 0)) rfl ?_)
  refine Run.region_end ?_
  refine Run.seq ?_
  refine Run.ops0 (idx := [0, 1, 2, 3, 4, 5]) rfl ?_
  refine Run.go rfl rfl rfl (sem_move ((Value.int .i64 (i4))) rfl ?_)
  refine Run.go rfl rfl rfl (sem_max .i64 (i4) (0) rfl rfl ?_)
  refine Run.go rfl rfl rfl (sem_move ((Value.slice a1 n2 c3)) rfl ?_)
  refine Run.go rfl rfl rfl (sem_lenSl a1 n2 c3 rfl TF.sl_65 ?_)
  refine Run.go rfl rfl rfl (sem_min .i64 (if (0 : Int) > (i4) then (0 : Int) else (i4)) ((n2 : Nat)) rfl rfl ?_)
  refine Run.go rfl rfl rfl (sem_assign ((Value.int .i64 (if ((n2 : Nat) : Int) < (if (0 : Int) > (i4) then (0 : Int) else (i4)) then ((n2 : Nat) : Int) else (if (0 : Int) > (i4) then (0 : Int) else (i4))))) rfl ?_)
  refine Run.region_end ?_
  refine Run.seq ?_
  refine Run.ops0 (idx := [0, 1, 2, 3, 4]) rfl ?_
  refine Run.go rfl rfl rfl (sem_move ((Value.slice a1 n2 c3)) rfl ?_)
  refine Run.go rfl rfl rfl (sem_move ((Value.int .i64 (if ((n2 : Nat) : Int) < (if (0 : Int) > (i4) then (0 : Int) else (i4)) then ((n2 : Nat) : Int) else (if (0 : Int) > (i4) then (0 : Int) else (i4))))) rfl ?_)
  refine Run.go rfl rfl rfl (sem_move ((Value.int .i64 (if ((n2 : Nat) : Int) < (if (0 : Int) > (i4) then (0 : Int) else (i4)) then ((n2 : Nat) : Int) else (if (0 : Int) > (i4) then (0 : Int) else (i4))))) rfl ?_)
  obtain ⟨hi0, hi1, hi2, hS⟩ := hS
  refine Run.go rfl rfl rfl (sem_slice3I a1 n2 c3 (if ((n2 : Nat) : Int) < (if (0 : Int) > (i4) then (0 : Int) else (i4)) then ((n2 : Nat) : Int) else (if (0 : Int) > (i4) then (0 : Int) else (i4))) (if ((n2 : Nat) : Int) < (if (0 : Int) > (i4) then (0 : Int) else (i4)) then ((n2 : Nat) : Int) else (if (0 : Int) > (i4) then (0 : Int) else (i4))) .i64 .i64 rfl TF.slc_65 rfl rfl hi0 hi1 hi2 ?_)
  refine Run.go rfl rfl rfl (sem_assign ((Value.slice (if Int.toNat (if ((n2 : Nat) : Int) < (if (0 : Int) > (i4) then (0 : Int) else (i4)) then ((n2 : Nat) : Int) else (if (0 : Int) > (i4) then (0 : Int) else (i4))) = 0 then a1 else Option.map (·.add (0 * 1)) a1) (Int.toNat (if ((n2 : Nat) : Int) < (if (0 : Int) > (i4) then (0 : Int) else (i4)) then ((n2 : Nat) : Int) else (if (0 : Int) > (i4) then (0 : Int) else (i4)))) (Int.toNat (if ((n2 : Nat) : Int) < (if (0 : Int) > (i4) then (0 : Int) else (i4)) then ((n2 : Nat) : Int) else (if (0 : Int) > (i4) then (0 : Int) else (i4)))))) rfl ?_)
  refine Run.region_end ?_
  refine Run.ret ⟨.inr rfl, ?_⟩
  exact hS.imp fun h' hq => ⟨(if Int.toNat (if ((n2 : Nat) : Int) < (if (0 : Int) > (i4) then (0 : Int) else (i4)) then ((n2 : Nat) : Int) else (if (0 : Int) > (i4) then (0 : Int) else (i4))) = 0 then a1 else Option.map (·.add (0 * 1)) a1), (Int.toNat (if ((n2 : Nat) : Int) < (if (0 : Int) > (i4) then (0 : Int) else (i4)) then ((n2 : Nat) : Int) else (if (0 : Int) > (i4) then (0 : Int) else (i4)))), (Int.toNat (if ((n2 : Nat) : Int) < (if (0 : Int) > (i4) then (0 : Int) else (i4)) then ((n2 : Nat) : Int) else (if (0 : Int) > (i4) then (0 : Int) else (i4)))), rfl, hq⟩
set_option maxHeartbeats 4000000 in
theorem C_acts_first_acts_Open.of {B : RO} {a1 : Option Addr} {n2 : Nat} {c3 : Nat} {i4 : Int} {h : Heap} {Q : Option Addr → Nat → Nat → Heap → Prop} (hS : S_acts_first_acts_Open B a1 n2 c3 i4 h Q) : C_acts_first_acts_Open B a1 n2 c3 i4 h Q := by
  unfold S_acts_first_acts_Open at hS
  unfold C_acts_first_acts_Open
  refine Spec.of_run Try.func74 (N := 14) (rs := [ResultVar.tmp 4]) rfl rfl rfl (Nat.le_of_ble_eq_true rfl) ?_
  refine Run.seq ?_
  refine Run.ops0 (idx := [0]) rfl ?_
  refine Run.go rfl rfl rfl (sem_assign ((Value.slice none 0 0)) rfl ?_)
  refine Run.region_end ?_
  refine Run.seq ?_
  refine Run.ops0 (idx := [0, 1, 2, 3, 4, 5]) rfl ?_
  refine Run.go rfl rfl rfl (sem_move ((Value.int .i64 (i4))) rfl ?_)
  refine Run.go rfl rfl rfl (sem_max .i64 (i4) (0) rfl rfl ?_)
  refine Run.go rfl rfl rfl (sem_move ((Value.slice a1 n2 c3)) rfl ?_)
  refine Run.go rfl rfl rfl (sem_lenSl a1 n2 c3 rfl TF.sl_64 ?_)
  refine Run.go rfl rfl rfl (sem_min .i64 (if (0 : Int) > (i4) then (0 : Int) else (i4)) ((n2 : Nat)) rfl rfl ?_)
  refine Run.go rfl rfl rfl (sem_assign ((Value.int .i64 (if ((n2 : Nat) : Int) < (if (0 : Int) > (i4) then (0 : Int) else (i4)) then ((n2 : Nat) : Int) else (if (0 : Int) > (i4) then (0 : Int) else (i4))))) rfl ?_)
  refine Run.region_end ?_
  refine Run.seq ?_
  refine Run.ops0 (idx := [0, 1, 2, 3, 4]) rfl ?_
  refine Run.go rfl rfl rfl (sem_move ((Value.slice a1 n2 c3)) rfl ?_)
  refine Run.go rfl rfl rfl (sem_move ((Value.int .i64 (if ((n2 : Nat) : Int) < (if (0 : Int) > (i4) then (0 : Int) else (i4)) then ((n2 : Nat) : Int) else (if (0 : Int) > (i4) then (0 : Int) else (i4))))) rfl ?_)
  refine Run.go rfl rfl rfl (sem_move ((Value.int .i64 (if ((n2 : Nat) : Int) < (if (0 : Int) > (i4) then (0 : Int) else (i4)) then ((n2 : Nat) : Int) else (if (0 : Int) > (i4) then (0 : Int) else (i4))))) rfl ?_)
  obtain ⟨hi0, hi1, hi2, hS⟩ := hS
  refine Run.go rfl rfl rfl (sem_slice3I a1 n2 c3 (if ((n2 : Nat) : Int) < (if (0 : Int) > (i4) then (0 : Int) else (i4)) then ((n2 : Nat) : Int) else (if (0 : Int) > (i4) then (0 : Int) else (i4))) (if ((n2 : Nat) : Int) < (if (0 : Int) > (i4) then (0 : Int) else (i4)) then ((n2 : Nat) : Int) else (if (0 : Int) > (i4) then (0 : Int) else (i4))) .i64 .i64 rfl TF.slc_64 rfl rfl hi0 hi1 hi2 ?_)
  refine Run.go rfl rfl rfl (sem_assign ((Value.slice (if Int.toNat (if ((n2 : Nat) : Int) < (if (0 : Int) > (i4) then (0 : Int) else (i4)) then ((n2 : Nat) : Int) else (if (0 : Int) > (i4) then (0 : Int) else (i4))) = 0 then a1 else Option.map (·.add (0 * 2)) a1) (Int.toNat (if ((n2 : Nat) : Int) < (if (0 : Int) > (i4) then (0 : Int) else (i4)) then ((n2 : Nat) : Int) else (if (0 : Int) > (i4) then (0 : Int) else (i4)))) (Int.toNat (if ((n2 : Nat) : Int) < (if (0 : Int) > (i4) then (0 : Int) else (i4)) then ((n2 : Nat) : Int) else (if (0 : Int) > (i4) then (0 : Int) else (i4)))))) rfl ?_)
  refine Run.region_end ?_
  refine Run.ret ⟨.inr rfl, ?_⟩
  exact hS.imp fun h' hq => ⟨(if Int.toNat (if ((n2 : Nat) : Int) < (if (0 : Int) > (i4) then (0 : Int) else (i4)) then ((n2 : Nat) : Int) else (if (0 : Int) > (i4) then (0 : Int) else (i4))) = 0 then a1 else Option.map (·.add (0 * 2)) a1), (Int.toNat (if ((n2 : Nat) : Int) < (if (0 : Int) > (i4) then (0 : Int) else (i4)) then ((n2 : Nat) : Int) else (if (0 : Int) > (i4) then (0 : Int) else (i4)))), (Int.toNat (if ((n2 : Nat) : Int) < (if (0 : Int) > (i4) then (0 : Int) else (i4)) then ((n2 : Nat) : Int) else (if (0 : Int) > (i4) then (0 : Int) else (i4)))), rfl, hq⟩
set_option maxHeartbeats 4000000 in
theorem C_acts_undo.of {B : RO} {a1 : Option Addr} {n2 : Nat} {c3 : Nat} {h : Heap} {Q : Option Addr → Nat → Nat → Heap → Prop} (hS : S_acts_undo B a1 n2 c3 h Q) : C_acts_undo B a1 n2 c3 h Q := by
  unfold S_acts_undo at hS
  unfold C_acts_undo
  refine Spec.of_run Try.func75 (N := 20) (rs := [ResultVar.tmp 2]) rfl rfl rfl (Nat.le_of_ble_eq_true rfl) ?_
  refine Run.seq ?_
  refine Run.ops0 (idx := [0]) rfl ?_
  refine Run.go rfl rfl rfl (sem_assign ((Value.slice none 0 0)) rfl ?_)
  refine Run.region_end ?_
  refine Run.seq ?_
  refine Run.ops0 (idx := [0]) rfl ?_
  refine Run.go rfl rfl rfl (sem_allocN [(Value.slice none 0 0)] TF.zero_64 (fun k7 hb1 hb2 h8 hb3 => ?_))
  have hS := hS k7 hb1 hb2 h8 hb3
  refine Run.region_end ?_
  refine Run.seq ?_
  refine Run.seq ?_
  refine Run.ops0 (idx := [0, 1]) rfl ?_
  refine Run.go rfl rfl rfl (sem_move ((Value.slice a1 n2 c3)) rfl ?_)
  refine Run.go rfl rfl rfl (sem_callL [(Value.slice a1 n2 c3)] (TF.goes_83) rfl rfl (Spec.mono hS fun v10 h9 hv => ?_))
  obtain ⟨_, rfl, hS⟩ := hv
  refine Run.region_end ?_
  refine Run.block ?_
  obtain ⟨xs18, G14, J17, hit, hins, hG, h0, hS, hR⟩ := hS
  refine Run.of_fin (h0.imp fun h' h0 => ?_)
  refine Run.range (v10) (xs18.map (fun x : Int × Int × Int => [(Value.int .i64 (x.1)), (Value.agg #[(Value.int .i64 (x.2.1)), (Value.int .i64 (x.2.2))])])) G14 J17 rfl hit hins hG h0 rfl (fun a ha => by obtain ⟨x, _, rfl⟩ := List.mem_map.1 ha; rfl) ?_ ?_
  · rintro q16 args h15 ha hJ
    obtain ⟨⟨i11, i12, i13⟩, hx, rfl⟩ := Option.map_eq_some_iff.1 ((List.getElem?_map ..).symm.trans ha)
    have hS := hS q16 h15 i11 i12 i13 hx hJ; clear hJ hx ha
    refine Run.ops0 (idx := [0, 1]) rfl ?_
    refine Run.go rfl rfl rfl (sem_allocN [(Value.int .i64 (0)), (Value.int .i64 (0))] TF.zero_72 (fun k19 hb1 hb2 h20 hb3 => ?_))
    have hS := hS k19 hb1 hb2 h20 hb3
    obtain ⟨h21, hst, hS⟩ := hS
    refine Run.go rfl rfl rfl (sem_storeN ⟨k19, 0, none⟩ [(Value.int .i64 (i12)), (Value.int .i64 (i13))] h21 rfl rfl TF.sz_72 hst ?_)
    refine Run.region_end ?_
    refine Run.begin ⟨rfl, ?_⟩
    refine Run.block ?_
    refine Run.ops0 (idx := [0, 1, 2, 3, 4, 5, 6, 7, 8, 9]) rfl ?_
    refine Run.ldSl hS fun a22 n23 c24 h25 hl hS => ?_
    refine Run.go rfl rfl rfl (sem_load1 ⟨k7, 0, none⟩ ((Value.slice a22 n23 c24)) rfl TF.agg_64 hl ?_)
    refine Run.go rfl rfl rfl (sem_fieldAddr ⟨k19, 0, none⟩ 0 rfl TF.fld_72_0 ?_)
    obtain ⟨i26, hl, hS⟩ := hS
    refine Run.go rfl rfl rfl (sem_load1 ⟨k19, 0, none⟩ ((Value.int .i64 (i26))) rfl TF.agg_3 hl ?_)
    refine Run.go rfl rfl rfl (sem_fieldAddr ⟨k19, 0, none⟩ 1 rfl TF.fld_72_1 ?_)
    obtain ⟨i27, hl, hS⟩ := hS
    refine Run.go rfl rfl rfl (sem_load1 ⟨k19, 1, none⟩ ((Value.int .i64 (i27))) rfl TF.agg_3 hl ?_)
    refine Run.go rfl rfl rfl (sem_neg .i64 (i27) rfl ?_)
    refine Run.go rfl rfl rfl (sem_buildSL [(0, (Value.int .i64 (i26))), (1, (Value.int .i64 (IntKind.wrap .i64 (0 - (i27)))))] [(Value.int .i64 (i26)), (Value.int .i64 (IntKind.wrap .i64 (0 - (i27))))] TF.zero_72 TF.places_72 rfl rfl ?_)
    refine Run.go rfl rfl rfl (sem_buildSliceL [(0, (Value.agg #[(Value.int .i64 (i26)), (Value.int .i64 (IntKind.wrap .i64 (0 - (i27))))]))] [(Value.int .i64 (i26)), (Value.int .i64 (IntKind.wrap .i64 (0 - (i27))))] TF.slc_64 TF.zero_72 rfl (by decide) (by decide) rfl rfl (fun k28 hb1 hb2 h29 hb3 => ?_))
    have hS := hS k28 hb1 hb2 h29 hb3
    refine Run.go rfl rfl rfl (sem_appendL [(Value.slice a22 n23 c24), (Value.slice (some ⟨k28, 0, none⟩) 1 1)] rfl (semH_mono (fun v h30 hv => ?_) hS))
    obtain ⟨a31, n32, c33, rfl, hS⟩ := hv
    obtain ⟨h34, hst, hS⟩ := hS
    refine Run.go rfl rfl rfl (sem_store1 ⟨k7, 0, none⟩ ((Value.slice a31 n32 c33)) h34 rfl rfl rfl TF.sz_64 hst ?_)
    refine Run.region_end ?_
    refine Run.inBlock ?_
    refine Run.of_fin (hS.imp fun h' hS => ?_)
    exact Run.fall (.inl ⟨rfl, hS⟩)
  · intro h15 hJ
    have hS := hR h15 (by simpa using hJ); clear hJ hR
    refine Run.inBlock ?_
    refine Run.seq ?_
    refine Run.ops0 (idx := [0, 1]) rfl ?_
    refine Run.ldSl hS fun a35 n36 c37 h38 hl hS => ?_
    refine Run.go rfl rfl rfl (sem_load1 ⟨k7, 0, none⟩ ((Value.slice a35 n36 c37)) rfl TF.agg_64 hl ?_)
    refine Run.go rfl rfl rfl (sem_assign ((Value.slice a35 n36 c37)) rfl ?_)
    refine Run.region_end ?_
    refine Run.ret ⟨.inr rfl, ?_⟩
    exact hS.imp fun h' hq => ⟨a35, n36, c37, rfl, hq⟩
set_option maxHeartbeats 4000000 in
theorem C_slices_Backward_s_acts_Open_acts_Open.of {B : RO} {a1 : Option Addr} {n2 : Nat} {c3 : Nat} {h : Heap} {Q : Value → Heap → Prop} (hS : S_slices_Backward_s_acts_Open_acts_Open B a1 n2 c3 h Q) : C_slices_Backward_s_acts_Open_acts_Open B a1 n2 c3 h Q := by
  unfold S_slices_Backward_s_acts_Open_acts_Open at hS
  unfold C_slices_Backward_s_acts_Open_acts_Open
  refine Spec.of_run Try.func83 (N := 4) (rs := [ResultVar.tmp 2]) rfl rfl rfl (Nat.le_of_ble_eq_true rfl) ?_
  refine Run.seq ?_
  refine Run.ops0 (idx := [0, 1]) rfl ?_
  refine Run.go rfl rfl rfl (sem_box1N ((Value.slice a1 n2 c3)) rfl rfl (fun k5 hb1 hb2 h6 hb3 => ?_))
  have hS := hS k5 hb1 hb2 h6 hb3
  refine Run.go rfl rfl rfl (sem_assign (Value.nilFunc) rfl ?_)
  refine Run.region_end ?_
  refine Run.seq ?_
  refine Run.ops0 (idx := [0, 1]) rfl ?_
  refine Run.go rfl rfl rfl (sem_makeFuncL [] [(Value.pointer (some ⟨k5, 0, none⟩))] rfl rfl ?_)
  refine Run.go rfl rfl rfl (sem_assign ((Value.func (.func 88) #[] #[(Value.pointer (some ⟨k5, 0, none⟩))])) rfl ?_)
  refine Run.region_end ?_
  refine Run.ret ⟨.inr rfl, ?_⟩
  exact hS.imp fun h' hq => ⟨(Value.func (.func 88) #[] #[(Value.pointer (some ⟨k5, 0, none⟩))]), rfl, hq⟩
set_option maxHeartbeats 4000000 in
theorem C_slices_Backward_s_acts_Open_acts_Open_1.of {B : RO} {v1 : Value} {A2 : Addr} {h : Heap} {Q : Heap → Prop} (hS : S_slices_Backward_s_acts_Open_acts_Open_1 B v1 A2 h Q) : C_slices_Backward_s_acts_Open_acts_Open_1 B v1 A2 h Q := by
  unfold S_slices_Backward_s_acts_Open_acts_Open_1 at hS
  unfold C_slices_Backward_s_acts_Open_acts_Open_1
  refine Spec.of_run Try.func88 (N := 19) (rs := []) rfl rfl rfl (Nat.le_of_ble_eq_true rfl) ?_
  refine Run.seq ?_
  refine Run.ops0 (idx := [0, 1, 2, 3]) rfl ?_
  refine Run.ldSl hS fun a3 n4 c5 h6 hl hS => ?_
  refine Run.go rfl rfl rfl (sem_load1 A2 ((Value.slice a3 n4 c5)) rfl TF.agg_64 hl ?_)
  refine Run.go rfl rfl rfl (sem_lenSl a3 n4 c5 rfl TF.sl_64 ?_)
  refine Run.go rfl rfl rfl (sem_binI .i64 ((n4 : Nat)) (1) ((Value.int .i64 (IntKind.wrap .i64 (((n4 : Nat)) - (1))))) rfl rfl rfl ?_)
  refine Run.go rfl rfl rfl (sem_assign ((Value.int .i64 (IntKind.wrap .i64 (((n4 : Nat)) - (1))))) rfl ?_)
  refine Run.region_end ?_
  refine Run.block ?_
  obtain ⟨J12, m10, h0, hS⟩ := hS
  refine Run.of_fin (h0.imp fun h' h0 => ?_)
  refine Run.loop (σ := Int × Nat) (fun x e h => J12 x.1 x.2 h ∧ Agree [(0, v1), (1, (Value.pointer (some A2))), (3, (Value.int .i64 (x.1)))] e) (fun x => x.2) ((IntKind.wrap .i64 (((n4 : Nat)) - (1))), m10) ⟨h0, ⟨rfl, rfl, rfl, trivial⟩⟩ ?_; clear h0
  rintro ⟨i7, m9⟩ e h8 ⟨hJ, hag⟩ ih11
  have hS := hS i7 m9 h8 hJ; clear hJ
  refine Run.env hag ?_; clear hag
  refine Run.seq ?_
  refine Run.seq ?_
  refine Run.ops0 (idx := [0, 1]) rfl ?_
  refine Run.go rfl rfl rfl (sem_move ((Value.int .i64 (i7))) rfl ?_)
  obtain ⟨hT, hF⟩ := hS
  by_cases hb13 : (i7 : Int) ≥ (0)
  · have hS := hT hb13; clear hT hF
    refine Run.go rfl rfl rfl (sem_binI .i64 (i7) (0) (.bool true) rfl rfl (binI_geq_t hb13) ?_)
    refine Run.region_end ?_
    refine Run.condT rfl ?_
    refine Run.skip ?_
    refine Run.seq ?_
    refine Run.block ?_
    refine Run.seq ?_
    refine Run.ops0 (idx := [0, 1, 2, 3, 4, 5, 6, 7]) rfl ?_
    refine Run.go rfl rfl rfl (sem_move (v1) rfl ?_)
    refine Run.go rfl rfl rfl (sem_move ((Value.int .i64 (i7))) rfl ?_)
    refine Run.ldSl hS fun a14 n15 c16 h17 hl hS => ?_
    refine Run.go rfl rfl rfl (sem_load1 A2 ((Value.slice a14 n15 c16)) rfl TF.agg_64 hl ?_)
    refine Run.go rfl rfl rfl (sem_move ((Value.int .i64 (i7))) rfl ?_)
    obtain ⟨A18, e19, hi0, hi1, hS⟩ := hS
    refine Run.go rfl rfl rfl (sem_indexAddrS A18 n15 c16 .i64 (i7) (congrArg (fun a => Value.slice a n15 c16) e19) rfl TF.slc_64 hi0 hi1 ?_)
    obtain ⟨i20, i21, hl, hS⟩ := hS
    refine Run.go rfl rfl rfl (sem_loadN (Addr.add A18 (Int.toNat (i7) * 2)) [(Value.int .i64 (i20)), (Value.int .i64 (i21))] rfl TF.agg_72 TF.sz_72 hl ?_)
    refine Run.go rfl rfl rfl (sem_callV (v1) [(Value.int .i64 (i7)), (Value.agg #[(Value.int .i64 (i20)), (Value.int .i64 (i21))])] rfl rfl hS (fun nx h' ha => ha.mono fun v h22 hv => ?_))
    obtain ⟨b23, rfl, hS⟩ := hv
    obtain ⟨hT, hF⟩ := hS
    cases b23
    · have hS := hF rfl; clear hT hF
      refine Run.go rfl rfl rfl (sem_not false rfl ?_)
      refine Run.region_end ?_
      refine Run.condT rfl ?_
      refine Run.ret ⟨.inr rfl, ?_⟩
      exact hS.imp fun h' hq => ⟨rfl, hq⟩
    · have hS := hT rfl; clear hT hF
      refine Run.go rfl rfl rfl (sem_not true rfl ?_)
      refine Run.region_end ?_
      refine Run.condF rfl ?_
      refine Run.skip ?_
      refine Run.inBlock ?_
      refine Run.ops0 (idx := [0, 1, 2]) rfl ?_
      refine Run.go rfl rfl rfl (sem_move ((Value.int .i64 (i7))) rfl ?_)
      refine Run.go rfl rfl rfl (sem_binI .i64 (i7) (1) ((Value.int .i64 (IntKind.wrap .i64 ((i7) - (1))))) rfl rfl rfl ?_)
      refine Run.go rfl rfl rfl (sem_assign ((Value.int .i64 (IntKind.wrap .i64 ((i7) - (1))))) rfl ?_)
      refine Run.region_end ?_
      exact Run.of_fin (hS.imp fun h' ⟨m', hm, hS⟩ => ih11 ((IntKind.wrap .i64 ((i7) - (1))), m') _ _ ⟨hS, ⟨rfl, rfl, rfl, trivial⟩⟩ hm)
  · have hS := hF hb13; clear hT hF
    refine Run.go rfl rfl rfl (sem_binI .i64 (i7) (0) (.bool false) rfl rfl (binI_geq_f hb13) ?_)
    refine Run.region_end ?_
    refine Run.condF rfl ?_
    refine Run.exit rfl ?_
    refine Run.fall ⟨.inl rfl, ?_⟩
    exact hS.imp fun h' hq => ⟨rfl, hq⟩
end Go.Proofs.Ythlnibaechobmaa.H
