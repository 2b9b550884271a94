/- The functions do what they ask for. No condition. -/
import Derived.Test.YthlnibaechobmaaXcS
namespace Go.Proofs.Ythlnibaechobmaa.H
open Go
set_option linter.unusedVariables false
set_option maxRecDepth 100000

set_option maxHeartbeats 4000000 in
theorem C_countermandlaw08_CellNewest.of {B : RO} {i1 : Int} {a2 : Option Addr} {n3 : Nat} {c4 : Nat} {h : Heap} {Q : Bool → Heap → Prop} (hS : S_countermandlaw08_CellNewest B i1 a2 n3 c4 h Q) : C_countermandlaw08_CellNewest B i1 a2 n3 c4 h Q := by
  unfold S_countermandlaw08_CellNewest at hS
  unfold C_countermandlaw08_CellNewest
  refine Spec.of_run Try.func6 (N := 63) (rs := [ResultVar.tmp 4]) rfl rfl rfl (Nat.le_of_ble_eq_true rfl) ?_
  refine Run.seq ?_
  refine Run.ops0 (idx := [0]) rfl ?_
  refine Run.go rfl rfl rfl (sem_assign ((Value.bool false)) rfl ?_)
  refine Run.region_end ?_
  refine Run.seq ?_
  refine Run.seq ?_
  refine Run.ops0 (idx := [0, 1]) rfl ?_
  refine Run.go rfl rfl rfl (sem_callL [] (TF.goes_20) rfl rfl (Spec.mono hS fun v h6 hv => ?_))
  obtain ⟨b7, rfl, hS⟩ := hv
  obtain ⟨hT, hF⟩ := hS
  cases b7
  · have hS := hF rfl; clear hT hF
    refine Run.go rfl rfl rfl (sem_not false rfl ?_)
    refine Run.region_end ?_
    refine Run.condT rfl ?_
    refine Run.seq ?_
    refine Run.ops0 (idx := [0]) rfl ?_
    refine Run.go rfl rfl rfl (sem_assign ((Value.bool false)) rfl ?_)
    refine Run.region_end ?_
    refine Run.ret ⟨.inr rfl, ?_⟩
    exact hS.imp fun h' hq => ⟨(false), rfl, hq⟩
  · have hS := hT rfl; clear hT hF
    refine Run.go rfl rfl rfl (sem_not true rfl ?_)
    refine Run.region_end ?_
    refine Run.condF rfl ?_
    refine Run.skip ?_
    refine Run.seqJ (fun e h9 => Agree [(0, (Value.int .i64 (i1))), (1, (Value.slice a2 n3 c4))] e ∧ S_countermandlaw08_CellNewest_J1 B i1 a2 n3 c4 h9 Q) ?_ fun j8 => ?_
    · rintro e h9 ⟨hag, hS⟩
      refine Run.env hag ?_; clear hag
      refine Run.seq ?_
      refine Run.ops0 (idx := [0, 1, 2]) rfl ?_
      refine Run.go rfl rfl rfl (sem_move ((Value.int .i64 (i1))) rfl ?_)
      refine Run.go rfl rfl rfl (sem_callL [(Value.int .i64 (i1)), (Value.int .i64 (0))] (TF.goes_21) rfl rfl (Spec.mono hS fun v h10 hv => ?_))
      obtain ⟨p11, rfl, hS⟩ := hv
      refine Run.go rfl rfl rfl (sem_assign ((Value.pointer p11)) rfl ?_)
      refine Run.region_end ?_
      refine Run.seq ?_
      refine Run.ops0 (idx := [0]) rfl ?_
      refine Run.go rfl rfl rfl (sem_allocN (List.replicate 64 (Value.int .i64 (0))) TF.zero_38 (fun k12 hb1 hb2 h13 hb3 => ?_))
      have hS := hS k12 hb1 hb2 h13 hb3
      refine Run.region_end ?_
      refine Run.seq ?_
      refine Run.seq ?_
      refine Run.ops0 (idx := [0, 1, 2]) rfl ?_
      refine Run.go rfl rfl rfl (sem_move ((Value.slice a2 n3 c4)) rfl ?_)
      refine Run.go rfl rfl rfl (sem_lenSl a2 n3 c4 rfl TF.sl_35 ?_)
      refine Run.go rfl rfl rfl (sem_move ((Value.int .i64 (0))) rfl ?_)
      refine Run.region_end ?_
      refine Run.block ?_
      obtain ⟨J19, m17, h0, hS⟩ := hS
      refine Run.of_fin (h0.imp fun h' h0 => ?_)
      refine Run.loop (σ := Int × Nat) (fun x e h => J19 x.1 x.2 h ∧ Agree [(5, (Value.pointer p11)), (6, (Value.pointer (some ⟨k12, 0, none⟩))), (23, (Value.slice a2 n3 c4)), (24, (Value.int .i64 ((n3 : Nat)))), (25, (Value.int .i64 (x.1)))] e) (fun x => x.2) ((0), m17) ⟨h0, ⟨rfl, rfl, rfl, rfl, rfl, trivial⟩⟩ ?_; clear h0
      rintro ⟨i14, m16⟩ e h15 ⟨hJ, hag⟩ ih18
      have hS := hS i14 m16 h15 hJ; clear hJ
      refine Run.env hag ?_; clear hag
      refine Run.seq ?_
      refine Run.ops0 (idx := [0]) rfl ?_
      obtain ⟨hT, hF⟩ := hS
      by_cases hb20 : (i14 : Int) < ((n3 : Nat))
      · have hS := hT hb20; clear hT hF
        refine Run.go rfl rfl rfl (sem_binI .i64 (i14) ((n3 : Nat)) (.bool true) rfl rfl (binI_lss_t hb20) ?_)
        refine Run.region_end ?_
        refine Run.seq ?_
        refine Run.condT rfl ?_
        refine Run.skip ?_
        refine Run.seq ?_
        refine Run.block ?_
        refine Run.seq ?_
        refine Run.ops0 (idx := [0, 1, 2, 3]) rfl ?_
        obtain ⟨A21, e22, hi0, hi1, hS⟩ := hS
        refine Run.go rfl rfl rfl (sem_indexAddrS A21 n3 c4 .i64 (i14) (congrArg (fun a => Value.slice a n3 c4) e22) rfl TF.slc_35 hi0 hi1 ?_)
        obtain ⟨i23, i24, i25, hl, hS⟩ := hS
        refine Run.go rfl rfl rfl (sem_loadN (Addr.add A21 (Int.toNat (i14) * 3)) [(Value.int .i64 (i23)), (Value.int .i64 (i24)), (Value.int .i64 (i25))] rfl TF.agg_40 TF.sz_40 hl ?_)
        refine Run.go rfl rfl rfl (sem_allocN [(Value.int .i64 (0)), (Value.int .i64 (0)), (Value.int .i64 (0))] TF.zero_40 (fun k26 hb1 hb2 h27 hb3 => ?_))
        have hS := hS k26 hb1 hb2 h27 hb3
        obtain ⟨h28, hst, hS⟩ := hS
        refine Run.go rfl rfl rfl (sem_storeN ⟨k26, 0, none⟩ [(Value.int .i64 (i23)), (Value.int .i64 (i24)), (Value.int .i64 (i25))] h28 rfl rfl TF.sz_40 hst ?_)
        refine Run.region_end ?_
        refine Run.seqJ (fun e h30 => Agree [(5, (Value.pointer p11)), (6, (Value.pointer (some ⟨k12, 0, none⟩))), (23, (Value.slice a2 n3 c4)), (24, (Value.int .i64 ((n3 : Nat)))), (25, (Value.int .i64 (i14)))] e ∧ S_countermandlaw08_CellNewest_J2 B a2 n3 c4 p11 k12 i14 m16 J19 h30 Q) ?_ fun j29 => ?_
        · rintro e h30 ⟨hag, hS⟩
          refine Run.env hag ?_; clear hag
          refine Run.seq ?_
          refine Run.ops0 (idx := [0]) rfl ?_
          refine Run.go rfl rfl rfl (sem_assign ((Value.int .i64 (0))) rfl ?_)
          refine Run.region_end ?_
          refine Run.seqJ (fun e h33 => ∃ i32 : Int, Agree [(5, (Value.pointer p11)), (6, (Value.pointer (some ⟨k12, 0, none⟩))), (9, (Value.int .i64 (i32))), (23, (Value.slice a2 n3 c4)), (24, (Value.int .i64 ((n3 : Nat)))), (25, (Value.int .i64 (i14)))] e ∧ S_countermandlaw08_CellNewest_J3 B a2 n3 c4 p11 k12 i14 m16 J19 i32 h33 Q) ?_ fun j31 => ?_
          · rintro e h33 ⟨i32, hag, hS⟩
            refine Run.env hag ?_; clear hag
            refine Run.seq ?_
            refine Run.ops0 (idx := [0, 1, 2, 3]) rfl ?_
            refine Run.go rfl rfl rfl (sem_move ((Value.pointer p11)) rfl ?_)
            refine Run.go rfl rfl rfl (sem_callL [(Value.pointer p11)] (TF.goes_23) rfl rfl (Spec.mono hS fun v h34 hv => ?_))
            obtain ⟨i35, rfl, hS⟩ := hv
            refine Run.go rfl rfl rfl (sem_move ((Value.int .i64 (i32))) rfl ?_)
            obtain ⟨hT, hF⟩ := hS
            by_cases hb36 : (i35 : Int) = i32
            · have hS := hT hb36; clear hT hF
              refine Run.go rfl rfl rfl (sem_binI .i64 (i35) (i32) (.bool false) rfl rfl (binI_neq_t hb36) ?_)
              refine Run.region_end ?_
              refine Run.condF rfl ?_
              refine Run.skip ?_
              refine Run.inBlock ?_
              refine Run.ops0 (idx := [0, 1]) rfl ?_
              refine Run.go rfl rfl rfl (sem_binI .i64 (i14) (1) ((Value.int .i64 (IntKind.wrap .i64 ((i14) + (1))))) rfl rfl rfl ?_)
              refine Run.go rfl rfl rfl (sem_move ((Value.int .i64 (IntKind.wrap .i64 ((i14) + (1))))) rfl ?_)
              refine Run.region_end ?_
              exact Run.of_fin (hS.imp fun h' ⟨m', hm, hS⟩ => ih18 ((IntKind.wrap .i64 ((i14) + (1))), m') _ _ ⟨hS, ⟨rfl, rfl, rfl, rfl, rfl, trivial⟩⟩ hm)
            · have hS := hF hb36; clear hT hF
              refine Run.go rfl rfl rfl (sem_binI .i64 (i35) (i32) (.bool true) rfl rfl (binI_neq_f hb36) ?_)
              refine Run.region_end ?_
              refine Run.condT rfl ?_
              refine Run.seq ?_
              refine Run.ops0 (idx := [0]) rfl ?_
              refine Run.go rfl rfl rfl (sem_assign ((Value.bool false)) rfl ?_)
              refine Run.region_end ?_
              refine Run.ret ⟨.inr rfl, ?_⟩
              exact hS.imp fun h' hq => ⟨(false), rfl, hq⟩
          refine Run.seq ?_
          refine Run.ops0 (idx := [0, 1]) rfl ?_
          obtain ⟨l37, hln, hl, hS⟩ := hS
          refine Run.go rfl rfl rfl (sem_loadN ⟨k12, 0, none⟩ l37 rfl TF.agg_38 (TF.sz_38.trans (congrArg some hln.symm)) hl ?_)
          refine Run.go rfl rfl rfl (sem_move ((Value.int .i64 (0))) rfl ?_)
          refine Run.region_end ?_
          refine Run.block ?_
          obtain ⟨J44, m42, h0, hS⟩ := hS
          refine Run.of_fin (h0.imp fun h' h0 => ?_)
          refine Run.loop (σ := Int × Int × Nat) (fun x e h => J44 x.1 x.2.1 x.2.2 h ∧ Agree [(5, (Value.pointer p11)), (6, (Value.pointer (some ⟨k12, 0, none⟩))), (9, (Value.int .i64 (x.1))), (23, (Value.slice a2 n3 c4)), (24, (Value.int .i64 ((n3 : Nat)))), (25, (Value.int .i64 (i14))), (50, (Value.agg (List.toArray l37))), (51, (Value.int .i64 (x.2.1)))] e) (fun x => x.2.2) ((0), (0), m42) ⟨h0, ⟨rfl, rfl, rfl, rfl, rfl, rfl, rfl, rfl, trivial⟩⟩ ?_; clear h0
          rintro ⟨i38, i39, m41⟩ e h40 ⟨hJ, hag⟩ ih43
          have hS := hS i38 i39 m41 h40 hJ; clear hJ
          refine Run.env hag ?_; clear hag
          refine Run.seq ?_
          refine Run.ops0 (idx := [0]) rfl ?_
          obtain ⟨hT, hF⟩ := hS
          by_cases hb45 : (i39 : Int) < (64)
          · have hS := hT hb45; clear hT hF
            refine Run.go rfl rfl rfl (sem_binI .i64 (i39) (64) (.bool true) rfl rfl (binI_lss_t hb45) ?_)
            refine Run.region_end ?_
            refine Run.seq ?_
            refine Run.condT rfl ?_
            refine Run.skip ?_
            refine Run.seq ?_
            refine Run.block ?_
            refine Run.seq ?_
            refine Run.ops0 (idx := [0, 1]) rfl ?_
            obtain ⟨hi0, hi1, i46, hix, hS⟩ := hS
            refine Run.go rfl rfl rfl (sem_indexArr (List.toArray l37) (Value.int .i64 (i46)) .i64 (i39) rfl rfl TF.arr_38 hi0 hi1 hix ?_)
            refine Run.go rfl rfl rfl (sem_assign ((Value.int .i64 (i46))) rfl ?_)
            refine Run.region_end ?_
            refine Run.ops0 (idx := [0, 1, 2, 3]) rfl ?_
            refine Run.go rfl rfl rfl (sem_move ((Value.int .i64 (i38))) rfl ?_)
            refine Run.go rfl rfl rfl (sem_move ((Value.int .i64 (i46))) rfl ?_)
            refine Run.go rfl rfl rfl (sem_max .i64 (i38) (i46) rfl rfl ?_)
            refine Run.go rfl rfl rfl (sem_assign ((Value.int .i64 (if (i46 : Int) > (i38) then (i46 : Int) else (i38)))) rfl ?_)
            refine Run.region_end ?_
            refine Run.inBlock ?_
            refine Run.ops0 (idx := [0, 1]) rfl ?_
            refine Run.go rfl rfl rfl (sem_binI .i64 (i39) (1) ((Value.int .i64 (IntKind.wrap .i64 ((i39) + (1))))) rfl rfl rfl ?_)
            refine Run.go rfl rfl rfl (sem_move ((Value.int .i64 (IntKind.wrap .i64 ((i39) + (1))))) rfl ?_)
            refine Run.region_end ?_
            exact Run.of_fin (hS.imp fun h' ⟨m', hm, hS⟩ => ih43 ((if (i46 : Int) > (i38) then (i46 : Int) else (i38)), (IntKind.wrap .i64 ((i39) + (1))), m') _ _ ⟨hS, ⟨rfl, rfl, rfl, rfl, rfl, rfl, rfl, rfl, trivial⟩⟩ hm)
          · have hS := hF hb45; clear hT hF
            refine Run.go rfl rfl rfl (sem_binI .i64 (i39) (64) (.bool false) rfl rfl (binI_lss_f hb45) ?_)
            refine Run.region_end ?_
            refine Run.seq ?_
            refine Run.condF rfl ?_
            refine Run.exit rfl ?_
            exact Run.of_fin (hS.imp fun h' hS => j31 _ _ ⟨(i38), ⟨rfl, rfl, rfl, rfl, rfl, rfl, trivial⟩, hS⟩)
        refine Run.seq ?_
        refine Run.ops0 (idx := [0, 1, 2, 3, 4, 5, 6, 7]) rfl ?_
        refine Run.go rfl rfl rfl (sem_move ((Value.pointer p11)) rfl ?_)
        refine Run.go rfl rfl rfl (sem_fieldAddr ⟨k26, 0, none⟩ 0 rfl TF.fld_40_0 ?_)
        obtain ⟨i47, hl, hS⟩ := hS
        refine Run.go rfl rfl rfl (sem_load1 ⟨k26, 0, none⟩ ((Value.int .i64 (i47))) rfl TF.agg_3 hl ?_)
        refine Run.go rfl rfl rfl (sem_fieldAddr ⟨k26, 0, none⟩ 1 rfl TF.fld_40_1 ?_)
        obtain ⟨i48, hl, hS⟩ := hS
        refine Run.go rfl rfl rfl (sem_load1 ⟨k26, 1, none⟩ ((Value.int .i64 (i48))) rfl TF.agg_3 hl ?_)
        refine Run.go rfl rfl rfl (sem_fieldAddr ⟨k26, 0, none⟩ 2 rfl TF.fld_40_2 ?_)
        obtain ⟨i49, hl, hS⟩ := hS
        refine Run.go rfl rfl rfl (sem_load1 ⟨k26, 2, none⟩ ((Value.int .i64 (i49))) rfl TF.agg_3 hl ?_)
        refine Run.go rfl rfl rfl (sem_callL [(Value.pointer p11), (Value.int .i64 (i47)), (Value.int .i64 (i48)), (Value.int .i64 (i49))] (TF.goes_22) rfl rfl (Spec.mono hS fun v h50 hv => ?_))
        obtain ⟨b51, rfl, hS⟩ := hv
        obtain ⟨hT, hF⟩ := hS
        cases b51
        · have hS := hF rfl; clear hT hF
          refine Run.region_end ?_
          refine Run.condF rfl ?_
          refine Run.skip ?_
          exact Run.of_fin (hS.imp fun h' hS => j29 _ _ ⟨⟨rfl, rfl, rfl, rfl, rfl, trivial⟩, hS⟩)
        · have hS := hT rfl; clear hT hF
          refine Run.region_end ?_
          refine Run.condT rfl ?_
          refine Run.seq ?_
          refine Run.seqJ (fun e h54 => ∃ b53 : Bool, Agree [(5, (Value.pointer p11)), (6, (Value.pointer (some ⟨k12, 0, none⟩))), (8, (Value.pointer (some ⟨k26, 0, none⟩))), (23, (Value.slice a2 n3 c4)), (24, (Value.int .i64 ((n3 : Nat)))), (25, (Value.int .i64 (i14))), (44, (Value.bool b53))] e ∧ S_countermandlaw08_CellNewest_J4 B a2 n3 c4 p11 k12 i14 m16 J19 k26 b53 h54 Q) ?_ fun j52 => ?_
          · rintro e h54 ⟨b53, hag, hS⟩
            refine Run.env hag ?_; clear hag
            obtain ⟨hT, hF⟩ := hS
            cases b53
            · have hS := hF rfl; clear hT hF
              refine Run.condF rfl ?_
              refine Run.skip ?_
              refine Run.ops0 (idx := [0, 1, 2, 3, 4, 5]) rfl ?_
              refine Run.go rfl rfl rfl (sem_fieldAddr ⟨k26, 0, none⟩ 0 rfl TF.fld_40_0 ?_)
              obtain ⟨i55, hl, hS⟩ := hS
              refine Run.go rfl rfl rfl (sem_load1 ⟨k26, 0, none⟩ ((Value.int .i64 (i55))) rfl TF.agg_3 hl ?_)
              refine Run.go rfl rfl rfl (sem_fieldAddr ⟨k26, 0, none⟩ 2 rfl TF.fld_40_2 ?_)
              obtain ⟨i56, hl, hS⟩ := hS
              refine Run.go rfl rfl rfl (sem_load1 ⟨k26, 2, none⟩ ((Value.int .i64 (i56))) rfl TF.agg_3 hl ?_)
              obtain ⟨hi0, hi1, hS⟩ := hS
              refine Run.go rfl rfl rfl (sem_indexAddrA ⟨k12, 0, none⟩ .i64 (i55) rfl rfl TF.arr_38 hi0 hi1 ?_)
              obtain ⟨h57, hst, hS⟩ := hS
              refine Run.go rfl rfl rfl (sem_store1 (Addr.add ⟨k12, 0, none⟩ (Int.toNat (i55) * 1)) ((Value.int .i64 (i56))) h57 rfl rfl rfl TF.sz_3 hst ?_)
              refine Run.region_end ?_
              exact Run.of_fin (hS.imp fun h' hS => j29 _ _ ⟨⟨rfl, rfl, rfl, rfl, rfl, trivial⟩, hS⟩)
            · have hS := hT rfl; clear hT hF
              refine Run.condT rfl ?_
              refine Run.seq ?_
              refine Run.ops0 (idx := [0]) rfl ?_
              refine Run.go rfl rfl rfl (sem_assign ((Value.bool false)) rfl ?_)
              refine Run.region_end ?_
              refine Run.ret ⟨.inr rfl, ?_⟩
              exact hS.imp fun h' hq => ⟨(false), rfl, hq⟩
          refine Run.ops0 (idx := [0, 1, 2, 3, 4, 5, 6, 7]) rfl ?_
          refine Run.go rfl rfl rfl (sem_fieldAddr ⟨k26, 0, none⟩ 0 rfl TF.fld_40_0 ?_)
          obtain ⟨i58, hl, hS⟩ := hS
          refine Run.go rfl rfl rfl (sem_load1 ⟨k26, 0, none⟩ ((Value.int .i64 (i58))) rfl TF.agg_3 hl ?_)
          obtain ⟨hT, hF⟩ := hS
          by_cases hb59 : (i58 : Int) < (0)
          · have hS := hT hb59; clear hT hF
            refine Run.go rfl rfl rfl (sem_binI .i64 (i58) (0) (.bool true) rfl rfl (binI_lss_t hb59) ?_)
            refine Run.go rfl rfl rfl (sem_move ((Value.bool true)) rfl ?_)
            refine Run.no rfl rfl rfl ?_
            refine Run.no rfl rfl rfl ?_
            refine Run.no rfl rfl rfl ?_
            refine Run.go rfl rfl rfl (sem_pick true ((Value.bool true)) rfl rfl ?_)
            refine Run.region_end ?_
            exact Run.of_fin (hS.imp fun h' hS => j52 _ _ ⟨(true), ⟨rfl, rfl, rfl, rfl, rfl, rfl, rfl, trivial⟩, hS⟩)
          · have hS := hF hb59; clear hT hF
            refine Run.go rfl rfl rfl (sem_binI .i64 (i58) (0) (.bool false) rfl rfl (binI_lss_f hb59) ?_)
            refine Run.go rfl rfl rfl (sem_move ((Value.bool false)) rfl ?_)
            refine Run.go rfl rfl rfl (sem_fieldAddr ⟨k26, 0, none⟩ 0 rfl TF.fld_40_0 ?_)
            obtain ⟨i60, hl, hS⟩ := hS
            refine Run.go rfl rfl rfl (sem_load1 ⟨k26, 0, none⟩ ((Value.int .i64 (i60))) rfl TF.agg_3 hl ?_)
            obtain ⟨hT, hF⟩ := hS
            by_cases hb61 : (i60 : Int) > (63)
            · have hS := hT hb61; clear hT hF
              refine Run.go rfl rfl rfl (sem_binI .i64 (i60) (63) (.bool true) rfl rfl (binI_gtr_t hb61) ?_)
              refine Run.go rfl rfl rfl (sem_pick false ((Value.bool true)) rfl rfl ?_)
              refine Run.region_end ?_
              exact Run.of_fin (hS.imp fun h' hS => j52 _ _ ⟨(true), ⟨rfl, rfl, rfl, rfl, rfl, rfl, rfl, trivial⟩, hS⟩)
            · have hS := hF hb61; clear hT hF
              refine Run.go rfl rfl rfl (sem_binI .i64 (i60) (63) (.bool false) rfl rfl (binI_gtr_f hb61) ?_)
              refine Run.go rfl rfl rfl (sem_pick false ((Value.bool false)) rfl rfl ?_)
              refine Run.region_end ?_
              exact Run.of_fin (hS.imp fun h' hS => j52 _ _ ⟨(false), ⟨rfl, rfl, rfl, rfl, rfl, rfl, rfl, trivial⟩, hS⟩)
      · have hS := hF hb20; clear hT hF
        refine Run.go rfl rfl rfl (sem_binI .i64 (i14) ((n3 : Nat)) (.bool false) rfl rfl (binI_lss_f hb20) ?_)
        refine Run.region_end ?_
        refine Run.seq ?_
        refine Run.condF rfl ?_
        refine Run.exit rfl ?_
        refine Run.seq ?_
        refine Run.ops0 (idx := [0]) rfl ?_
        refine Run.go rfl rfl rfl (sem_assign ((Value.bool true)) rfl ?_)
        refine Run.region_end ?_
        refine Run.ret ⟨.inr rfl, ?_⟩
        exact hS.imp fun h' hq => ⟨(true), rfl, hq⟩
    refine Run.seq ?_
    refine Run.ops0 (idx := [0, 1, 2, 3, 4, 5, 6]) rfl ?_
    refine Run.go rfl rfl rfl (sem_move ((Value.int .i64 (i1))) rfl ?_)
    obtain ⟨hT, hF⟩ := hS
    by_cases hb62 : (i1 : Int) > (64)
    · have hS := hT hb62; clear hT hF
      refine Run.go rfl rfl rfl (sem_binI .i64 (i1) (64) (.bool true) rfl rfl (binI_gtr_t hb62) ?_)
      refine Run.go rfl rfl rfl (sem_move ((Value.bool true)) rfl ?_)
      refine Run.no rfl rfl rfl ?_
      refine Run.no rfl rfl rfl ?_
      refine Run.no rfl rfl rfl ?_
      refine Run.go rfl rfl rfl (sem_pick true ((Value.bool true)) rfl rfl ?_)
      refine Run.region_end ?_
      refine Run.condT rfl ?_
      refine Run.seq ?_
      refine Run.ops0 (idx := [0]) rfl ?_
      refine Run.go rfl rfl rfl (sem_assign ((Value.bool true)) rfl ?_)
      refine Run.region_end ?_
      refine Run.ret ⟨.inr rfl, ?_⟩
      exact hS.imp fun h' hq => ⟨(true), rfl, hq⟩
    · have hS := hF hb62; clear hT hF
      refine Run.go rfl rfl rfl (sem_binI .i64 (i1) (64) (.bool false) rfl rfl (binI_gtr_f hb62) ?_)
      refine Run.go rfl rfl rfl (sem_move ((Value.bool false)) rfl ?_)
      refine Run.go rfl rfl rfl (sem_move ((Value.slice a2 n3 c4)) rfl ?_)
      refine Run.go rfl rfl rfl (sem_lenSl a2 n3 c4 rfl TF.sl_35 ?_)
      obtain ⟨hT, hF⟩ := hS
      by_cases hb63 : ((n3 : Nat) : Int) > (100)
      · have hS := hT hb63; clear hT hF
        refine Run.go rfl rfl rfl (sem_binI .i64 ((n3 : Nat)) (100) (.bool true) rfl rfl (binI_gtr_t hb63) ?_)
        refine Run.go rfl rfl rfl (sem_pick false ((Value.bool true)) rfl rfl ?_)
        refine Run.region_end ?_
        refine Run.condT rfl ?_
        refine Run.seq ?_
        refine Run.ops0 (idx := [0]) rfl ?_
        refine Run.go rfl rfl rfl (sem_assign ((Value.bool true)) rfl ?_)
        refine Run.region_end ?_
        refine Run.ret ⟨.inr rfl, ?_⟩
        exact hS.imp fun h' hq => ⟨(true), rfl, hq⟩
      · have hS := hF hb63; clear hT hF
        refine Run.go rfl rfl rfl (sem_binI .i64 ((n3 : Nat)) (100) (.bool false) rfl rfl (binI_gtr_f hb63) ?_)
        refine Run.go rfl rfl rfl (sem_pick false ((Value.bool false)) rfl rfl ?_)
        refine Run.region_end ?_
        refine Run.condF rfl ?_
        refine Run.skip ?_
        exact Run.of_fin (hS.imp fun h' hS => j8 _ _ ⟨⟨rfl, rfl, trivial⟩, hS⟩)
set_option maxHeartbeats 4000000 in
theorem C_countermandlaw08_CellApart.of {B : RO} {i1 : Int} {a2 : Option Addr} {n3 : Nat} {c4 : Nat} {i5 : Int} {i6 : Int} {i7 : Int} {i8 : Int} {h : Heap} {Q : Bool → Heap → Prop} (hS : S_countermandlaw08_CellApart B i1 a2 n3 c4 i5 i6 i7 i8 h Q) : C_countermandlaw08_CellApart B i1 a2 n3 c4 i5 i6 i7 i8 h Q := by
  unfold S_countermandlaw08_CellApart at hS
  unfold C_countermandlaw08_CellApart
  refine Spec.of_run Try.func7 (N := 126) (rs := [ResultVar.cell 8 4]) rfl rfl rfl (Nat.le_of_ble_eq_true rfl) ?_
  refine Run.seq ?_
  refine Run.ops0 (idx := [0, 1, 2]) rfl ?_
  refine Run.go rfl rfl rfl (sem_boxNN [(Value.int .i64 (i5)), (Value.int .i64 (i6)), (Value.int .i64 (i7))] rfl (fun k10 hb1 hb2 h11 hb3 => ?_))
  have hS := hS k10 hb1 hb2 h11 hb3
  refine Run.go rfl rfl rfl (sem_box1N ((Value.int .i64 (i8))) rfl rfl (fun k12 hb1 hb2 h13 hb3 => ?_))
  have hS := hS k12 hb1 hb2 h13 hb3
  refine Run.go rfl rfl rfl (sem_allocN [(Value.bool false)] TF.zero_4 (fun k14 hb1 hb2 h15 hb3 => ?_))
  have hS := hS k14 hb1 hb2 h15 hb3
  refine Run.region_end ?_
  refine Run.seq ?_
  refine Run.seq ?_
  refine Run.ops0 (idx := [0, 1]) rfl ?_
  refine Run.go rfl rfl rfl (sem_callL [] (TF.goes_20) rfl rfl (Spec.mono hS fun v h16 hv => ?_))
  obtain ⟨b17, rfl, hS⟩ := hv
  obtain ⟨hT, hF⟩ := hS
  cases b17
  · have hS := hF rfl; clear hT hF
    refine Run.go rfl rfl rfl (sem_not false rfl ?_)
    refine Run.region_end ?_
    refine Run.condT rfl ?_
    refine Run.seq ?_
    refine Run.ops0 (idx := [0]) rfl ?_
    obtain ⟨h18, hst, hS⟩ := hS
    refine Run.go rfl rfl rfl (sem_store1 ⟨k14, 0, none⟩ ((Value.bool false)) h18 rfl rfl rfl TF.sz_4 hst ?_)
    refine Run.region_end ?_
    obtain ⟨b19, hl0, hS⟩ := hS
    refine Run.ret ⟨.inr rfl, ?_⟩
    exact ⟨⟨k14, 0, none⟩, (Value.bool b19), rfl, loadH1 TF.agg_4 hl0, hS.imp fun h' hq => ⟨(b19), rfl, hq⟩⟩
  · have hS := hT rfl; clear hT hF
    refine Run.go rfl rfl rfl (sem_not true rfl ?_)
    refine Run.region_end ?_
    refine Run.condF rfl ?_
    refine Run.skip ?_
    refine Run.seqJ (fun e h21 => Agree [(0, (Value.int .i64 (i1))), (1, (Value.slice a2 n3 c4)), (6, (Value.pointer (some ⟨k10, 0, none⟩))), (7, (Value.pointer (some ⟨k12, 0, none⟩))), (8, (Value.pointer (some ⟨k14, 0, none⟩)))] e ∧ S_countermandlaw08_CellApart_J1 B i1 a2 n3 c4 k10 k12 k14 h21 Q) ?_ fun j20 => ?_
    · rintro e h21 ⟨hag, hS⟩
      refine Run.env hag ?_; clear hag
      refine Run.seq ?_
      refine Run.ops0 (idx := [0, 1, 2, 3, 4, 5, 6, 7]) rfl ?_
      refine Run.go rfl rfl rfl (sem_move ((Value.int .i64 (i1))) rfl ?_)
      refine Run.go rfl rfl rfl (sem_callL [(Value.int .i64 (i1)), (Value.string (ByteArray.mk #[120]))] (TF.goes_24) rfl rfl (Spec.mono hS fun v h22 hv => ?_))
      obtain ⟨p23, rfl, hS⟩ := hv
      refine Run.go rfl rfl rfl (sem_move ((Value.int .i64 (i1))) rfl ?_)
      refine Run.go rfl rfl rfl (sem_callL [(Value.int .i64 (i1)), (Value.string (ByteArray.mk #[120]))] (TF.goes_24) rfl rfl (Spec.mono hS fun v h24 hv => ?_))
      obtain ⟨p25, rfl, hS⟩ := hv
      refine Run.go rfl rfl rfl (sem_allocN [(Value.pointer none)] TF.zero_44 (fun k26 hb1 hb2 h27 hb3 => ?_))
      have hS := hS k26 hb1 hb2 h27 hb3
      refine Run.go rfl rfl rfl (sem_allocN [(Value.pointer none)] TF.zero_44 (fun k28 hb1 hb2 h29 hb3 => ?_))
      have hS := hS k28 hb1 hb2 h29 hb3
      obtain ⟨h30, hst, hS⟩ := hS
      refine Run.go rfl rfl rfl (sem_store1 ⟨k26, 0, none⟩ ((Value.pointer p23)) h30 rfl rfl rfl TF.sz_44 hst ?_)
      obtain ⟨h31, hst, hS⟩ := hS
      refine Run.go rfl rfl rfl (sem_store1 ⟨k28, 0, none⟩ ((Value.pointer p25)) h31 rfl rfl rfl TF.sz_44 hst ?_)
      refine Run.region_end ?_
      refine Run.seqJ (fun e h33 => Agree [(0, (Value.int .i64 (i1))), (6, (Value.pointer (some ⟨k10, 0, none⟩))), (7, (Value.pointer (some ⟨k12, 0, none⟩))), (8, (Value.pointer (some ⟨k14, 0, none⟩))), (9, (Value.pointer (some ⟨k26, 0, none⟩))), (10, (Value.pointer (some ⟨k28, 0, none⟩)))] e ∧ S_countermandlaw08_CellApart_J2 B i1 k10 k12 k14 k26 k28 h33 Q) ?_ fun j32 => ?_
      · rintro e h33 ⟨hag, hS⟩
        refine Run.env hag ?_; clear hag
        refine Run.seq ?_
        refine Run.ops0 (idx := [0, 1, 2, 3, 4, 5]) rfl ?_
        obtain ⟨p34, hl, hS⟩ := hS
        refine Run.go rfl rfl rfl (sem_load1 ⟨k28, 0, none⟩ ((Value.pointer p34)) rfl TF.agg_44 hl ?_)
        refine Run.go rfl rfl rfl (sem_fieldAddr ⟨k10, 0, none⟩ 0 rfl TF.fld_40_0 ?_)
        obtain ⟨i35, hl, hS⟩ := hS
        refine Run.go rfl rfl rfl (sem_load1 ⟨k10, 0, none⟩ ((Value.int .i64 (i35))) rfl TF.agg_3 hl ?_)
        refine Run.go rfl rfl rfl (sem_fieldAddr ⟨k10, 0, none⟩ 2 rfl TF.fld_40_2 ?_)
        obtain ⟨i36, hl, hS⟩ := hS
        refine Run.go rfl rfl rfl (sem_load1 ⟨k10, 2, none⟩ ((Value.int .i64 (i36))) rfl TF.agg_3 hl ?_)
        refine Run.go rfl rfl rfl (sem_callL [(Value.pointer p34), (Value.int .i64 (i35)), (Value.string (ByteArray.mk #[111, 116, 104, 101, 114])), (Value.int .i64 (i36))] (TF.goes_25) rfl rfl (Spec.mono hS fun v h37 hv => ?_))
        obtain ⟨b38, rfl, hS⟩ := hv
        refine Run.region_end ?_
        refine Run.seq ?_
        refine Run.ops0 (idx := [0, 1]) rfl ?_
        refine Run.go rfl rfl rfl (sem_allocN [(Value.int .i64 (0))] TF.zero_3 (fun k39 hb1 hb2 h40 hb3 => ?_))
        have hS := hS k39 hb1 hb2 h40 hb3
        obtain ⟨h41, hst, hS⟩ := hS
        refine Run.go rfl rfl rfl (sem_store1 ⟨k39, 0, none⟩ ((Value.int .i64 (0))) h41 rfl rfl rfl TF.sz_3 hst ?_)
        refine Run.region_end ?_
        refine Run.seqJ (fun e h43 => Agree [(0, (Value.int .i64 (i1))), (7, (Value.pointer (some ⟨k12, 0, none⟩))), (8, (Value.pointer (some ⟨k14, 0, none⟩))), (13, (Value.pointer (some ⟨k39, 0, none⟩)))] e ∧ S_countermandlaw08_CellApart_J3 B i1 k12 k14 k39 h43 Q) ?_ fun j42 => ?_
        · rintro e h43 ⟨hag, hS⟩
          refine Run.env hag ?_; clear hag
          refine Run.seq ?_
          refine Run.ops0 (idx := [0, 1, 2, 3, 4, 5, 6, 7, 8, 9]) rfl ?_
          obtain ⟨i44, hl, hS⟩ := hS
          refine Run.go rfl rfl rfl (sem_load1 ⟨k39, 0, none⟩ ((Value.int .i64 (i44))) rfl TF.agg_3 hl ?_)
          obtain ⟨i45, hl, hS⟩ := hS
          refine Run.go rfl rfl rfl (sem_load1 ⟨k12, 0, none⟩ ((Value.int .i64 (i45))) rfl TF.agg_3 hl ?_)
          obtain ⟨hT, hF⟩ := hS
          by_cases hb46 : (i44 : Int) = i45
          · have hS := hT hb46; clear hT hF
            refine Run.go rfl rfl rfl (sem_binI .i64 (i44) (i45) (.bool true) rfl rfl (binI_eql_t hb46) ?_)
            refine Run.go rfl rfl rfl (sem_move ((Value.bool true)) rfl ?_)
            refine Run.no rfl rfl rfl ?_
            refine Run.no rfl rfl rfl ?_
            refine Run.no rfl rfl rfl ?_
            refine Run.no rfl rfl rfl ?_
            refine Run.go rfl rfl rfl (sem_pick true ((Value.bool true)) rfl rfl ?_)
            obtain ⟨h47, hst, hS⟩ := hS
            refine Run.go rfl rfl rfl (sem_store1 ⟨k14, 0, none⟩ ((Value.bool true)) h47 rfl rfl rfl TF.sz_4 hst ?_)
            refine Run.region_end ?_
            obtain ⟨b48, hl0, hS⟩ := hS
            refine Run.ret ⟨.inr rfl, ?_⟩
            exact ⟨⟨k14, 0, none⟩, (Value.bool b48), rfl, loadH1 TF.agg_4 hl0, hS.imp fun h' hq => ⟨(b48), rfl, hq⟩⟩
          · have hS := hF hb46; clear hT hF
            refine Run.go rfl rfl rfl (sem_binI .i64 (i44) (i45) (.bool false) rfl rfl (binI_eql_f hb46) ?_)
            refine Run.go rfl rfl rfl (sem_move ((Value.bool false)) rfl ?_)
            obtain ⟨i49, hl, hS⟩ := hS
            refine Run.go rfl rfl rfl (sem_load1 ⟨k39, 0, none⟩ ((Value.int .i64 (i49))) rfl TF.agg_3 hl ?_)
            refine Run.go rfl rfl rfl (sem_move ((Value.int .i64 (i1))) rfl ?_)
            refine Run.go rfl rfl rfl (sem_max .i64 (i1) (0) rfl rfl ?_)
            refine Run.go rfl rfl rfl (sem_binI .i64 (i49) (if (0 : Int) > (i1) then (0 : Int) else (i1)) ((Value.bool ((i49 : Int) == (if (0 : Int) > (i1) then (0 : Int) else (i1))))) rfl rfl rfl ?_)
            refine Run.go rfl rfl rfl (sem_pick false ((Value.bool ((i49 : Int) == (if (0 : Int) > (i1) then (0 : Int) else (i1))))) rfl rfl ?_)
            obtain ⟨h50, hst, hS⟩ := hS
            refine Run.go rfl rfl rfl (sem_store1 ⟨k14, 0, none⟩ ((Value.bool ((i49 : Int) == (if (0 : Int) > (i1) then (0 : Int) else (i1))))) h50 rfl rfl rfl TF.sz_4 hst ?_)
            refine Run.region_end ?_
            obtain ⟨b51, hl0, hS⟩ := hS
            refine Run.ret ⟨.inr rfl, ?_⟩
            exact ⟨⟨k14, 0, none⟩, (Value.bool b51), rfl, loadH1 TF.agg_4 hl0, hS.imp fun h' hq => ⟨(b51), rfl, hq⟩⟩
        refine Run.seq ?_
        refine Run.ops0 (idx := [0, 1]) rfl ?_
        obtain ⟨p52, hl, hS⟩ := hS
        refine Run.go rfl rfl rfl (sem_load1 ⟨k28, 0, none⟩ ((Value.pointer p52)) rfl TF.agg_44 hl ?_)
        refine Run.go rfl rfl rfl (sem_callL [(Value.pointer p52)] (TF.goes_26) rfl rfl (Spec.mono hS fun v54 h53 hv => ?_))
        obtain ⟨_, rfl, hS⟩ := hv
        refine Run.region_end ?_
        refine Run.block ?_
        obtain ⟨xs61, G57, J60, hit, hins, hG, h0, hS, hR⟩ := hS
        refine Run.of_fin (h0.imp fun h' h0 => ?_)
        refine Run.range (v54) (xs61.map (fun x : Int × ByteArray => [(Value.int .i64 (x.1)), (Value.string x.2)])) G57 J60 rfl hit hins hG h0 rfl (fun a ha => by obtain ⟨x, _, rfl⟩ := List.mem_map.1 ha; rfl) ?_ ?_
        · rintro q59 args h58 ha hJ
          obtain ⟨⟨i55, s56⟩, hx, rfl⟩ := Option.map_eq_some_iff.1 ((List.getElem?_map ..).symm.trans ha)
          have hS := hS q59 h58 i55 s56 hx hJ; clear hJ hx ha
          refine Run.seq ?_
          refine Run.ops0 (idx := [0]) rfl ?_
          refine Run.go rfl rfl rfl (sem_assign ((Value.int .i64 (i55))) rfl ?_)
          refine Run.region_end ?_
          refine Run.ops0 (idx := [0]) rfl ?_
          refine Run.go rfl rfl rfl (sem_assign ((Value.string s56)) rfl ?_)
          refine Run.region_end ?_
          refine Run.begin ⟨rfl, ?_⟩
          refine Run.block ?_
          refine Run.seq ?_
          refine Run.ops0 (idx := [0, 1, 2, 3, 4, 5, 6, 7]) rfl ?_
          obtain ⟨p62, hl, hS⟩ := hS
          refine Run.go rfl rfl rfl (sem_load1 ⟨k26, 0, none⟩ ((Value.pointer p62)) rfl TF.agg_44 hl ?_)
          refine Run.go rfl rfl rfl (sem_move ((Value.int .i64 (i55))) rfl ?_)
          refine Run.go rfl rfl rfl (sem_callL [(Value.pointer p62), (Value.int .i64 (i55))] (TF.goes_27) rfl rfl (Spec.mono hS fun v h63 hv => ?_))
          obtain ⟨s64, i65, rfl, hS⟩ := hv
          refine Run.go rfl rfl rfl (sem_move ((Value.tuple #[(Value.string s64), (Value.int .i64 (i65))])) rfl ?_)
          refine Run.go rfl rfl rfl (sem_extract #[(Value.string s64), (Value.int .i64 (i65))] ((Value.string s64)) rfl rfl ?_)
          refine Run.go rfl rfl rfl (sem_extract #[(Value.string s64), (Value.int .i64 (i65))] ((Value.int .i64 (i65))) rfl rfl ?_)
          refine Run.go rfl rfl rfl (sem_assign ((Value.string s64)) rfl ?_)
          refine Run.go rfl rfl rfl (sem_assign ((Value.int .i64 (i65))) rfl ?_)
          refine Run.region_end ?_
          refine Run.seq ?_
          refine Run.seqJ (fun e h68 => ∃ b67 : Bool, Agree [(7, (Value.pointer (some ⟨k12, 0, none⟩))), (8, (Value.pointer (some ⟨k14, 0, none⟩))), (13, (Value.pointer (some ⟨k39, 0, none⟩))), (111, (Value.bool b67))] e ∧ S_countermandlaw08_CellApart_J4 B i1 k12 k14 k39 q59 J60 b67 h68 Q) ?_ fun j66 => ?_
          · rintro e h68 ⟨b67, hag, hS⟩
            refine Run.env hag ?_; clear hag
            obtain ⟨hT, hF⟩ := hS
            cases b67
            · have hS := hF rfl; clear hT hF
              refine Run.condF rfl ?_
              refine Run.skip ?_
              refine Run.seq ?_
              refine Run.ops0 (idx := [0, 1, 2]) rfl ?_
              obtain ⟨i69, hl, hS⟩ := hS
              refine Run.go rfl rfl rfl (sem_load1 ⟨k39, 0, none⟩ ((Value.int .i64 (i69))) rfl TF.agg_3 hl ?_)
              refine Run.go rfl rfl rfl (sem_binI .i64 (i69) (1) ((Value.int .i64 (IntKind.wrap .i64 ((i69) + (1))))) rfl rfl rfl ?_)
              obtain ⟨h70, hst, hS⟩ := hS
              refine Run.go rfl rfl rfl (sem_store1 ⟨k39, 0, none⟩ ((Value.int .i64 (IntKind.wrap .i64 ((i69) + (1))))) h70 rfl rfl rfl TF.sz_3 hst ?_)
              refine Run.region_end ?_
              refine Run.seq ?_
              refine Run.ops0 (idx := [0, 1, 2]) rfl ?_
              obtain ⟨i71, hl, hS⟩ := hS
              refine Run.go rfl rfl rfl (sem_load1 ⟨k39, 0, none⟩ ((Value.int .i64 (i71))) rfl TF.agg_3 hl ?_)
              obtain ⟨i72, hl, hS⟩ := hS
              refine Run.go rfl rfl rfl (sem_load1 ⟨k12, 0, none⟩ ((Value.int .i64 (i72))) rfl TF.agg_3 hl ?_)
              obtain ⟨hT, hF⟩ := hS
              by_cases hb73 : (i71 : Int) = i72
              · have hS := hT hb73; clear hT hF
                refine Run.go rfl rfl rfl (sem_binI .i64 (i71) (i72) (.bool true) rfl rfl (binI_eql_t hb73) ?_)
                refine Run.region_end ?_
                refine Run.condT rfl ?_
                refine Run.out rfl (.inr ⟨_, rfl, ?_⟩)
                refine Run.exit rfl ?_
                exact Run.of_fin (hS.imp fun h' hS => j42 _ _ ⟨⟨rfl, rfl, rfl, rfl, trivial⟩, hS⟩)
              · have hS := hF hb73; clear hT hF
                refine Run.go rfl rfl rfl (sem_binI .i64 (i71) (i72) (.bool false) rfl rfl (binI_eql_f hb73) ?_)
                refine Run.region_end ?_
                refine Run.condF rfl ?_
                refine Run.skip ?_
                refine Run.inBlock ?_
                refine Run.of_fin (hS.imp fun h' hS => ?_)
                exact Run.fall (.inl ⟨rfl, hS⟩)
            · have hS := hT rfl; clear hT hF
              refine Run.condT rfl ?_
              refine Run.seq ?_
              refine Run.ops0 (idx := [0]) rfl ?_
              obtain ⟨h74, hst, hS⟩ := hS
              refine Run.go rfl rfl rfl (sem_store1 ⟨k14, 0, none⟩ ((Value.bool false)) h74 rfl rfl rfl TF.sz_4 hst ?_)
              refine Run.region_end ?_
              refine Run.ret (.inr ⟨_, rfl, ?_⟩)
              obtain ⟨b75, hl0, hS⟩ := hS
              refine Run.ret ⟨.inr rfl, ?_⟩
              exact ⟨⟨k14, 0, none⟩, (Value.bool b75), rfl, loadH1 TF.agg_4 hl0, hS.imp fun h' hq => ⟨(b75), rfl, hq⟩⟩
          skip
          skip
          obtain ⟨i78, hl, hS⟩ := hS
          have f79 := hl
          obtain ⟨hT, hF⟩ := hS
          by_cases hb80 : (i55 : Int) = i78
          · have hS := hT hb80; clear hT hF
            skip
            skip
            skip
            obtain ⟨hT, hF⟩ := hS
            by_cases hb84 : s56 = (ByteArray.mk #[111, 116, 104, 101, 114])
            · have hS := hT hb84; clear hT hF
              skip
              skip
              obtain ⟨p87, hl, hS⟩ := hS
              have f88 := hl
              skip
              skip
              obtain ⟨i91, hl, hS⟩ := hS
              have f92 := hl
              refine Run.draw (fun h' => cellH B h' ⟨k10, 0, none⟩ = some (Value.int .i64 (i78)) ∧ cellH B h' ⟨k28, 0, none⟩ = some (Value.pointer p87) ∧ cellH B h' ⟨k10, 2, none⟩ = some (Value.int .i64 (i91)) ∧ True) [] [.q 0, .q 1, .q 2, .q 3, .q 4, .q 5, .q 6, .q 7, .q 8, .q 9, .q 11, .q 12, .x 10, .q 13, .q 14, .q 15, .q 16, .q 17, .q 18, .x 19, .q 20, .q 21, .q 22, .q 23, .q 24, .q 25, .q 27, .q 29, .x 26, .x 28, .q 30, .q 31, .q 32, .q 33] TF.mixed (by kernel_rfl) ⟨f79, f88, f92, trivial⟩ ?_
              refine RunO.quiet rfl rfl rfl (fun h' hC => sem_move ((Value.int .i64 (i55))) rfl ⟨rfl, rfl⟩) ?_
              refine RunO.quiet rfl rfl rfl (fun h' hC => sem_fieldAddr ⟨k10, 0, none⟩ 0 rfl TF.fld_40_0 ⟨rfl, rfl⟩) ?_
              refine RunO.quiet rfl rfl rfl (fun h' hC => sem_load1 ⟨k10, 0, none⟩ ((Value.int .i64 (i78))) rfl TF.agg_3 hC.1 ⟨rfl, rfl⟩) ?_
              refine RunO.quiet rfl rfl rfl (fun h' hC => sem_binI .i64 (i55) (i78) (.bool true) rfl rfl (binI_eql_t hb80) ⟨rfl, rfl⟩) ?_
              refine RunO.quiet rfl rfl rfl (fun h' hC => sem_move ((Value.bool true)) rfl ⟨rfl, rfl⟩) ?_
              refine RunO.quiet rfl rfl rfl (fun h' hC => sem_move ((Value.string s56)) rfl ⟨rfl, rfl⟩) ?_
              refine RunO.quiet rfl rfl rfl (fun h' hC => sem_strNeT s56 (ByteArray.mk #[111, 116, 104, 101, 114]) rfl rfl hb84 ⟨rfl, rfl⟩) ?_
              refine RunO.quiet rfl rfl rfl (fun h' hC => sem_move ((Value.bool false)) rfl ⟨rfl, rfl⟩) ?_
              refine RunO.quiet rfl rfl rfl (fun h' hC => sem_load1 ⟨k28, 0, none⟩ ((Value.pointer p87)) rfl TF.agg_44 hC.2.1 ⟨rfl, rfl⟩) ?_
              refine RunO.quiet rfl rfl rfl (fun h' hC => sem_move ((Value.int .i64 (i55))) rfl ⟨rfl, rfl⟩) ?_
              refine RunO.quiet rfl rfl rfl (fun h' hC => sem_fieldAddr ⟨k10, 0, none⟩ 2 rfl TF.fld_40_2 ⟨rfl, rfl⟩) ?_
              refine RunO.quiet rfl rfl rfl (fun h' hC => sem_load1 ⟨k10, 2, none⟩ ((Value.int .i64 (i91))) rfl TF.agg_3 hC.2.2.1 ⟨rfl, rfl⟩) ?_
              refine OpH.go rfl rfl rfl (sem_callL [(Value.pointer p87), (Value.int .i64 (i55))] (TF.goes_28) rfl rfl (Spec.mono hS fun v h93 hv => ?_))
              obtain ⟨i94, rfl, hS⟩ := hv
              obtain ⟨g95, g96, g97, hS⟩ := hS
              refine ⟨fun _ => ⟨g95, g96, g97, trivial⟩, ?_⟩
              obtain ⟨hT, hF⟩ := hS
              by_cases hb98 : (i94 : Int) = i91
              · have hS := hT hb98; clear hT hF
                refine RunO.quiet rfl rfl rfl (fun h' hC => sem_binI .i64 (i94) (i91) (.bool false) rfl rfl (binI_neq_t hb98) ⟨rfl, rfl⟩) ?_
                refine RunO.quiet rfl rfl rfl (fun h' hC => sem_pick false ((Value.bool false)) rfl rfl ⟨rfl, rfl⟩) ?_
                refine RunO.quiet rfl rfl rfl (fun h' hC => sem_pick true ((Value.bool false)) rfl rfl ⟨rfl, rfl⟩) ?_
                refine RunO.quiet rfl rfl rfl (fun h' hC => sem_move ((Value.bool false)) rfl ⟨rfl, rfl⟩) ?_
                refine RunO.quiet rfl rfl rfl (fun h' hC => sem_move ((Value.int .i64 (i55))) rfl ⟨rfl, rfl⟩) ?_
                refine RunO.quiet rfl rfl rfl (fun h' hC => sem_fieldAddr ⟨k10, 0, none⟩ 0 rfl TF.fld_40_0 ⟨rfl, rfl⟩) ?_
                obtain ⟨i99, hl, hS⟩ := hS
                refine OpH.go rfl rfl rfl (sem_load1 ⟨k10, 0, none⟩ ((Value.int .i64 (i99))) rfl TF.agg_3 hl ?_)
                refine ⟨fun _ => ⟨g95, g96, g97, trivial⟩, ?_⟩
                obtain ⟨hT, hF⟩ := hS
                by_cases hb100 : (i55 : Int) = i99
                · have hS := hT hb100; clear hT hF
                  refine RunO.quiet rfl rfl rfl (fun h' hC => sem_binI .i64 (i55) (i99) (.bool false) rfl rfl (binI_neq_t hb100) ⟨rfl, rfl⟩) ?_
                  refine RunO.quiet rfl rfl rfl (fun h' hC => sem_move ((Value.bool false)) rfl ⟨rfl, rfl⟩) ?_
                  refine RunO.skip rfl rfl rfl ?_
                  refine RunO.skip rfl rfl rfl ?_
                  refine RunO.skip rfl rfl rfl ?_
                  refine RunO.skip rfl rfl rfl ?_
                  refine RunO.skip rfl rfl rfl ?_
                  refine RunO.skip rfl rfl rfl ?_
                  refine OpH.no rfl rfl rfl ⟨fun _ => ⟨g95, g96, g97, trivial⟩, ?_⟩
                  refine OpH.no rfl rfl rfl ⟨fun _ => ⟨g95, g96, g97, trivial⟩, ?_⟩
                  refine RunO.skip rfl rfl rfl ?_
                  refine RunO.skip rfl rfl rfl ?_
                  refine RunO.quiet rfl rfl rfl (fun h' hC => sem_pick false ((Value.bool false)) rfl rfl ⟨rfl, rfl⟩) ?_
                  refine RunO.quiet rfl rfl rfl (fun h' hC => sem_pick false ((Value.bool false)) rfl rfl ⟨rfl, rfl⟩) ?_
                  exact Run.of_fin (hS.imp fun h' hS => j66 _ _ ⟨(false), ⟨rfl, rfl, rfl, rfl, trivial⟩, hS⟩)
                · have hS := hF hb100; clear hT hF
                  refine RunO.quiet rfl rfl rfl (fun h' hC => sem_binI .i64 (i55) (i99) (.bool true) rfl rfl (binI_neq_f hb100) ⟨rfl, rfl⟩) ?_
                  refine RunO.quiet rfl rfl rfl (fun h' hC => sem_move ((Value.bool true)) rfl ⟨rfl, rfl⟩) ?_
                  refine RunO.quiet rfl rfl rfl (fun h' hC => sem_move ((Value.string s56)) rfl ⟨rfl, rfl⟩) ?_
                  refine RunO.quiet rfl rfl rfl (fun h' hC => sem_move ((Value.string s64)) rfl ⟨rfl, rfl⟩) ?_
                  obtain ⟨hT, hF⟩ := hS
                  by_cases hb101 : s56 = s64
                  · have hS := hT hb101; clear hT hF
                    refine RunO.quiet rfl rfl rfl (fun h' hC => sem_strNeT s56 s64 rfl rfl hb101 ⟨rfl, rfl⟩) ?_
                    refine RunO.quiet rfl rfl rfl (fun h' hC => sem_move ((Value.bool false)) rfl ⟨rfl, rfl⟩) ?_
                    refine RunO.quiet rfl rfl rfl (fun h' hC => sem_move ((Value.int .i64 (i55))) rfl ⟨rfl, rfl⟩) ?_
                    refine RunO.quiet rfl rfl rfl (fun h' hC => sem_move ((Value.int .i64 (i65))) rfl ⟨rfl, rfl⟩) ?_
                    obtain ⟨p102, hl, hS⟩ := hS
                    refine OpH.go rfl rfl rfl (sem_load1 ⟨k28, 0, none⟩ ((Value.pointer p102)) rfl TF.agg_44 hl ?_)
                    refine ⟨fun _ => ⟨g95, g96, g97, trivial⟩, ?_⟩
                    refine OpH.go rfl rfl rfl (sem_callL [(Value.pointer p102), (Value.int .i64 (i55))] (TF.goes_28) rfl rfl (Spec.mono hS fun v h103 hv => ?_))
                    obtain ⟨i104, rfl, hS⟩ := hv
                    obtain ⟨g105, g106, g107, hS⟩ := hS
                    refine ⟨fun _ => ⟨g105, g106, g107, trivial⟩, ?_⟩
                    obtain ⟨hT, hF⟩ := hS
                    by_cases hb108 : (i104 : Int) = i65
                    · have hS := hT hb108; clear hT hF
                      refine RunO.quiet rfl rfl rfl (fun h' hC => sem_binI .i64 (i104) (i65) (.bool false) rfl rfl (binI_neq_t hb108) ⟨rfl, rfl⟩) ?_
                      refine RunO.quiet rfl rfl rfl (fun h' hC => sem_pick false ((Value.bool false)) rfl rfl ⟨rfl, rfl⟩) ?_
                      refine RunO.quiet rfl rfl rfl (fun h' hC => sem_pick true ((Value.bool false)) rfl rfl ⟨rfl, rfl⟩) ?_
                      refine RunO.quiet rfl rfl rfl (fun h' hC => sem_pick false ((Value.bool false)) rfl rfl ⟨rfl, rfl⟩) ?_
                      exact Run.of_fin (hS.imp fun h' hS => j66 _ _ ⟨(false), ⟨rfl, rfl, rfl, rfl, trivial⟩, hS⟩)
                    · have hS := hF hb108; clear hT hF
                      refine RunO.quiet rfl rfl rfl (fun h' hC => sem_binI .i64 (i104) (i65) (.bool true) rfl rfl (binI_neq_f hb108) ⟨rfl, rfl⟩) ?_
                      refine RunO.quiet rfl rfl rfl (fun h' hC => sem_pick false ((Value.bool true)) rfl rfl ⟨rfl, rfl⟩) ?_
                      refine RunO.quiet rfl rfl rfl (fun h' hC => sem_pick true ((Value.bool true)) rfl rfl ⟨rfl, rfl⟩) ?_
                      refine RunO.quiet rfl rfl rfl (fun h' hC => sem_pick false ((Value.bool true)) rfl rfl ⟨rfl, rfl⟩) ?_
                      exact Run.of_fin (hS.imp fun h' hS => j66 _ _ ⟨(true), ⟨rfl, rfl, rfl, rfl, trivial⟩, hS⟩)
                  · have hS := hF hb101; clear hT hF
                    refine RunO.quiet rfl rfl rfl (fun h' hC => sem_strNeF s56 s64 rfl rfl hb101 ⟨rfl, rfl⟩) ?_
                    refine RunO.quiet rfl rfl rfl (fun h' hC => sem_move ((Value.bool true)) rfl ⟨rfl, rfl⟩) ?_
                    refine RunO.skip rfl rfl rfl ?_
                    refine RunO.skip rfl rfl rfl ?_
                    refine OpH.no rfl rfl rfl ⟨fun _ => ⟨g95, g96, g97, trivial⟩, ?_⟩
                    refine OpH.no rfl rfl rfl ⟨fun _ => ⟨g95, g96, g97, trivial⟩, ?_⟩
                    refine RunO.skip rfl rfl rfl ?_
                    refine RunO.quiet rfl rfl rfl (fun h' hC => sem_pick true ((Value.bool true)) rfl rfl ⟨rfl, rfl⟩) ?_
                    refine RunO.quiet rfl rfl rfl (fun h' hC => sem_pick true ((Value.bool true)) rfl rfl ⟨rfl, rfl⟩) ?_
                    refine RunO.quiet rfl rfl rfl (fun h' hC => sem_pick false ((Value.bool true)) rfl rfl ⟨rfl, rfl⟩) ?_
                    exact Run.of_fin (hS.imp fun h' hS => j66 _ _ ⟨(true), ⟨rfl, rfl, rfl, rfl, trivial⟩, hS⟩)
              · have hS := hF hb98; clear hT hF
                refine RunO.quiet rfl rfl rfl (fun h' hC => sem_binI .i64 (i94) (i91) (.bool true) rfl rfl (binI_neq_f hb98) ⟨rfl, rfl⟩) ?_
                refine RunO.quiet rfl rfl rfl (fun h' hC => sem_pick false ((Value.bool true)) rfl rfl ⟨rfl, rfl⟩) ?_
                refine RunO.quiet rfl rfl rfl (fun h' hC => sem_pick true ((Value.bool true)) rfl rfl ⟨rfl, rfl⟩) ?_
                refine RunO.quiet rfl rfl rfl (fun h' hC => sem_move ((Value.bool true)) rfl ⟨rfl, rfl⟩) ?_
                refine RunO.skip rfl rfl rfl ?_
                refine RunO.skip rfl rfl rfl ?_
                refine OpH.no rfl rfl rfl ⟨fun _ => ⟨g95, g96, g97, trivial⟩, ?_⟩
                refine RunO.skip rfl rfl rfl ?_
                refine RunO.skip rfl rfl rfl ?_
                refine RunO.skip rfl rfl rfl ?_
                refine RunO.skip rfl rfl rfl ?_
                refine RunO.skip rfl rfl rfl ?_
                refine RunO.skip rfl rfl rfl ?_
                refine RunO.skip rfl rfl rfl ?_
                refine RunO.skip rfl rfl rfl ?_
                refine OpH.no rfl rfl rfl ⟨fun _ => ⟨g95, g96, g97, trivial⟩, ?_⟩
                refine OpH.no rfl rfl rfl ⟨fun _ => ⟨g95, g96, g97, trivial⟩, ?_⟩
                refine RunO.skip rfl rfl rfl ?_
                refine RunO.skip rfl rfl rfl ?_
                refine RunO.skip rfl rfl rfl ?_
                refine RunO.quiet rfl rfl rfl (fun h' hC => sem_pick true ((Value.bool true)) rfl rfl ⟨rfl, rfl⟩) ?_
                exact Run.of_fin (hS.imp fun h' hS => j66 _ _ ⟨(true), ⟨rfl, rfl, rfl, rfl, trivial⟩, hS⟩)
            · have hS := hF hb84; clear hT hF
              skip
              skip
              refine Run.draw (fun h' => cellH B h' ⟨k10, 0, none⟩ = some (Value.int .i64 (i78)) ∧ True) [] [.q 0, .q 1, .q 2, .q 3, .q 4, .q 5, .q 6, .q 7, .q 8, .q 9, .q 11, .q 12, .x 10, .q 13, .q 14, .q 15, .q 16, .q 17, .q 18, .x 19, .q 20, .q 21, .q 22, .q 23, .q 24, .q 25, .q 27, .q 29, .x 26, .x 28, .q 30, .q 31, .q 32, .q 33] TF.mixed (by kernel_rfl) ⟨f79, trivial⟩ ?_
              refine RunO.quiet rfl rfl rfl (fun h' hC => sem_move ((Value.int .i64 (i55))) rfl ⟨rfl, rfl⟩) ?_
              refine RunO.quiet rfl rfl rfl (fun h' hC => sem_fieldAddr ⟨k10, 0, none⟩ 0 rfl TF.fld_40_0 ⟨rfl, rfl⟩) ?_
              refine RunO.quiet rfl rfl rfl (fun h' hC => sem_load1 ⟨k10, 0, none⟩ ((Value.int .i64 (i78))) rfl TF.agg_3 hC.1 ⟨rfl, rfl⟩) ?_
              refine RunO.quiet rfl rfl rfl (fun h' hC => sem_binI .i64 (i55) (i78) (.bool true) rfl rfl (binI_eql_t hb80) ⟨rfl, rfl⟩) ?_
              refine RunO.quiet rfl rfl rfl (fun h' hC => sem_move ((Value.bool true)) rfl ⟨rfl, rfl⟩) ?_
              refine RunO.quiet rfl rfl rfl (fun h' hC => sem_move ((Value.string s56)) rfl ⟨rfl, rfl⟩) ?_
              refine RunO.quiet rfl rfl rfl (fun h' hC => sem_strNeF s56 (ByteArray.mk #[111, 116, 104, 101, 114]) rfl rfl hb84 ⟨rfl, rfl⟩) ?_
              refine RunO.quiet rfl rfl rfl (fun h' hC => sem_move ((Value.bool true)) rfl ⟨rfl, rfl⟩) ?_
              refine RunO.skip rfl rfl rfl ?_
              refine RunO.skip rfl rfl rfl ?_
              refine RunO.skip rfl rfl rfl ?_
              refine RunO.skip rfl rfl rfl ?_
              refine OpH.no rfl rfl rfl ⟨fun _ => ⟨f79, trivial⟩, ?_⟩
              refine RunO.skip rfl rfl rfl ?_
              refine RunO.quiet rfl rfl rfl (fun h' hC => sem_pick true ((Value.bool true)) rfl rfl ⟨rfl, rfl⟩) ?_
              refine RunO.quiet rfl rfl rfl (fun h' hC => sem_pick true ((Value.bool true)) rfl rfl ⟨rfl, rfl⟩) ?_
              refine RunO.quiet rfl rfl rfl (fun h' hC => sem_move ((Value.bool true)) rfl ⟨rfl, rfl⟩) ?_
              refine RunO.skip rfl rfl rfl ?_
              refine RunO.skip rfl rfl rfl ?_
              refine OpH.no rfl rfl rfl ⟨fun _ => ⟨f79, trivial⟩, ?_⟩
              refine RunO.skip rfl rfl rfl ?_
              refine RunO.skip rfl rfl rfl ?_
              refine RunO.skip rfl rfl rfl ?_
              refine RunO.skip rfl rfl rfl ?_
              refine RunO.skip rfl rfl rfl ?_
              refine RunO.skip rfl rfl rfl ?_
              refine RunO.skip rfl rfl rfl ?_
              refine RunO.skip rfl rfl rfl ?_
              refine OpH.no rfl rfl rfl ⟨fun _ => ⟨f79, trivial⟩, ?_⟩
              refine OpH.no rfl rfl rfl ⟨fun _ => ⟨f79, trivial⟩, ?_⟩
              refine RunO.skip rfl rfl rfl ?_
              refine RunO.skip rfl rfl rfl ?_
              refine RunO.skip rfl rfl rfl ?_
              refine RunO.quiet rfl rfl rfl (fun h' hC => sem_pick true ((Value.bool true)) rfl rfl ⟨rfl, rfl⟩) ?_
              exact Run.of_fin (hS.imp fun h' hS => j66 _ _ ⟨(true), ⟨rfl, rfl, rfl, rfl, trivial⟩, hS⟩)
          · have hS := hF hb80; clear hT hF
            skip
            skip
            refine Run.draw (fun h' => cellH B h' ⟨k10, 0, none⟩ = some (Value.int .i64 (i78)) ∧ True) [] [.q 0, .q 1, .q 2, .q 3, .q 4, .q 5, .q 6, .q 7, .q 8, .q 9, .q 11, .q 12, .x 10, .q 13, .q 14, .q 15, .q 16, .q 17, .q 18, .x 19, .q 20, .q 21, .q 22, .q 23, .q 24, .q 25, .q 27, .q 29, .x 26, .x 28, .q 30, .q 31, .q 32, .q 33] TF.mixed (by kernel_rfl) ⟨f79, trivial⟩ ?_
            refine RunO.quiet rfl rfl rfl (fun h' hC => sem_move ((Value.int .i64 (i55))) rfl ⟨rfl, rfl⟩) ?_
            refine RunO.quiet rfl rfl rfl (fun h' hC => sem_fieldAddr ⟨k10, 0, none⟩ 0 rfl TF.fld_40_0 ⟨rfl, rfl⟩) ?_
            refine RunO.quiet rfl rfl rfl (fun h' hC => sem_load1 ⟨k10, 0, none⟩ ((Value.int .i64 (i78))) rfl TF.agg_3 hC.1 ⟨rfl, rfl⟩) ?_
            refine RunO.quiet rfl rfl rfl (fun h' hC => sem_binI .i64 (i55) (i78) (.bool false) rfl rfl (binI_eql_f hb80) ⟨rfl, rfl⟩) ?_
            refine RunO.quiet rfl rfl rfl (fun h' hC => sem_move ((Value.bool false)) rfl ⟨rfl, rfl⟩) ?_
            refine RunO.skip rfl rfl rfl ?_
            refine RunO.skip rfl rfl rfl ?_
            refine RunO.skip rfl rfl rfl ?_
            refine RunO.skip rfl rfl rfl ?_
            refine RunO.skip rfl rfl rfl ?_
            refine RunO.skip rfl rfl rfl ?_
            refine RunO.skip rfl rfl rfl ?_
            refine OpH.no rfl rfl rfl ⟨fun _ => ⟨f79, trivial⟩, ?_⟩
            refine RunO.skip rfl rfl rfl ?_
            refine RunO.skip rfl rfl rfl ?_
            refine RunO.quiet rfl rfl rfl (fun h' hC => sem_pick false ((Value.bool false)) rfl rfl ⟨rfl, rfl⟩) ?_
            refine RunO.quiet rfl rfl rfl (fun h' hC => sem_move ((Value.bool false)) rfl ⟨rfl, rfl⟩) ?_
            refine RunO.quiet rfl rfl rfl (fun h' hC => sem_move ((Value.int .i64 (i55))) rfl ⟨rfl, rfl⟩) ?_
            refine RunO.quiet rfl rfl rfl (fun h' hC => sem_fieldAddr ⟨k10, 0, none⟩ 0 rfl TF.fld_40_0 ⟨rfl, rfl⟩) ?_
            obtain ⟨i113, hl, hS⟩ := hS
            refine OpH.go rfl rfl rfl (sem_load1 ⟨k10, 0, none⟩ ((Value.int .i64 (i113))) rfl TF.agg_3 hl ?_)
            refine ⟨fun _ => ⟨f79, trivial⟩, ?_⟩
            obtain ⟨hT, hF⟩ := hS
            by_cases hb114 : (i55 : Int) = i113
            · have hS := hT hb114; clear hT hF
              refine RunO.quiet rfl rfl rfl (fun h' hC => sem_binI .i64 (i55) (i113) (.bool false) rfl rfl (binI_neq_t hb114) ⟨rfl, rfl⟩) ?_
              refine RunO.quiet rfl rfl rfl (fun h' hC => sem_move ((Value.bool false)) rfl ⟨rfl, rfl⟩) ?_
              refine RunO.skip rfl rfl rfl ?_
              refine RunO.skip rfl rfl rfl ?_
              refine RunO.skip rfl rfl rfl ?_
              refine RunO.skip rfl rfl rfl ?_
              refine RunO.skip rfl rfl rfl ?_
              refine RunO.skip rfl rfl rfl ?_
              refine OpH.no rfl rfl rfl ⟨fun _ => ⟨f79, trivial⟩, ?_⟩
              refine OpH.no rfl rfl rfl ⟨fun _ => ⟨f79, trivial⟩, ?_⟩
              refine RunO.skip rfl rfl rfl ?_
              refine RunO.skip rfl rfl rfl ?_
              refine RunO.quiet rfl rfl rfl (fun h' hC => sem_pick false ((Value.bool false)) rfl rfl ⟨rfl, rfl⟩) ?_
              refine RunO.quiet rfl rfl rfl (fun h' hC => sem_pick false ((Value.bool false)) rfl rfl ⟨rfl, rfl⟩) ?_
              exact Run.of_fin (hS.imp fun h' hS => j66 _ _ ⟨(false), ⟨rfl, rfl, rfl, rfl, trivial⟩, hS⟩)
            · have hS := hF hb114; clear hT hF
              refine RunO.quiet rfl rfl rfl (fun h' hC => sem_binI .i64 (i55) (i113) (.bool true) rfl rfl (binI_neq_f hb114) ⟨rfl, rfl⟩) ?_
              refine RunO.quiet rfl rfl rfl (fun h' hC => sem_move ((Value.bool true)) rfl ⟨rfl, rfl⟩) ?_
              refine RunO.quiet rfl rfl rfl (fun h' hC => sem_move ((Value.string s56)) rfl ⟨rfl, rfl⟩) ?_
              refine RunO.quiet rfl rfl rfl (fun h' hC => sem_move ((Value.string s64)) rfl ⟨rfl, rfl⟩) ?_
              obtain ⟨hT, hF⟩ := hS
              by_cases hb115 : s56 = s64
              · have hS := hT hb115; clear hT hF
                refine RunO.quiet rfl rfl rfl (fun h' hC => sem_strNeT s56 s64 rfl rfl hb115 ⟨rfl, rfl⟩) ?_
                refine RunO.quiet rfl rfl rfl (fun h' hC => sem_move ((Value.bool false)) rfl ⟨rfl, rfl⟩) ?_
                refine RunO.quiet rfl rfl rfl (fun h' hC => sem_move ((Value.int .i64 (i55))) rfl ⟨rfl, rfl⟩) ?_
                refine RunO.quiet rfl rfl rfl (fun h' hC => sem_move ((Value.int .i64 (i65))) rfl ⟨rfl, rfl⟩) ?_
                obtain ⟨p116, hl, hS⟩ := hS
                refine OpH.go rfl rfl rfl (sem_load1 ⟨k28, 0, none⟩ ((Value.pointer p116)) rfl TF.agg_44 hl ?_)
                refine ⟨fun _ => ⟨f79, trivial⟩, ?_⟩
                refine OpH.go rfl rfl rfl (sem_callL [(Value.pointer p116), (Value.int .i64 (i55))] (TF.goes_28) rfl rfl (Spec.mono hS fun v h117 hv => ?_))
                obtain ⟨i118, rfl, hS⟩ := hv
                obtain ⟨g119, hS⟩ := hS
                refine ⟨fun _ => ⟨g119, trivial⟩, ?_⟩
                obtain ⟨hT, hF⟩ := hS
                by_cases hb120 : (i118 : Int) = i65
                · have hS := hT hb120; clear hT hF
                  refine RunO.quiet rfl rfl rfl (fun h' hC => sem_binI .i64 (i118) (i65) (.bool false) rfl rfl (binI_neq_t hb120) ⟨rfl, rfl⟩) ?_
                  refine RunO.quiet rfl rfl rfl (fun h' hC => sem_pick false ((Value.bool false)) rfl rfl ⟨rfl, rfl⟩) ?_
                  refine RunO.quiet rfl rfl rfl (fun h' hC => sem_pick true ((Value.bool false)) rfl rfl ⟨rfl, rfl⟩) ?_
                  refine RunO.quiet rfl rfl rfl (fun h' hC => sem_pick false ((Value.bool false)) rfl rfl ⟨rfl, rfl⟩) ?_
                  exact Run.of_fin (hS.imp fun h' hS => j66 _ _ ⟨(false), ⟨rfl, rfl, rfl, rfl, trivial⟩, hS⟩)
                · have hS := hF hb120; clear hT hF
                  refine RunO.quiet rfl rfl rfl (fun h' hC => sem_binI .i64 (i118) (i65) (.bool true) rfl rfl (binI_neq_f hb120) ⟨rfl, rfl⟩) ?_
                  refine RunO.quiet rfl rfl rfl (fun h' hC => sem_pick false ((Value.bool true)) rfl rfl ⟨rfl, rfl⟩) ?_
                  refine RunO.quiet rfl rfl rfl (fun h' hC => sem_pick true ((Value.bool true)) rfl rfl ⟨rfl, rfl⟩) ?_
                  refine RunO.quiet rfl rfl rfl (fun h' hC => sem_pick false ((Value.bool true)) rfl rfl ⟨rfl, rfl⟩) ?_
                  exact Run.of_fin (hS.imp fun h' hS => j66 _ _ ⟨(true), ⟨rfl, rfl, rfl, rfl, trivial⟩, hS⟩)
              · have hS := hF hb115; clear hT hF
                refine RunO.quiet rfl rfl rfl (fun h' hC => sem_strNeF s56 s64 rfl rfl hb115 ⟨rfl, rfl⟩) ?_
                refine RunO.quiet rfl rfl rfl (fun h' hC => sem_move ((Value.bool true)) rfl ⟨rfl, rfl⟩) ?_
                refine RunO.skip rfl rfl rfl ?_
                refine RunO.skip rfl rfl rfl ?_
                refine OpH.no rfl rfl rfl ⟨fun _ => ⟨f79, trivial⟩, ?_⟩
                refine OpH.no rfl rfl rfl ⟨fun _ => ⟨f79, trivial⟩, ?_⟩
                refine RunO.skip rfl rfl rfl ?_
                refine RunO.quiet rfl rfl rfl (fun h' hC => sem_pick true ((Value.bool true)) rfl rfl ⟨rfl, rfl⟩) ?_
                refine RunO.quiet rfl rfl rfl (fun h' hC => sem_pick true ((Value.bool true)) rfl rfl ⟨rfl, rfl⟩) ?_
                refine RunO.quiet rfl rfl rfl (fun h' hC => sem_pick false ((Value.bool true)) rfl rfl ⟨rfl, rfl⟩) ?_
                exact Run.of_fin (hS.imp fun h' hS => j66 _ _ ⟨(true), ⟨rfl, rfl, rfl, rfl, trivial⟩, hS⟩)
        · intro h58 hJ
          have hS := hR h58 (by simpa using hJ); clear hJ hR
          refine Run.inBlock ?_
          exact Run.of_fin (hS.imp fun h' hS => j42 _ _ ⟨⟨rfl, rfl, rfl, rfl, trivial⟩, hS⟩)
      refine Run.seq ?_
      refine Run.ops0 (idx := [0, 1, 2]) rfl ?_
      refine Run.go rfl rfl rfl (sem_move ((Value.slice a2 n3 c4)) rfl ?_)
      refine Run.go rfl rfl rfl (sem_lenSl a2 n3 c4 rfl TF.sl_35 ?_)
      refine Run.go rfl rfl rfl (sem_move ((Value.int .i64 (0))) rfl ?_)
      refine Run.region_end ?_
      refine Run.block ?_
      obtain ⟨J126, m124, h0, hS⟩ := hS
      refine Run.of_fin (h0.imp fun h' h0 => ?_)
      refine Run.loop (σ := Int × Nat) (fun x e h => J126 x.1 x.2 h ∧ Agree [(0, (Value.int .i64 (i1))), (6, (Value.pointer (some ⟨k10, 0, none⟩))), (7, (Value.pointer (some ⟨k12, 0, none⟩))), (8, (Value.pointer (some ⟨k14, 0, none⟩))), (9, (Value.pointer (some ⟨k26, 0, none⟩))), (10, (Value.pointer (some ⟨k28, 0, none⟩))), (31, (Value.slice a2 n3 c4)), (32, (Value.int .i64 ((n3 : Nat)))), (33, (Value.int .i64 (x.1)))] e) (fun x => x.2) ((0), m124) ⟨h0, ⟨rfl, rfl, rfl, rfl, rfl, rfl, rfl, rfl, rfl, trivial⟩⟩ ?_; clear h0
      rintro ⟨i121, m123⟩ e h122 ⟨hJ, hag⟩ ih125
      have hS := hS i121 m123 h122 hJ; clear hJ
      refine Run.env hag ?_; clear hag
      refine Run.seq ?_
      refine Run.ops0 (idx := [0]) rfl ?_
      obtain ⟨hT, hF⟩ := hS
      by_cases hb127 : (i121 : Int) < ((n3 : Nat))
      · have hS := hT hb127; clear hT hF
        refine Run.go rfl rfl rfl (sem_binI .i64 (i121) ((n3 : Nat)) (.bool true) rfl rfl (binI_lss_t hb127) ?_)
        refine Run.region_end ?_
        refine Run.seq ?_
        refine Run.condT rfl ?_
        refine Run.skip ?_
        refine Run.seq ?_
        refine Run.block ?_
        refine Run.seq ?_
        refine Run.ops0 (idx := [0, 1, 2, 3]) rfl ?_
        obtain ⟨A128, e129, hi0, hi1, hS⟩ := hS
        refine Run.go rfl rfl rfl (sem_indexAddrS A128 n3 c4 .i64 (i121) (congrArg (fun a => Value.slice a n3 c4) e129) rfl TF.slc_35 hi0 hi1 ?_)
        obtain ⟨i130, i131, i132, hl, hS⟩ := hS
        refine Run.go rfl rfl rfl (sem_loadN (Addr.add A128 (Int.toNat (i121) * 3)) [(Value.int .i64 (i130)), (Value.int .i64 (i131)), (Value.int .i64 (i132))] rfl TF.agg_40 TF.sz_40 hl ?_)
        refine Run.go rfl rfl rfl (sem_allocN [(Value.int .i64 (0)), (Value.int .i64 (0)), (Value.int .i64 (0))] TF.zero_40 (fun k133 hb1 hb2 h134 hb3 => ?_))
        have hS := hS k133 hb1 hb2 h134 hb3
        obtain ⟨h135, hst, hS⟩ := hS
        refine Run.go rfl rfl rfl (sem_storeN ⟨k133, 0, none⟩ [(Value.int .i64 (i130)), (Value.int .i64 (i131)), (Value.int .i64 (i132))] h135 rfl rfl TF.sz_40 hst ?_)
        refine Run.region_end ?_
        refine Run.seq ?_
        refine Run.ops0 (idx := [0, 1, 2, 3, 4, 5, 6, 7, 8, 9, 10, 11]) rfl ?_
        obtain ⟨p136, hl, hS⟩ := hS
        refine Run.go rfl rfl rfl (sem_load1 ⟨k26, 0, none⟩ ((Value.pointer p136)) rfl TF.agg_44 hl ?_)
        refine Run.go rfl rfl rfl (sem_fieldAddr ⟨k133, 0, none⟩ 0 rfl TF.fld_40_0 ?_)
        obtain ⟨i137, hl, hS⟩ := hS
        refine Run.go rfl rfl rfl (sem_load1 ⟨k133, 0, none⟩ ((Value.int .i64 (i137))) rfl TF.agg_3 hl ?_)
        refine Run.go rfl rfl rfl (sem_fieldAddr ⟨k133, 0, none⟩ 1 rfl TF.fld_40_1 ?_)
        obtain ⟨i138, hl, hS⟩ := hS
        refine Run.go rfl rfl rfl (sem_load1 ⟨k133, 1, none⟩ ((Value.int .i64 (i138))) rfl TF.agg_3 hl ?_)
        refine Run.go rfl rfl rfl (sem_binI .i64 (i138) (15) ((Value.int .i64 (IntKind.wrap .i64 ((BitVec.ofInt (IntKind.bits .i64) (i138) &&& BitVec.ofInt (IntKind.bits .i64) (15)).toNat : Int)))) rfl rfl rfl ?_)
        refine Run.go rfl rfl rfl (sem_binI .i64 (97) (IntKind.wrap .i64 ((BitVec.ofInt (IntKind.bits .i64) (i138) &&& BitVec.ofInt (IntKind.bits .i64) (15)).toNat : Int)) ((Value.int .i64 (IntKind.wrap .i64 ((97) + (IntKind.wrap .i64 ((BitVec.ofInt (IntKind.bits .i64) (i138) &&& BitVec.ofInt (IntKind.bits .i64) (15)).toNat : Int)))))) rfl rfl rfl ?_)
        refine Run.go rfl rfl rfl (sem_convI .i64 .i32 (IntKind.wrap .i64 ((97) + (IntKind.wrap .i64 ((BitVec.ofInt (IntKind.bits .i64) (i138) &&& BitVec.ofInt (IntKind.bits .i64) (15)).toNat : Int)))) rfl TF.int_3 TF.int_21 ?_)
        refine Run.go rfl rfl rfl (sem_convIS .i32 (IntKind.wrap .i32 (IntKind.wrap .i64 ((97) + (IntKind.wrap .i64 ((BitVec.ofInt (IntKind.bits .i64) (i138) &&& BitVec.ofInt (IntKind.bits .i64) (15)).toNat : Int))))) rfl TF.int_21 TF.isStr_9 ?_)
        refine Run.go rfl rfl rfl (sem_fieldAddr ⟨k133, 0, none⟩ 2 rfl TF.fld_40_2 ?_)
        obtain ⟨i139, hl, hS⟩ := hS
        refine Run.go rfl rfl rfl (sem_load1 ⟨k133, 2, none⟩ ((Value.int .i64 (i139))) rfl TF.agg_3 hl ?_)
        refine Run.go rfl rfl rfl (sem_callL [(Value.pointer p136), (Value.int .i64 (i137)), (Value.string (Utf8.encode (IntKind.wrap .i32 (IntKind.wrap .i64 ((97) + (IntKind.wrap .i64 ((BitVec.ofInt (IntKind.bits .i64) (i138) &&& BitVec.ofInt (IntKind.bits .i64) (15)).toNat : Int))))))), (Value.int .i64 (i139))] (TF.goes_25) rfl rfl (Spec.mono hS fun v h140 hv => ?_))
        obtain ⟨b141, rfl, hS⟩ := hv
        refine Run.region_end ?_
        refine Run.ops0 (idx := [0, 1, 2, 3, 4, 5, 6, 7, 8, 9, 10, 11]) rfl ?_
        obtain ⟨p142, hl, hS⟩ := hS
        refine Run.go rfl rfl rfl (sem_load1 ⟨k28, 0, none⟩ ((Value.pointer p142)) rfl TF.agg_44 hl ?_)
        refine Run.go rfl rfl rfl (sem_fieldAddr ⟨k133, 0, none⟩ 0 rfl TF.fld_40_0 ?_)
        obtain ⟨i143, hl, hS⟩ := hS
        refine Run.go rfl rfl rfl (sem_load1 ⟨k133, 0, none⟩ ((Value.int .i64 (i143))) rfl TF.agg_3 hl ?_)
        refine Run.go rfl rfl rfl (sem_fieldAddr ⟨k133, 0, none⟩ 1 rfl TF.fld_40_1 ?_)
        obtain ⟨i144, hl, hS⟩ := hS
        refine Run.go rfl rfl rfl (sem_load1 ⟨k133, 1, none⟩ ((Value.int .i64 (i144))) rfl TF.agg_3 hl ?_)
        refine Run.go rfl rfl rfl (sem_binI .i64 (i144) (15) ((Value.int .i64 (IntKind.wrap .i64 ((BitVec.ofInt (IntKind.bits .i64) (i144) &&& BitVec.ofInt (IntKind.bits .i64) (15)).toNat : Int)))) rfl rfl rfl ?_)
        refine Run.go rfl rfl rfl (sem_binI .i64 (97) (IntKind.wrap .i64 ((BitVec.ofInt (IntKind.bits .i64) (i144) &&& BitVec.ofInt (IntKind.bits .i64) (15)).toNat : Int)) ((Value.int .i64 (IntKind.wrap .i64 ((97) + (IntKind.wrap .i64 ((BitVec.ofInt (IntKind.bits .i64) (i144) &&& BitVec.ofInt (IntKind.bits .i64) (15)).toNat : Int)))))) rfl rfl rfl ?_)
        refine Run.go rfl rfl rfl (sem_convI .i64 .i32 (IntKind.wrap .i64 ((97) + (IntKind.wrap .i64 ((BitVec.ofInt (IntKind.bits .i64) (i144) &&& BitVec.ofInt (IntKind.bits .i64) (15)).toNat : Int)))) rfl TF.int_3 TF.int_21 ?_)
        refine Run.go rfl rfl rfl (sem_convIS .i32 (IntKind.wrap .i32 (IntKind.wrap .i64 ((97) + (IntKind.wrap .i64 ((BitVec.ofInt (IntKind.bits .i64) (i144) &&& BitVec.ofInt (IntKind.bits .i64) (15)).toNat : Int))))) rfl TF.int_21 TF.isStr_9 ?_)
        refine Run.go rfl rfl rfl (sem_fieldAddr ⟨k133, 0, none⟩ 2 rfl TF.fld_40_2 ?_)
        obtain ⟨i145, hl, hS⟩ := hS
        refine Run.go rfl rfl rfl (sem_load1 ⟨k133, 2, none⟩ ((Value.int .i64 (i145))) rfl TF.agg_3 hl ?_)
        refine Run.go rfl rfl rfl (sem_callL [(Value.pointer p142), (Value.int .i64 (i143)), (Value.string (Utf8.encode (IntKind.wrap .i32 (IntKind.wrap .i64 ((97) + (IntKind.wrap .i64 ((BitVec.ofInt (IntKind.bits .i64) (i144) &&& BitVec.ofInt (IntKind.bits .i64) (15)).toNat : Int))))))), (Value.int .i64 (i145))] (TF.goes_25) rfl rfl (Spec.mono hS fun v h146 hv => ?_))
        obtain ⟨b147, rfl, hS⟩ := hv
        refine Run.region_end ?_
        refine Run.inBlock ?_
        refine Run.ops0 (idx := [0, 1]) rfl ?_
        refine Run.go rfl rfl rfl (sem_binI .i64 (i121) (1) ((Value.int .i64 (IntKind.wrap .i64 ((i121) + (1))))) rfl rfl rfl ?_)
        refine Run.go rfl rfl rfl (sem_move ((Value.int .i64 (IntKind.wrap .i64 ((i121) + (1))))) rfl ?_)
        refine Run.region_end ?_
        exact Run.of_fin (hS.imp fun h' ⟨m', hm, hS⟩ => ih125 ((IntKind.wrap .i64 ((i121) + (1))), m') _ _ ⟨hS, ⟨rfl, rfl, rfl, rfl, rfl, rfl, rfl, rfl, rfl, trivial⟩⟩ hm)
      · have hS := hF hb127; clear hT hF
        refine Run.go rfl rfl rfl (sem_binI .i64 (i121) ((n3 : Nat)) (.bool false) rfl rfl (binI_lss_f hb127) ?_)
        refine Run.region_end ?_
        refine Run.seq ?_
        refine Run.condF rfl ?_
        refine Run.exit rfl ?_
        exact Run.of_fin (hS.imp fun h' hS => j32 _ _ ⟨⟨rfl, rfl, rfl, rfl, rfl, rfl, trivial⟩, hS⟩)
    refine Run.seq ?_
    refine Run.ops0 (idx := [0, 1, 2, 3, 4, 5, 6]) rfl ?_
    refine Run.go rfl rfl rfl (sem_move ((Value.int .i64 (i1))) rfl ?_)
    obtain ⟨hT, hF⟩ := hS
    by_cases hb148 : (i1 : Int) > (64)
    · have hS := hT hb148; clear hT hF
      refine Run.go rfl rfl rfl (sem_binI .i64 (i1) (64) (.bool true) rfl rfl (binI_gtr_t hb148) ?_)
      refine Run.go rfl rfl rfl (sem_move ((Value.bool true)) rfl ?_)
      refine Run.no rfl rfl rfl ?_
      refine Run.no rfl rfl rfl ?_
      refine Run.no rfl rfl rfl ?_
      refine Run.go rfl rfl rfl (sem_pick true ((Value.bool true)) rfl rfl ?_)
      refine Run.region_end ?_
      refine Run.condT rfl ?_
      refine Run.seq ?_
      refine Run.ops0 (idx := [0]) rfl ?_
      obtain ⟨h149, hst, hS⟩ := hS
      refine Run.go rfl rfl rfl (sem_store1 ⟨k14, 0, none⟩ ((Value.bool true)) h149 rfl rfl rfl TF.sz_4 hst ?_)
      refine Run.region_end ?_
      obtain ⟨b150, hl0, hS⟩ := hS
      refine Run.ret ⟨.inr rfl, ?_⟩
      exact ⟨⟨k14, 0, none⟩, (Value.bool b150), rfl, loadH1 TF.agg_4 hl0, hS.imp fun h' hq => ⟨(b150), rfl, hq⟩⟩
    · have hS := hF hb148; clear hT hF
      refine Run.go rfl rfl rfl (sem_binI .i64 (i1) (64) (.bool false) rfl rfl (binI_gtr_f hb148) ?_)
      refine Run.go rfl rfl rfl (sem_move ((Value.bool false)) rfl ?_)
      refine Run.go rfl rfl rfl (sem_move ((Value.slice a2 n3 c4)) rfl ?_)
      refine Run.go rfl rfl rfl (sem_lenSl a2 n3 c4 rfl TF.sl_35 ?_)
      obtain ⟨hT, hF⟩ := hS
      by_cases hb151 : ((n3 : Nat) : Int) > (100)
      · have hS := hT hb151; clear hT hF
        refine Run.go rfl rfl rfl (sem_binI .i64 ((n3 : Nat)) (100) (.bool true) rfl rfl (binI_gtr_t hb151) ?_)
        refine Run.go rfl rfl rfl (sem_pick false ((Value.bool true)) rfl rfl ?_)
        refine Run.region_end ?_
        refine Run.condT rfl ?_
        refine Run.seq ?_
        refine Run.ops0 (idx := [0]) rfl ?_
        obtain ⟨h152, hst, hS⟩ := hS
        refine Run.go rfl rfl rfl (sem_store1 ⟨k14, 0, none⟩ ((Value.bool true)) h152 rfl rfl rfl TF.sz_4 hst ?_)
        refine Run.region_end ?_
        obtain ⟨b153, hl0, hS⟩ := hS
        refine Run.ret ⟨.inr rfl, ?_⟩
        exact ⟨⟨k14, 0, none⟩, (Value.bool b153), rfl, loadH1 TF.agg_4 hl0, hS.imp fun h' hq => ⟨(b153), rfl, hq⟩⟩
      · have hS := hF hb151; clear hT hF
        refine Run.go rfl rfl rfl (sem_binI .i64 ((n3 : Nat)) (100) (.bool false) rfl rfl (binI_gtr_f hb151) ?_)
        refine Run.go rfl rfl rfl (sem_pick false ((Value.bool false)) rfl rfl ?_)
        refine Run.region_end ?_
        refine Run.condF rfl ?_
        refine Run.skip ?_
        exact Run.of_fin (hS.imp fun h' hS => j20 _ _ ⟨⟨rfl, rfl, rfl, rfl, rfl, trivial⟩, hS⟩)
set_option maxHeartbeats 4000000 in
theorem C_countermandlaw08_CellSets.of {B : RO} {i1 : Int} {i2 : Int} {a3 : Option Addr} {n4 : Nat} {c5 : Nat} {i6 : Int} {h : Heap} {Q : Bool → Heap → Prop} (hS : S_countermandlaw08_CellSets B i1 i2 a3 n4 c5 i6 h Q) : C_countermandlaw08_CellSets B i1 i2 a3 n4 c5 i6 h Q := by
  unfold S_countermandlaw08_CellSets at hS
  unfold C_countermandlaw08_CellSets
  refine Spec.of_run Try.func8 (N := 181) (rs := [ResultVar.cell 8 4]) rfl rfl rfl (Nat.le_of_ble_eq_true rfl) ?_
  refine Run.seq ?_
  refine Run.ops0 (idx := [0]) rfl ?_
  refine Run.go rfl rfl rfl (sem_allocN [(Value.bool false)] TF.zero_4 (fun k8 hb1 hb2 h9 hb3 => ?_))
  have hS := hS k8 hb1 hb2 h9 hb3
  refine Run.region_end ?_
  refine Run.seq ?_
  refine Run.seq ?_
  refine Run.ops0 (idx := [0, 1]) rfl ?_
  refine Run.go rfl rfl rfl (sem_callL [] (TF.goes_20) rfl rfl (Spec.mono hS fun v h10 hv => ?_))
  obtain ⟨b11, rfl, hS⟩ := hv
  obtain ⟨hT, hF⟩ := hS
  cases b11
  · have hS := hF rfl; clear hT hF
    refine Run.go rfl rfl rfl (sem_not false rfl ?_)
    refine Run.region_end ?_
    refine Run.condT rfl ?_
    refine Run.seq ?_
    refine Run.ops0 (idx := [0]) rfl ?_
    obtain ⟨h12, hst, hS⟩ := hS
    refine Run.go rfl rfl rfl (sem_store1 ⟨k8, 0, none⟩ ((Value.bool false)) h12 rfl rfl rfl TF.sz_4 hst ?_)
    refine Run.region_end ?_
    obtain ⟨b13, hl0, hS⟩ := hS
    refine Run.ret ⟨.inr rfl, ?_⟩
    exact ⟨⟨k8, 0, none⟩, (Value.bool b13), rfl, loadH1 TF.agg_4 hl0, hS.imp fun h' hq => ⟨(b13), rfl, hq⟩⟩
  · have hS := hT rfl; clear hT hF
    refine Run.go rfl rfl rfl (sem_not true rfl ?_)
    refine Run.region_end ?_
    refine Run.condF rfl ?_
    refine Run.skip ?_
    refine Run.seqJ (fun e h15 => Agree [(0, (Value.int .i64 (i1))), (1, (Value.int .i64 (i2))), (2, (Value.slice a3 n4 c5)), (3, (Value.int .i64 (i6))), (8, (Value.pointer (some ⟨k8, 0, none⟩)))] e ∧ S_countermandlaw08_CellSets_J1 B i1 i2 a3 n4 c5 i6 k8 h15 Q) ?_ fun j14 => ?_
    · rintro e h15 ⟨hag, hS⟩
      refine Run.env hag ?_; clear hag
      refine Run.seq ?_
      refine Run.ops0 (idx := [0, 1, 2, 3, 4, 5, 6, 7, 8, 9, 10, 11]) rfl ?_
      refine Run.go rfl rfl rfl (sem_move ((Value.int .i64 (i1))) rfl ?_)
      refine Run.go rfl rfl rfl (sem_move ((Value.int .i64 (i2))) rfl ?_)
      refine Run.go rfl rfl rfl (sem_callL [(Value.int .i64 (i1)), (Value.int .i64 (i2))] (TF.goes_21) rfl rfl (Spec.mono hS fun v h16 hv => ?_))
      obtain ⟨p17, rfl, hS⟩ := hv
      refine Run.go rfl rfl rfl (sem_move ((Value.int .i64 (i1))) rfl ?_)
      refine Run.go rfl rfl rfl (sem_max .i64 (i1) (0) rfl rfl ?_)
      refine Run.go rfl rfl rfl (sem_move ((Value.int .i64 (i2))) rfl ?_)
      refine Run.go rfl rfl rfl (sem_buildSL [(0, (Value.int .i64 (if (0 : Int) > (i1) then (0 : Int) else (i1)))), (1, (Value.int .i64 (i2)))] [(Value.int .i64 (if (0 : Int) > (i1) then (0 : Int) else (i1))), (Value.int .i64 (i2)), (Value.slice none 0 0)] TF.zero_56 TF.places_56 rfl rfl ?_)
      refine Run.go rfl rfl rfl (sem_boxNN [(Value.int .i64 (if (0 : Int) > (i1) then (0 : Int) else (i1))), (Value.int .i64 (i2)), (Value.slice none 0 0)] rfl (fun k18 hb1 hb2 h19 hb3 => ?_))
      have hS := hS k18 hb1 hb2 h19 hb3
      refine Run.go rfl rfl rfl (sem_allocN [(Value.pointer none)] TF.zero_36 (fun k20 hb1 hb2 h21 hb3 => ?_))
      have hS := hS k20 hb1 hb2 h21 hb3
      refine Run.go rfl rfl rfl (sem_allocN [(Value.pointer none)] TF.zero_54 (fun k22 hb1 hb2 h23 hb3 => ?_))
      have hS := hS k22 hb1 hb2 h23 hb3
      obtain ⟨h24, hst, hS⟩ := hS
      refine Run.go rfl rfl rfl (sem_store1 ⟨k20, 0, none⟩ ((Value.pointer p17)) h24 rfl rfl rfl TF.sz_36 hst ?_)
      obtain ⟨h25, hst, hS⟩ := hS
      refine Run.go rfl rfl rfl (sem_store1 ⟨k22, 0, none⟩ ((Value.pointer (some ⟨k18, 0, none⟩))) h25 rfl rfl rfl TF.sz_54 hst ?_)
      refine Run.region_end ?_
      refine Run.seqJ (fun e h27 => Agree [(3, (Value.int .i64 (i6))), (8, (Value.pointer (some ⟨k8, 0, none⟩))), (9, (Value.pointer (some ⟨k20, 0, none⟩))), (10, (Value.pointer (some ⟨k22, 0, none⟩)))] e ∧ S_countermandlaw08_CellSets_J2 B i6 k8 k20 k22 h27 Q) ?_ fun j26 => ?_
      · rintro e h27 ⟨hag, hS⟩
        refine Run.env hag ?_; clear hag
        refine Run.seq ?_
        refine Run.ops0 (idx := [0, 1, 2, 3, 4, 5, 6, 7]) rfl ?_
        obtain ⟨p28, hl, hS⟩ := hS
        refine Run.go rfl rfl rfl (sem_load1 ⟨k20, 0, none⟩ ((Value.pointer p28)) rfl TF.agg_36 hl ?_)
        refine Run.go rfl rfl rfl (sem_move ((Value.int .i64 (i6))) rfl ?_)
        refine Run.go rfl rfl rfl (sem_callL [(Value.pointer p28), (Value.int .i64 (i6))] (TF.goes_30) rfl rfl (Spec.mono hS fun v h29 hv => ?_))
        obtain ⟨i30, i31, rfl, hS⟩ := hv
        refine Run.go rfl rfl rfl (sem_move ((Value.tuple #[(Value.int .i64 (i30)), (Value.int .i64 (i31))])) rfl ?_)
        refine Run.go rfl rfl rfl (sem_extract #[(Value.int .i64 (i30)), (Value.int .i64 (i31))] ((Value.int .i64 (i30))) rfl rfl ?_)
        refine Run.go rfl rfl rfl (sem_extract #[(Value.int .i64 (i30)), (Value.int .i64 (i31))] ((Value.int .i64 (i31))) rfl rfl ?_)
        refine Run.go rfl rfl rfl (sem_assign ((Value.int .i64 (i30))) rfl ?_)
        refine Run.go rfl rfl rfl (sem_assign ((Value.int .i64 (i31))) rfl ?_)
        refine Run.region_end ?_
        refine Run.seq ?_
        refine Run.ops0 (idx := [0, 1, 2, 3, 4, 5, 6, 7]) rfl ?_
        obtain ⟨p32, hl, hS⟩ := hS
        refine Run.go rfl rfl rfl (sem_load1 ⟨k22, 0, none⟩ ((Value.pointer p32)) rfl TF.agg_54 hl ?_)
        refine Run.go rfl rfl rfl (sem_move ((Value.int .i64 (i6))) rfl ?_)
        refine Run.go rfl rfl rfl (sem_callL [(Value.pointer p32), (Value.int .i64 (i6))] (TF.goes_31) rfl rfl (Spec.mono hS fun v h33 hv => ?_))
        obtain ⟨i34, i35, rfl, hS⟩ := hv
        refine Run.go rfl rfl rfl (sem_move ((Value.tuple #[(Value.int .i64 (i34)), (Value.int .i64 (i35))])) rfl ?_)
        refine Run.go rfl rfl rfl (sem_extract #[(Value.int .i64 (i34)), (Value.int .i64 (i35))] ((Value.int .i64 (i34))) rfl rfl ?_)
        refine Run.go rfl rfl rfl (sem_extract #[(Value.int .i64 (i34)), (Value.int .i64 (i35))] ((Value.int .i64 (i35))) rfl rfl ?_)
        refine Run.go rfl rfl rfl (sem_assign ((Value.int .i64 (i34))) rfl ?_)
        refine Run.go rfl rfl rfl (sem_assign ((Value.int .i64 (i35))) rfl ?_)
        refine Run.region_end ?_
        refine Run.seqJ (fun e h37 => Agree [(8, (Value.pointer (some ⟨k8, 0, none⟩))), (9, (Value.pointer (some ⟨k20, 0, none⟩))), (10, (Value.pointer (some ⟨k22, 0, none⟩)))] e ∧ S_countermandlaw08_CellSets_J3 B k8 k20 k22 h37 Q) ?_ fun j36 => ?_
        · rintro e h37 ⟨hag, hS⟩
          refine Run.env hag ?_; clear hag
          refine Run.seq ?_
          refine Run.ops0 (idx := [0, 1, 2, 3]) rfl ?_
          refine Run.go rfl rfl rfl (sem_allocN [(Value.int .i64 (0))] TF.zero_3 (fun k38 hb1 hb2 h39 hb3 => ?_))
          have hS := hS k38 hb1 hb2 h39 hb3
          refine Run.go rfl rfl rfl (sem_allocN [(Value.int .i64 (0))] TF.zero_3 (fun k40 hb1 hb2 h41 hb3 => ?_))
          have hS := hS k40 hb1 hb2 h41 hb3
          obtain ⟨h42, hst, hS⟩ := hS
          refine Run.go rfl rfl rfl (sem_store1 ⟨k38, 0, none⟩ ((Value.int .i64 (0))) h42 rfl rfl rfl TF.sz_3 hst ?_)
          obtain ⟨h43, hst, hS⟩ := hS
          refine Run.go rfl rfl rfl (sem_store1 ⟨k40, 0, none⟩ ((Value.int .i64 (0))) h43 rfl rfl rfl TF.sz_3 hst ?_)
          refine Run.region_end ?_
          refine Run.seqJ (fun e h45 => Agree [(8, (Value.pointer (some ⟨k8, 0, none⟩))), (9, (Value.pointer (some ⟨k20, 0, none⟩))), (10, (Value.pointer (some ⟨k22, 0, none⟩))), (18, (Value.pointer (some ⟨k38, 0, none⟩))), (19, (Value.pointer (some ⟨k40, 0, none⟩)))] e ∧ S_countermandlaw08_CellSets_J4 B k8 k20 k22 k38 k40 h45 Q) ?_ fun j44 => ?_
          · rintro e h45 ⟨hag, hS⟩
            refine Run.env hag ?_; clear hag
            refine Run.seq ?_
            refine Run.ops0 (idx := [0]) rfl ?_
            refine Run.go rfl rfl rfl (sem_assign ((Value.pointer none)) rfl ?_)
            refine Run.region_end ?_
            refine Run.seq ?_
            refine Run.ops0 (idx := [0, 1, 2, 3, 4, 5, 6]) rfl ?_
            refine Run.go rfl rfl rfl (sem_move ((Value.pointer none)) rfl ?_)
            refine Run.go rfl rfl rfl (sem_callL [(Value.pointer none), (Value.int .i64 (0))] (TF.goes_30) rfl rfl (Spec.mono hS fun v h46 hv => ?_))
            obtain ⟨i47, i48, rfl, hS⟩ := hv
            refine Run.go rfl rfl rfl (sem_move ((Value.tuple #[(Value.int .i64 (i47)), (Value.int .i64 (i48))])) rfl ?_)
            refine Run.go rfl rfl rfl (sem_extract #[(Value.int .i64 (i47)), (Value.int .i64 (i48))] ((Value.int .i64 (i47))) rfl rfl ?_)
            refine Run.go rfl rfl rfl (sem_extract #[(Value.int .i64 (i47)), (Value.int .i64 (i48))] ((Value.int .i64 (i48))) rfl rfl ?_)
            refine Run.go rfl rfl rfl (sem_assign ((Value.int .i64 (i47))) rfl ?_)
            refine Run.go rfl rfl rfl (sem_assign ((Value.int .i64 (i48))) rfl ?_)
            refine Run.region_end ?_
            refine Run.seqJ (fun e h50 => Agree [(8, (Value.pointer (some ⟨k8, 0, none⟩))), (9, (Value.pointer (some ⟨k20, 0, none⟩))), (10, (Value.pointer (some ⟨k22, 0, none⟩))), (14, (Value.int .i64 (i47))), (15, (Value.int .i64 (i48))), (18, (Value.pointer (some ⟨k38, 0, none⟩))), (19, (Value.pointer (some ⟨k40, 0, none⟩))), (24, (Value.pointer none))] e ∧ S_countermandlaw08_CellSets_J5 B k8 k20 k22 k38 k40 i47 i48 h50 Q) ?_ fun j49 => ?_
            · rintro e h50 ⟨hag, hS⟩
              refine Run.env hag ?_; clear hag
              refine Run.seq ?_
              obtain ⟨i51, hl, hS⟩ := hS
              have f52 := hl
              obtain ⟨p53, hl, hS⟩ := hS
              have f54 := hl
              obtain ⟨A55, e56, hS⟩ := hS
              skip
              skip
              obtain ⟨i59, hl, hS⟩ := hS
              have f60 := hl
              obtain ⟨hT, hF⟩ := hS
              by_cases hb61 : (i51 : Int) = i59
              · have hS := hT hb61; clear hT hF
                skip
                skip
                obtain ⟨p64, hl, hS⟩ := hS
                have f65 := hl
                obtain ⟨i66, hl, hS⟩ := hS
                have f67 := hl
                refine Run.draw (fun h' => cellH B h' ⟨k38, 0, none⟩ = some (Value.int .i64 (i51)) ∧ cellH B h' ⟨k22, 0, none⟩ = some (Value.pointer p53) ∧ cellH B h' A55 = some (Value.int .i64 (i59)) ∧ cellH B h' ⟨k20, 0, none⟩ = some (Value.pointer p64) ∧ cellH B h' ⟨k40, 0, none⟩ = some (Value.int .i64 (i66)) ∧ True) [32] [.q 0, .q 1, .q 2, .q 3, .q 4, .q 5, .q 6, .q 7, .q 9, .x 8, .q 10, .q 11, .q 12, .q 13, .q 14, .q 15, .q 16, .q 19, .q 22, .x 17, .q 18, .x 20, .q 21, .x 23, .q 24, .q 25, .q 26, .q 27, .q 28, .x 29, .q 30, .q 31, .x 32] TF.mixed (by kernel_rfl) ⟨f52, f54, f60, f65, f67, trivial⟩ ?_
                refine RunO.quiet rfl rfl rfl (fun h' hC => sem_load1 ⟨k38, 0, none⟩ ((Value.int .i64 (i51))) rfl TF.agg_3 hC.1 ⟨rfl, rfl⟩) ?_
                refine RunO.quiet rfl rfl rfl (fun h' hC => sem_load1 ⟨k22, 0, none⟩ ((Value.pointer p53)) rfl TF.agg_54 hC.2.1 ⟨rfl, rfl⟩) ?_
                refine RunO.quiet rfl rfl rfl (fun h' hC => sem_nilCheck A55 (congrArg Value.pointer e56) ⟨rfl, rfl⟩) ?_
                refine RunO.quiet rfl rfl rfl (fun h' hC => sem_fieldAddr A55 0 rfl TF.fld_56_0 ⟨rfl, rfl⟩) ?_
                refine RunO.quiet rfl rfl rfl (fun h' hC => sem_load1 A55 ((Value.int .i64 (i59))) rfl TF.agg_3 hC.2.2.1 ⟨rfl, rfl⟩) ?_
                refine RunO.quiet rfl rfl rfl (fun h' hC => sem_binI .i64 (i51) (i59) (.bool true) rfl rfl (binI_eql_t hb61) ⟨rfl, rfl⟩) ?_
                refine RunO.quiet rfl rfl rfl (fun h' hC => sem_move ((Value.bool true)) rfl ⟨rfl, rfl⟩) ?_
                refine RunO.quiet rfl rfl rfl (fun h' hC => sem_load1 ⟨k20, 0, none⟩ ((Value.pointer p64)) rfl TF.agg_36 hC.2.2.2.1 ⟨rfl, rfl⟩) ?_
                refine RunO.quiet rfl rfl rfl (fun h' hC => sem_load1 ⟨k40, 0, none⟩ ((Value.int .i64 (i66))) rfl TF.agg_3 hC.2.2.2.2.1 ⟨rfl, rfl⟩) ?_
                refine OpH.go rfl rfl rfl (sem_callL [(Value.pointer p64)] (TF.goes_23) rfl rfl (Spec.mono hS fun v h68 hv => ?_))
                obtain ⟨i69, rfl, hS⟩ := hv
                obtain ⟨g70, g71, g72, g73, g74, hS⟩ := hS
                refine ⟨fun _ => ⟨g70, g71, g72, g73, g74, trivial⟩, ?_⟩
                obtain ⟨hT, hF⟩ := hS
                by_cases hb75 : (i69 : Int) = i66
                · have hS := hT hb75; clear hT hF
                  refine RunO.quiet rfl rfl rfl (fun h' hC => sem_binI .i64 (i69) (i66) (.bool true) rfl rfl (binI_eql_t hb75) ⟨rfl, rfl⟩) ?_
                  refine RunO.quiet rfl rfl rfl (fun h' hC => sem_pick true ((Value.bool true)) rfl rfl ⟨rfl, rfl⟩) ?_
                  refine RunO.quiet rfl rfl rfl (fun h' hC => sem_move ((Value.bool true)) rfl ⟨rfl, rfl⟩) ?_
                  refine RunO.quiet rfl rfl rfl (fun h' hC => sem_move ((Value.int .i64 (i47))) rfl ⟨rfl, rfl⟩) ?_
                  refine RunO.quiet rfl rfl rfl (fun h' hC => sem_move ((Value.int .i64 (i48))) rfl ⟨rfl, rfl⟩) ?_
                  refine RunO.quiet rfl rfl rfl (fun h' hC => sem_binI .i64 (i47) (i48) ((Value.int .i64 (IntKind.wrap .i64 ((i47) + (i48))))) rfl rfl rfl ⟨rfl, rfl⟩) ?_
                  refine RunO.quiet rfl rfl rfl (fun h' hC => sem_move ((Value.pointer none)) rfl ⟨rfl, rfl⟩) ?_
                  refine RunO.quiet rfl rfl rfl (fun h' hC => sem_move ((Value.pointer none)) rfl ⟨rfl, rfl⟩) ?_
                  refine RunO.quiet rfl rfl rfl (fun h' hC => sem_move ((Value.pointer none)) rfl ⟨rfl, rfl⟩) ?_
                  refine OpH.go rfl rfl rfl (sem_callL [(Value.pointer none), (Value.int .i64 (0))] (TF.goes_32) rfl rfl (Spec.mono hS fun v h76 hv => ?_))
                  obtain ⟨i77, rfl, hS⟩ := hv
                  obtain ⟨g78, g79, g80, g81, g82, hS⟩ := hS
                  refine ⟨fun _ => ⟨g78, g79, g80, g81, g82, trivial⟩, ?_⟩
                  refine RunO.quiet rfl rfl rfl (fun h' hC => sem_binI .i64 (IntKind.wrap .i64 ((i47) + (i48))) (i77) ((Value.int .i64 (IntKind.wrap .i64 ((IntKind.wrap .i64 ((i47) + (i48))) + (i77))))) rfl rfl rfl ⟨rfl, rfl⟩) ?_
                  refine OpH.go rfl rfl rfl (sem_callL [(Value.pointer none)] (TF.goes_33) rfl rfl (Spec.mono hS fun v h83 hv => ?_))
                  obtain ⟨i84, rfl, hS⟩ := hv
                  obtain ⟨g85, g86, g87, g88, g89, hS⟩ := hS
                  refine ⟨fun _ => ⟨g85, g86, g87, g88, g89, trivial⟩, ?_⟩
                  refine RunO.quiet rfl rfl rfl (fun h' hC => sem_binI .i64 (IntKind.wrap .i64 ((IntKind.wrap .i64 ((i47) + (i48))) + (i77))) (i84) ((Value.int .i64 (IntKind.wrap .i64 ((IntKind.wrap .i64 ((IntKind.wrap .i64 ((i47) + (i48))) + (i77))) + (i84))))) rfl rfl rfl ⟨rfl, rfl⟩) ?_
                  refine OpH.go rfl rfl rfl (sem_callL [(Value.pointer none)] (TF.goes_23) rfl rfl (Spec.mono hS fun v h90 hv => ?_))
                  obtain ⟨i91, rfl, hS⟩ := hv
                  obtain ⟨g92, g93, g94, g95, g96, hS⟩ := hS
                  refine ⟨fun _ => ⟨g92, g93, g94, g95, g96, trivial⟩, ?_⟩
                  refine RunO.quiet rfl rfl rfl (fun h' hC => sem_binI .i64 (IntKind.wrap .i64 ((IntKind.wrap .i64 ((IntKind.wrap .i64 ((i47) + (i48))) + (i77))) + (i84))) (i91) ((Value.int .i64 (IntKind.wrap .i64 ((IntKind.wrap .i64 ((IntKind.wrap .i64 ((IntKind.wrap .i64 ((i47) + (i48))) + (i77))) + (i84))) + (i91))))) rfl rfl rfl ⟨rfl, rfl⟩) ?_
                  obtain ⟨hT, hF⟩ := hS
                  by_cases hb97 : (IntKind.wrap .i64 ((IntKind.wrap .i64 ((IntKind.wrap .i64 ((IntKind.wrap .i64 ((i47) + (i48))) + (i77))) + (i84))) + (i91)) : Int) = 0
                  · have hS := hT hb97; clear hT hF
                    refine RunO.quiet rfl rfl rfl (fun h' hC => sem_binI .i64 (IntKind.wrap .i64 ((IntKind.wrap .i64 ((IntKind.wrap .i64 ((IntKind.wrap .i64 ((i47) + (i48))) + (i77))) + (i84))) + (i91))) (0) (.bool true) rfl rfl (binI_eql_t hb97) ⟨rfl, rfl⟩) ?_
                    refine RunO.quiet rfl rfl rfl (fun h' hC => sem_pick true ((Value.bool true)) rfl rfl ⟨rfl, rfl⟩) ?_
                    refine RunO.quiet rfl rfl rfl (fun h' hC => sem_move ((Value.bool true)) rfl ⟨rfl, rfl⟩) ?_
                    refine RunO.quiet rfl rfl rfl (fun h' hC => sem_move ((Value.pointer none)) rfl ⟨rfl, rfl⟩) ?_
                    refine OpH.go rfl rfl rfl (sem_callL [(Value.pointer none), (Value.int .i64 (0)), (Value.int .i64 (1)), (Value.int .i64 (1))] (TF.goes_22) rfl rfl (Spec.mono hS fun v h98 hv => ?_))
                    obtain ⟨b99, rfl, hS⟩ := hv
                    obtain ⟨g100, g101, g102, g103, g104, hS⟩ := hS
                    refine ⟨fun _ => ⟨g100, g101, g102, g103, g104, trivial⟩, ?_⟩
                    refine RunO.quiet rfl rfl rfl (fun h' hC => sem_not b99 rfl ⟨rfl, rfl⟩) ?_
                    refine RunO.quiet rfl rfl rfl (fun h' hC => sem_pick true ((Value.bool (!b99))) rfl rfl ⟨rfl, rfl⟩) ?_
                    obtain ⟨h105, hst, hS⟩ := hS
                    refine OpH.go rfl rfl rfl (sem_store1 ⟨k8, 0, none⟩ ((Value.bool (!b99))) h105 rfl rfl rfl TF.sz_4 hst ?_)
                    refine ⟨fun hz => Bool.noConfusion hz, ?_⟩
                    obtain ⟨b106, hl0, hS⟩ := hS
                    refine Run.ret ⟨.inr rfl, ?_⟩
                    exact ⟨⟨k8, 0, none⟩, (Value.bool b106), rfl, loadH1 TF.agg_4 hl0, hS.imp fun h' hq => ⟨(b106), rfl, hq⟩⟩
                  · have hS := hF hb97; clear hT hF
                    refine RunO.quiet rfl rfl rfl (fun h' hC => sem_binI .i64 (IntKind.wrap .i64 ((IntKind.wrap .i64 ((IntKind.wrap .i64 ((IntKind.wrap .i64 ((i47) + (i48))) + (i77))) + (i84))) + (i91))) (0) (.bool false) rfl rfl (binI_eql_f hb97) ⟨rfl, rfl⟩) ?_
                    refine RunO.quiet rfl rfl rfl (fun h' hC => sem_pick true ((Value.bool false)) rfl rfl ⟨rfl, rfl⟩) ?_
                    refine RunO.quiet rfl rfl rfl (fun h' hC => sem_move ((Value.bool false)) rfl ⟨rfl, rfl⟩) ?_
                    refine RunO.skip rfl rfl rfl ?_
                    refine OpH.no rfl rfl rfl ⟨fun _ => ⟨g92, g93, g94, g95, g96, trivial⟩, ?_⟩
                    refine RunO.skip rfl rfl rfl ?_
                    refine RunO.quiet rfl rfl rfl (fun h' hC => sem_pick false ((Value.bool false)) rfl rfl ⟨rfl, rfl⟩) ?_
                    obtain ⟨h107, hst, hS⟩ := hS
                    refine OpH.go rfl rfl rfl (sem_store1 ⟨k8, 0, none⟩ ((Value.bool false)) h107 rfl rfl rfl TF.sz_4 hst ?_)
                    refine ⟨fun hz => Bool.noConfusion hz, ?_⟩
                    obtain ⟨b108, hl0, hS⟩ := hS
                    refine Run.ret ⟨.inr rfl, ?_⟩
                    exact ⟨⟨k8, 0, none⟩, (Value.bool b108), rfl, loadH1 TF.agg_4 hl0, hS.imp fun h' hq => ⟨(b108), rfl, hq⟩⟩
                · have hS := hF hb75; clear hT hF
                  refine RunO.quiet rfl rfl rfl (fun h' hC => sem_binI .i64 (i69) (i66) (.bool false) rfl rfl (binI_eql_f hb75) ⟨rfl, rfl⟩) ?_
                  refine RunO.quiet rfl rfl rfl (fun h' hC => sem_pick true ((Value.bool false)) rfl rfl ⟨rfl, rfl⟩) ?_
                  refine RunO.quiet rfl rfl rfl (fun h' hC => sem_move ((Value.bool false)) rfl ⟨rfl, rfl⟩) ?_
                  refine RunO.skip rfl rfl rfl ?_
                  refine RunO.skip rfl rfl rfl ?_
                  refine RunO.skip rfl rfl rfl ?_
                  refine RunO.skip rfl rfl rfl ?_
                  refine RunO.skip rfl rfl rfl ?_
                  refine RunO.skip rfl rfl rfl ?_
                  refine OpH.no rfl rfl rfl ⟨fun _ => ⟨g70, g71, g72, g73, g74, trivial⟩, ?_⟩
                  refine RunO.skip rfl rfl rfl ?_
                  refine OpH.no rfl rfl rfl ⟨fun _ => ⟨g70, g71, g72, g73, g74, trivial⟩, ?_⟩
                  refine RunO.skip rfl rfl rfl ?_
                  refine OpH.no rfl rfl rfl ⟨fun _ => ⟨g70, g71, g72, g73, g74, trivial⟩, ?_⟩
                  refine RunO.skip rfl rfl rfl ?_
                  refine RunO.skip rfl rfl rfl ?_
                  refine RunO.quiet rfl rfl rfl (fun h' hC => sem_pick false ((Value.bool false)) rfl rfl ⟨rfl, rfl⟩) ?_
                  refine RunO.quiet rfl rfl rfl (fun h' hC => sem_move ((Value.bool false)) rfl ⟨rfl, rfl⟩) ?_
                  refine RunO.skip rfl rfl rfl ?_
                  refine OpH.no rfl rfl rfl ⟨fun _ => ⟨g70, g71, g72, g73, g74, trivial⟩, ?_⟩
                  refine RunO.skip rfl rfl rfl ?_
                  refine RunO.quiet rfl rfl rfl (fun h' hC => sem_pick false ((Value.bool false)) rfl rfl ⟨rfl, rfl⟩) ?_
                  obtain ⟨h109, hst, hS⟩ := hS
                  refine OpH.go rfl rfl rfl (sem_store1 ⟨k8, 0, none⟩ ((Value.bool false)) h109 rfl rfl rfl TF.sz_4 hst ?_)
                  refine ⟨fun hz => Bool.noConfusion hz, ?_⟩
                  obtain ⟨b110, hl0, hS⟩ := hS
                  refine Run.ret ⟨.inr rfl, ?_⟩
                  exact ⟨⟨k8, 0, none⟩, (Value.bool b110), rfl, loadH1 TF.agg_4 hl0, hS.imp fun h' hq => ⟨(b110), rfl, hq⟩⟩
              · have hS := hF hb61; clear hT hF
                skip
                skip
                refine Run.draw (fun h' => cellH B h' ⟨k38, 0, none⟩ = some (Value.int .i64 (i51)) ∧ cellH B h' ⟨k22, 0, none⟩ = some (Value.pointer p53) ∧ cellH B h' A55 = some (Value.int .i64 (i59)) ∧ True) [32] [.q 0, .q 1, .q 2, .q 3, .q 4, .q 5, .q 6, .q 7, .q 9, .x 8, .q 10, .q 11, .q 12, .q 13, .q 14, .q 15, .q 16, .q 19, .q 22, .x 17, .q 18, .x 20, .q 21, .x 23, .q 24, .q 25, .q 26, .q 27, .q 28, .x 29, .q 30, .q 31, .x 32] TF.mixed (by kernel_rfl) ⟨f52, f54, f60, trivial⟩ ?_
                refine RunO.quiet rfl rfl rfl (fun h' hC => sem_load1 ⟨k38, 0, none⟩ ((Value.int .i64 (i51))) rfl TF.agg_3 hC.1 ⟨rfl, rfl⟩) ?_
                refine RunO.quiet rfl rfl rfl (fun h' hC => sem_load1 ⟨k22, 0, none⟩ ((Value.pointer p53)) rfl TF.agg_54 hC.2.1 ⟨rfl, rfl⟩) ?_
                refine RunO.quiet rfl rfl rfl (fun h' hC => sem_nilCheck A55 (congrArg Value.pointer e56) ⟨rfl, rfl⟩) ?_
                refine RunO.quiet rfl rfl rfl (fun h' hC => sem_fieldAddr A55 0 rfl TF.fld_56_0 ⟨rfl, rfl⟩) ?_
                refine RunO.quiet rfl rfl rfl (fun h' hC => sem_load1 A55 ((Value.int .i64 (i59))) rfl TF.agg_3 hC.2.2.1 ⟨rfl, rfl⟩) ?_
                refine RunO.quiet rfl rfl rfl (fun h' hC => sem_binI .i64 (i51) (i59) (.bool false) rfl rfl (binI_eql_f hb61) ⟨rfl, rfl⟩) ?_
                refine RunO.quiet rfl rfl rfl (fun h' hC => sem_move ((Value.bool false)) rfl ⟨rfl, rfl⟩) ?_
                refine RunO.skip rfl rfl rfl ?_
                refine RunO.skip rfl rfl rfl ?_
                refine OpH.no rfl rfl rfl ⟨fun _ => ⟨f52, f54, f60, trivial⟩, ?_⟩
                refine RunO.skip rfl rfl rfl ?_
                refine RunO.quiet rfl rfl rfl (fun h' hC => sem_pick false ((Value.bool false)) rfl rfl ⟨rfl, rfl⟩) ?_
                refine RunO.quiet rfl rfl rfl (fun h' hC => sem_move ((Value.bool false)) rfl ⟨rfl, rfl⟩) ?_
                refine RunO.skip rfl rfl rfl ?_
                refine RunO.skip rfl rfl rfl ?_
                refine RunO.skip rfl rfl rfl ?_
                refine RunO.skip rfl rfl rfl ?_
                refine RunO.skip rfl rfl rfl ?_
                refine RunO.skip rfl rfl rfl ?_
                refine OpH.no rfl rfl rfl ⟨fun _ => ⟨f52, f54, f60, trivial⟩, ?_⟩
                refine RunO.skip rfl rfl rfl ?_
                refine OpH.no rfl rfl rfl ⟨fun _ => ⟨f52, f54, f60, trivial⟩, ?_⟩
                refine RunO.skip rfl rfl rfl ?_
                refine OpH.no rfl rfl rfl ⟨fun _ => ⟨f52, f54, f60, trivial⟩, ?_⟩
                refine RunO.skip rfl rfl rfl ?_
                refine RunO.skip rfl rfl rfl ?_
                refine RunO.quiet rfl rfl rfl (fun h' hC => sem_pick false ((Value.bool false)) rfl rfl ⟨rfl, rfl⟩) ?_
                refine RunO.quiet rfl rfl rfl (fun h' hC => sem_move ((Value.bool false)) rfl ⟨rfl, rfl⟩) ?_
                refine RunO.skip rfl rfl rfl ?_
                refine OpH.no rfl rfl rfl ⟨fun _ => ⟨f52, f54, f60, trivial⟩, ?_⟩
                refine RunO.skip rfl rfl rfl ?_
                refine RunO.quiet rfl rfl rfl (fun h' hC => sem_pick false ((Value.bool false)) rfl rfl ⟨rfl, rfl⟩) ?_
                obtain ⟨h113, hst, hS⟩ := hS
                refine OpH.go rfl rfl rfl (sem_store1 ⟨k8, 0, none⟩ ((Value.bool false)) h113 rfl rfl rfl TF.sz_4 hst ?_)
                refine ⟨fun hz => Bool.noConfusion hz, ?_⟩
                obtain ⟨b114, hl0, hS⟩ := hS
                refine Run.ret ⟨.inr rfl, ?_⟩
                exact ⟨⟨k8, 0, none⟩, (Value.bool b114), rfl, loadH1 TF.agg_4 hl0, hS.imp fun h' hq => ⟨(b114), rfl, hq⟩⟩
            refine Run.seq ?_
            refine Run.ops0 (idx := [0, 1]) rfl ?_
            refine Run.go rfl rfl rfl (sem_move ((Value.pointer none)) rfl ?_)
            refine Run.go rfl rfl rfl (sem_callL [(Value.pointer none)] (TF.goes_34) rfl rfl (Spec.mono hS fun v116 h115 hv => ?_))
            obtain ⟨_, rfl, hS⟩ := hv
            refine Run.region_end ?_
            refine Run.block ?_
            obtain ⟨xs123, G119, J122, hit, hins, hG, h0, hS, hR⟩ := hS
            refine Run.of_fin (h0.imp fun h' h0 => ?_)
            refine Run.range (v116) (xs123.map (fun x : Int × Int => [(Value.int .i64 (x.1)), (Value.int .i64 (x.2))])) G119 J122 rfl hit hins hG h0 rfl (fun a ha => by obtain ⟨x, _, rfl⟩ := List.mem_map.1 ha; rfl) ?_ ?_
            · rintro q121 args h120 ha hJ
              obtain ⟨⟨i117, i118⟩, hx, rfl⟩ := Option.map_eq_some_iff.1 ((List.getElem?_map ..).symm.trans ha)
              have hS := hS q121 h120 i117 i118 hx hJ; clear hJ hx ha
              refine Run.skip ?_
              refine Run.begin ⟨rfl, ?_⟩
              refine Run.block ?_
              refine Run.seq ?_
              refine Run.ops0 (idx := [0]) rfl ?_
              obtain ⟨h124, hst, hS⟩ := hS
              refine Run.go rfl rfl rfl (sem_store1 ⟨k8, 0, none⟩ ((Value.bool false)) h124 rfl rfl rfl TF.sz_4 hst ?_)
              refine Run.region_end ?_
              refine Run.ret (.inr ⟨_, rfl, ?_⟩)
              obtain ⟨b125, hl0, hS⟩ := hS
              refine Run.ret ⟨.inr rfl, ?_⟩
              exact ⟨⟨k8, 0, none⟩, (Value.bool b125), rfl, loadH1 TF.agg_4 hl0, hS.imp fun h' hq => ⟨(b125), rfl, hq⟩⟩
            · intro h120 hJ
              have hS := hR h120 (by simpa using hJ); clear hJ hR
              refine Run.inBlock ?_
              exact Run.of_fin (hS.imp fun h' hS => j49 _ _ ⟨⟨rfl, rfl, rfl, rfl, rfl, rfl, rfl, rfl, trivial⟩, hS⟩)
          refine Run.seq ?_
          refine Run.ops0 (idx := [0, 1]) rfl ?_
          obtain ⟨p126, hl, hS⟩ := hS
          refine Run.go rfl rfl rfl (sem_load1 ⟨k20, 0, none⟩ ((Value.pointer p126)) rfl TF.agg_36 hl ?_)
          refine Run.go rfl rfl rfl (sem_callL [(Value.pointer p126)] (TF.goes_34) rfl rfl (Spec.mono hS fun v128 h127 hv => ?_))
          obtain ⟨_, rfl, hS⟩ := hv
          refine Run.region_end ?_
          refine Run.block ?_
          obtain ⟨xs135, G131, J134, hit, hins, hG, h0, hS, hR⟩ := hS
          refine Run.of_fin (h0.imp fun h' h0 => ?_)
          refine Run.range (v128) (xs135.map (fun x : Int × Int => [(Value.int .i64 (x.1)), (Value.int .i64 (x.2))])) G131 J134 rfl hit hins hG h0 rfl (fun a ha => by obtain ⟨x, _, rfl⟩ := List.mem_map.1 ha; rfl) ?_ ?_
          · rintro q133 args h132 ha hJ
            obtain ⟨⟨i129, i130⟩, hx, rfl⟩ := Option.map_eq_some_iff.1 ((List.getElem?_map ..).symm.trans ha)
            have hS := hS q133 h132 i129 i130 hx hJ; clear hJ hx ha
            refine Run.seq ?_
            refine Run.ops0 (idx := [0]) rfl ?_
            refine Run.go rfl rfl rfl (sem_assign ((Value.int .i64 (i129))) rfl ?_)
            refine Run.region_end ?_
            refine Run.ops0 (idx := [0]) rfl ?_
            refine Run.go rfl rfl rfl (sem_assign ((Value.int .i64 (i130))) rfl ?_)
            refine Run.region_end ?_
            refine Run.begin ⟨rfl, ?_⟩
            refine Run.block ?_
            refine Run.seq ?_
            refine Run.ops0 (idx := [0, 1, 2, 3, 4, 5, 6, 7]) rfl ?_
            obtain ⟨p136, hl, hS⟩ := hS
            refine Run.go rfl rfl rfl (sem_load1 ⟨k22, 0, none⟩ ((Value.pointer p136)) rfl TF.agg_54 hl ?_)
            obtain ⟨i137, hl, hS⟩ := hS
            refine Run.go rfl rfl rfl (sem_load1 ⟨k38, 0, none⟩ ((Value.int .i64 (i137))) rfl TF.agg_3 hl ?_)
            refine Run.go rfl rfl rfl (sem_callL [(Value.pointer p136), (Value.int .i64 (i137))] (TF.goes_31) rfl rfl (Spec.mono hS fun v h138 hv => ?_))
            obtain ⟨i139, i140, rfl, hS⟩ := hv
            refine Run.go rfl rfl rfl (sem_move ((Value.tuple #[(Value.int .i64 (i139)), (Value.int .i64 (i140))])) rfl ?_)
            refine Run.go rfl rfl rfl (sem_extract #[(Value.int .i64 (i139)), (Value.int .i64 (i140))] ((Value.int .i64 (i139))) rfl rfl ?_)
            refine Run.go rfl rfl rfl (sem_extract #[(Value.int .i64 (i139)), (Value.int .i64 (i140))] ((Value.int .i64 (i140))) rfl rfl ?_)
            refine Run.go rfl rfl rfl (sem_assign ((Value.int .i64 (i139))) rfl ?_)
            refine Run.go rfl rfl rfl (sem_assign ((Value.int .i64 (i140))) rfl ?_)
            refine Run.region_end ?_
            refine Run.seqJ (fun e h142 => Agree [(18, (Value.pointer (some ⟨k38, 0, none⟩))), (19, (Value.pointer (some ⟨k40, 0, none⟩))), (23, (Value.int .i64 (i140)))] e ∧ S_countermandlaw08_CellSets_J6 B k38 k40 q133 J134 i140 h142 Q) ?_ fun j141 => ?_
            · rintro e h142 ⟨hag, hS⟩
              refine Run.env hag ?_; clear hag
              refine Run.seq ?_
              refine Run.ops0 (idx := [0, 1, 2, 3]) rfl ?_
              obtain ⟨i143, hl, hS⟩ := hS
              refine Run.go rfl rfl rfl (sem_load1 ⟨k40, 0, none⟩ ((Value.int .i64 (i143))) rfl TF.agg_3 hl ?_)
              refine Run.go rfl rfl rfl (sem_move ((Value.int .i64 (i140))) rfl ?_)
              refine Run.go rfl rfl rfl (sem_max .i64 (i143) (i140) rfl rfl ?_)
              obtain ⟨h144, hst, hS⟩ := hS
              refine Run.go rfl rfl rfl (sem_store1 ⟨k40, 0, none⟩ ((Value.int .i64 (if (i140 : Int) > (i143) then (i140 : Int) else (i143)))) h144 rfl rfl rfl TF.sz_3 hst ?_)
              refine Run.region_end ?_
              refine Run.ops0 (idx := [0, 1, 2]) rfl ?_
              obtain ⟨i145, hl, hS⟩ := hS
              refine Run.go rfl rfl rfl (sem_load1 ⟨k38, 0, none⟩ ((Value.int .i64 (i145))) rfl TF.agg_3 hl ?_)
              refine Run.go rfl rfl rfl (sem_binI .i64 (i145) (1) ((Value.int .i64 (IntKind.wrap .i64 ((i145) + (1))))) rfl rfl rfl ?_)
              obtain ⟨h146, hst, hS⟩ := hS
              refine Run.go rfl rfl rfl (sem_store1 ⟨k38, 0, none⟩ ((Value.int .i64 (IntKind.wrap .i64 ((i145) + (1))))) h146 rfl rfl rfl TF.sz_3 hst ?_)
              refine Run.region_end ?_
              refine Run.inBlock ?_
              refine Run.of_fin (hS.imp fun h' hS => ?_)
              exact Run.fall (.inl ⟨rfl, hS⟩)
            refine Run.seq ?_
            refine Run.ops0 (idx := [0, 1, 2, 3, 4, 5, 6, 7, 8, 9, 10, 11, 12, 13, 14]) rfl ?_
            refine Run.go rfl rfl rfl (sem_move ((Value.int .i64 (i129))) rfl ?_)
            obtain ⟨i147, hl, hS⟩ := hS
            refine Run.go rfl rfl rfl (sem_load1 ⟨k38, 0, none⟩ ((Value.int .i64 (i147))) rfl TF.agg_3 hl ?_)
            obtain ⟨hT, hF⟩ := hS
            by_cases hb148 : (i129 : Int) = i147
            · have hS := hT hb148; clear hT hF
              refine Run.go rfl rfl rfl (sem_binI .i64 (i129) (i147) (.bool false) rfl rfl (binI_neq_t hb148) ?_)
              refine Run.go rfl rfl rfl (sem_move ((Value.bool false)) rfl ?_)
              refine Run.go rfl rfl rfl (sem_move ((Value.int .i64 (i130))) rfl ?_)
              refine Run.go rfl rfl rfl (sem_move ((Value.int .i64 (i139))) rfl ?_)
              obtain ⟨hT, hF⟩ := hS
              by_cases hb149 : (i130 : Int) = i139
              · have hS := hT hb149; clear hT hF
                refine Run.go rfl rfl rfl (sem_binI .i64 (i130) (i139) (.bool false) rfl rfl (binI_neq_t hb149) ?_)
                refine Run.go rfl rfl rfl (sem_pick false ((Value.bool false)) rfl rfl ?_)
                refine Run.go rfl rfl rfl (sem_move ((Value.bool false)) rfl ?_)
                obtain ⟨p150, hl, hS⟩ := hS
                refine Run.go rfl rfl rfl (sem_load1 ⟨k20, 0, none⟩ ((Value.pointer p150)) rfl TF.agg_36 hl ?_)
                refine Run.go rfl rfl rfl (sem_move ((Value.int .i64 (i129))) rfl ?_)
                refine Run.go rfl rfl rfl (sem_callL [(Value.pointer p150), (Value.int .i64 (i129))] (TF.goes_32) rfl rfl (Spec.mono hS fun v h151 hv => ?_))
                obtain ⟨i152, rfl, hS⟩ := hv
                refine Run.go rfl rfl rfl (sem_move ((Value.int .i64 (i140))) rfl ?_)
                obtain ⟨hT, hF⟩ := hS
                by_cases hb153 : (i152 : Int) = i140
                · have hS := hT hb153; clear hT hF
                  refine Run.go rfl rfl rfl (sem_binI .i64 (i152) (i140) (.bool false) rfl rfl (binI_neq_t hb153) ?_)
                  refine Run.go rfl rfl rfl (sem_pick false ((Value.bool false)) rfl rfl ?_)
                  refine Run.region_end ?_
                  refine Run.condF rfl ?_
                  refine Run.skip ?_
                  exact Run.of_fin (hS.imp fun h' hS => j141 _ _ ⟨⟨rfl, rfl, rfl, trivial⟩, hS⟩)
                · have hS := hF hb153; clear hT hF
                  refine Run.go rfl rfl rfl (sem_binI .i64 (i152) (i140) (.bool true) rfl rfl (binI_neq_f hb153) ?_)
                  refine Run.go rfl rfl rfl (sem_pick false ((Value.bool true)) rfl rfl ?_)
                  refine Run.region_end ?_
                  refine Run.condT rfl ?_
                  refine Run.seq ?_
                  refine Run.ops0 (idx := [0]) rfl ?_
                  obtain ⟨h154, hst, hS⟩ := hS
                  refine Run.go rfl rfl rfl (sem_store1 ⟨k8, 0, none⟩ ((Value.bool false)) h154 rfl rfl rfl TF.sz_4 hst ?_)
                  refine Run.region_end ?_
                  refine Run.ret (.inr ⟨_, rfl, ?_⟩)
                  obtain ⟨b155, hl0, hS⟩ := hS
                  refine Run.ret ⟨.inr rfl, ?_⟩
                  exact ⟨⟨k8, 0, none⟩, (Value.bool b155), rfl, loadH1 TF.agg_4 hl0, hS.imp fun h' hq => ⟨(b155), rfl, hq⟩⟩
              · have hS := hF hb149; clear hT hF
                refine Run.go rfl rfl rfl (sem_binI .i64 (i130) (i139) (.bool true) rfl rfl (binI_neq_f hb149) ?_)
                refine Run.go rfl rfl rfl (sem_pick false ((Value.bool true)) rfl rfl ?_)
                refine Run.go rfl rfl rfl (sem_move ((Value.bool true)) rfl ?_)
                refine Run.no rfl rfl rfl ?_
                refine Run.no rfl rfl rfl ?_
                refine Run.no rfl rfl rfl ?_
                refine Run.no rfl rfl rfl ?_
                refine Run.no rfl rfl rfl ?_
                refine Run.go rfl rfl rfl (sem_pick true ((Value.bool true)) rfl rfl ?_)
                refine Run.region_end ?_
                refine Run.condT rfl ?_
                refine Run.seq ?_
                refine Run.ops0 (idx := [0]) rfl ?_
                obtain ⟨h156, hst, hS⟩ := hS
                refine Run.go rfl rfl rfl (sem_store1 ⟨k8, 0, none⟩ ((Value.bool false)) h156 rfl rfl rfl TF.sz_4 hst ?_)
                refine Run.region_end ?_
                refine Run.ret (.inr ⟨_, rfl, ?_⟩)
                obtain ⟨b157, hl0, hS⟩ := hS
                refine Run.ret ⟨.inr rfl, ?_⟩
                exact ⟨⟨k8, 0, none⟩, (Value.bool b157), rfl, loadH1 TF.agg_4 hl0, hS.imp fun h' hq => ⟨(b157), rfl, hq⟩⟩
            · have hS := hF hb148; clear hT hF
              refine Run.go rfl rfl rfl (sem_binI .i64 (i129) (i147) (.bool true) rfl rfl (binI_neq_f hb148) ?_)
              refine Run.go rfl rfl rfl (sem_move ((Value.bool true)) rfl ?_)
              refine Run.no rfl rfl rfl ?_
              refine Run.no rfl rfl rfl ?_
              refine Run.no rfl rfl rfl ?_
              refine Run.go rfl rfl rfl (sem_pick true ((Value.bool true)) rfl rfl ?_)
              refine Run.go rfl rfl rfl (sem_move ((Value.bool true)) rfl ?_)
              refine Run.no rfl rfl rfl ?_
              refine Run.no rfl rfl rfl ?_
              refine Run.no rfl rfl rfl ?_
              refine Run.no rfl rfl rfl ?_
              refine Run.no rfl rfl rfl ?_
              refine Run.go rfl rfl rfl (sem_pick true ((Value.bool true)) rfl rfl ?_)
              refine Run.region_end ?_
              refine Run.condT rfl ?_
              refine Run.seq ?_
              refine Run.ops0 (idx := [0]) rfl ?_
              obtain ⟨h158, hst, hS⟩ := hS
              refine Run.go rfl rfl rfl (sem_store1 ⟨k8, 0, none⟩ ((Value.bool false)) h158 rfl rfl rfl TF.sz_4 hst ?_)
              refine Run.region_end ?_
              refine Run.ret (.inr ⟨_, rfl, ?_⟩)
              obtain ⟨b159, hl0, hS⟩ := hS
              refine Run.ret ⟨.inr rfl, ?_⟩
              exact ⟨⟨k8, 0, none⟩, (Value.bool b159), rfl, loadH1 TF.agg_4 hl0, hS.imp fun h' hq => ⟨(b159), rfl, hq⟩⟩
          · intro h132 hJ
            have hS := hR h132 (by simpa using hJ); clear hJ hR
            refine Run.inBlock ?_
            exact Run.of_fin (hS.imp fun h' hS => j44 _ _ ⟨⟨rfl, rfl, rfl, rfl, rfl, trivial⟩, hS⟩)
        refine Run.seq ?_
        refine Run.draw (fun h' => h' = h33) [] [.q 0, .q 1, .q 2, .q 3, .q 4, .q 5, .q 6, .q 7, .q 8, .q 9, .q 10, .q 12, .x 11, .q 13, .q 14, .q 15, .q 16, .q 18, .q 19, .q 20, .q 21, .x 17, .q 22, .q 23] TF.mixed (by kernel_rfl) rfl ?_
        refine RunO.quiet rfl rfl rfl (quiet_eq (sem_move ((Value.int .i64 (i30))) rfl ⟨rfl, rfl⟩)) ?_
        refine RunO.quiet rfl rfl rfl (quiet_eq (sem_move ((Value.int .i64 (i34))) rfl ⟨rfl, rfl⟩)) ?_
        obtain ⟨hT, hF⟩ := hS
        by_cases hb160 : (i30 : Int) = i34
        · have hS := hT hb160; clear hT hF
          refine RunO.quiet rfl rfl rfl (quiet_eq (sem_binI .i64 (i30) (i34) (.bool false) rfl rfl (binI_neq_t hb160) ⟨rfl, rfl⟩)) ?_
          refine RunO.quiet rfl rfl rfl (quiet_eq (sem_move ((Value.bool false)) rfl ⟨rfl, rfl⟩)) ?_
          refine RunO.quiet rfl rfl rfl (quiet_eq (sem_move ((Value.int .i64 (i31))) rfl ⟨rfl, rfl⟩)) ?_
          refine RunO.quiet rfl rfl rfl (quiet_eq (sem_move ((Value.int .i64 (i35))) rfl ⟨rfl, rfl⟩)) ?_
          obtain ⟨hT, hF⟩ := hS
          by_cases hb161 : (i31 : Int) = i35
          · have hS := hT hb161; clear hT hF
            refine RunO.quiet rfl rfl rfl (quiet_eq (sem_binI .i64 (i31) (i35) (.bool false) rfl rfl (binI_neq_t hb161) ⟨rfl, rfl⟩)) ?_
            refine RunO.quiet rfl rfl rfl (quiet_eq (sem_pick false ((Value.bool false)) rfl rfl ⟨rfl, rfl⟩)) ?_
            refine RunO.quiet rfl rfl rfl (quiet_eq (sem_move ((Value.bool false)) rfl ⟨rfl, rfl⟩)) ?_
            obtain ⟨p162, hl, hS⟩ := hS
            refine RunO.quiet rfl rfl rfl (quiet_eq (sem_load1 ⟨k20, 0, none⟩ ((Value.pointer p162)) rfl TF.agg_36 hl ⟨rfl, rfl⟩)) ?_
            refine RunO.quiet rfl rfl rfl (quiet_eq (sem_move ((Value.int .i64 (i6))) rfl ⟨rfl, rfl⟩)) ?_
            refine RunO.quiet rfl rfl rfl (quiet_eq (sem_move ((Value.int .i64 (i35))) rfl ⟨rfl, rfl⟩)) ?_
            refine OpH.go rfl rfl rfl (sem_callL [(Value.pointer p162), (Value.int .i64 (i6))] (TF.goes_32) rfl rfl (Spec.mono hS fun v h163 hv => ?_))
            obtain ⟨i164, rfl, hS⟩ := hv
            obtain ⟨hE, hS⟩ := hS
            subst hE
            refine ⟨fun _ => rfl, ?_⟩
            obtain ⟨hT, hF⟩ := hS
            by_cases hb165 : (i164 : Int) = i35
            · have hS := hT hb165; clear hT hF
              refine RunO.quiet rfl rfl rfl (quiet_eq (sem_binI .i64 (i164) (i35) (.bool false) rfl rfl (binI_neq_t hb165) ⟨rfl, rfl⟩)) ?_
              refine RunO.quiet rfl rfl rfl (quiet_eq (sem_pick false ((Value.bool false)) rfl rfl ⟨rfl, rfl⟩)) ?_
              refine RunO.quiet rfl rfl rfl (quiet_eq (sem_move ((Value.bool false)) rfl ⟨rfl, rfl⟩)) ?_
              obtain ⟨p166, hl, hS⟩ := hS
              refine RunO.quiet rfl rfl rfl (quiet_eq (sem_load1 ⟨k20, 0, none⟩ ((Value.pointer p166)) rfl TF.agg_36 hl ⟨rfl, rfl⟩)) ?_
              obtain ⟨p167, hl, hS⟩ := hS
              refine RunO.quiet rfl rfl rfl (quiet_eq (sem_load1 ⟨k22, 0, none⟩ ((Value.pointer p167)) rfl TF.agg_54 hl ⟨rfl, rfl⟩)) ?_
              obtain ⟨A168, e169, hS⟩ := hS
              refine RunO.quiet rfl rfl rfl (quiet_eq (sem_nilCheck A168 (congrArg Value.pointer e169) ⟨rfl, rfl⟩)) ?_
              refine RunO.quiet rfl rfl rfl (quiet_eq (sem_fieldAddr A168 0 rfl TF.fld_56_0 ⟨rfl, rfl⟩)) ?_
              obtain ⟨i170, hl, hS⟩ := hS
              refine RunO.quiet rfl rfl rfl (quiet_eq (sem_load1 A168 ((Value.int .i64 (i170))) rfl TF.agg_3 hl ⟨rfl, rfl⟩)) ?_
              refine OpH.go rfl rfl rfl (sem_callL [(Value.pointer p166)] (TF.goes_33) rfl rfl (Spec.mono hS fun v h171 hv => ?_))
              obtain ⟨i172, rfl, hS⟩ := hv
              obtain ⟨hE, hS⟩ := hS
              subst hE
              refine ⟨fun _ => rfl, ?_⟩
              obtain ⟨hT, hF⟩ := hS
              by_cases hb173 : (i172 : Int) = i170
              · have hS := hT hb173; clear hT hF
                refine RunO.quiet rfl rfl rfl (quiet_eq (sem_binI .i64 (i172) (i170) (.bool false) rfl rfl (binI_neq_t hb173) ⟨rfl, rfl⟩)) ?_
                refine RunO.quiet rfl rfl rfl (quiet_eq (sem_pick false ((Value.bool false)) rfl rfl ⟨rfl, rfl⟩)) ?_
                refine Run.condF rfl ?_
                refine Run.skip ?_
                exact Run.of_fin (hS.imp fun h' hS => j36 _ _ ⟨⟨rfl, rfl, rfl, trivial⟩, hS⟩)
              · have hS := hF hb173; clear hT hF
                refine RunO.quiet rfl rfl rfl (quiet_eq (sem_binI .i64 (i172) (i170) (.bool true) rfl rfl (binI_neq_f hb173) ⟨rfl, rfl⟩)) ?_
                refine RunO.quiet rfl rfl rfl (quiet_eq (sem_pick false ((Value.bool true)) rfl rfl ⟨rfl, rfl⟩)) ?_
                refine Run.condT rfl ?_
                refine Run.seq ?_
                refine Run.ops0 (idx := [0]) rfl ?_
                obtain ⟨h174, hst, hS⟩ := hS
                refine Run.go rfl rfl rfl (sem_store1 ⟨k8, 0, none⟩ ((Value.bool false)) h174 rfl rfl rfl TF.sz_4 hst ?_)
                refine Run.region_end ?_
                obtain ⟨b175, hl0, hS⟩ := hS
                refine Run.ret ⟨.inr rfl, ?_⟩
                exact ⟨⟨k8, 0, none⟩, (Value.bool b175), rfl, loadH1 TF.agg_4 hl0, hS.imp fun h' hq => ⟨(b175), rfl, hq⟩⟩
            · have hS := hF hb165; clear hT hF
              refine RunO.quiet rfl rfl rfl (quiet_eq (sem_binI .i64 (i164) (i35) (.bool true) rfl rfl (binI_neq_f hb165) ⟨rfl, rfl⟩)) ?_
              refine RunO.quiet rfl rfl rfl (quiet_eq (sem_pick false ((Value.bool true)) rfl rfl ⟨rfl, rfl⟩)) ?_
              refine RunO.quiet rfl rfl rfl (quiet_eq (sem_move ((Value.bool true)) rfl ⟨rfl, rfl⟩)) ?_
              refine RunO.skip rfl rfl rfl ?_
              refine RunO.skip rfl rfl rfl ?_
              refine RunO.skip rfl rfl rfl ?_
              refine RunO.skip rfl rfl rfl ?_
              refine RunO.skip rfl rfl rfl ?_
              refine OpH.no rfl rfl rfl ⟨fun _ => rfl, ?_⟩
              refine RunO.skip rfl rfl rfl ?_
              refine RunO.quiet rfl rfl rfl (quiet_eq (sem_pick true ((Value.bool true)) rfl rfl ⟨rfl, rfl⟩)) ?_
              refine Run.condT rfl ?_
              refine Run.seq ?_
              refine Run.ops0 (idx := [0]) rfl ?_
              obtain ⟨h176, hst, hS⟩ := hS
              refine Run.go rfl rfl rfl (sem_store1 ⟨k8, 0, none⟩ ((Value.bool false)) h176 rfl rfl rfl TF.sz_4 hst ?_)
              refine Run.region_end ?_
              obtain ⟨b177, hl0, hS⟩ := hS
              refine Run.ret ⟨.inr rfl, ?_⟩
              exact ⟨⟨k8, 0, none⟩, (Value.bool b177), rfl, loadH1 TF.agg_4 hl0, hS.imp fun h' hq => ⟨(b177), rfl, hq⟩⟩
          · have hS := hF hb161; clear hT hF
            refine RunO.quiet rfl rfl rfl (quiet_eq (sem_binI .i64 (i31) (i35) (.bool true) rfl rfl (binI_neq_f hb161) ⟨rfl, rfl⟩)) ?_
            refine RunO.quiet rfl rfl rfl (quiet_eq (sem_pick false ((Value.bool true)) rfl rfl ⟨rfl, rfl⟩)) ?_
            refine RunO.quiet rfl rfl rfl (quiet_eq (sem_move ((Value.bool true)) rfl ⟨rfl, rfl⟩)) ?_
            refine RunO.skip rfl rfl rfl ?_
            refine RunO.skip rfl rfl rfl ?_
            refine RunO.skip rfl rfl rfl ?_
            refine OpH.no rfl rfl rfl ⟨fun _ => rfl, ?_⟩
            refine RunO.skip rfl rfl rfl ?_
            refine RunO.quiet rfl rfl rfl (quiet_eq (sem_pick true ((Value.bool true)) rfl rfl ⟨rfl, rfl⟩)) ?_
            refine RunO.quiet rfl rfl rfl (quiet_eq (sem_move ((Value.bool true)) rfl ⟨rfl, rfl⟩)) ?_
            refine RunO.skip rfl rfl rfl ?_
            refine RunO.skip rfl rfl rfl ?_
            refine RunO.skip rfl rfl rfl ?_
            refine RunO.skip rfl rfl rfl ?_
            refine RunO.skip rfl rfl rfl ?_
            refine OpH.no rfl rfl rfl ⟨fun _ => rfl, ?_⟩
            refine RunO.skip rfl rfl rfl ?_
            refine RunO.quiet rfl rfl rfl (quiet_eq (sem_pick true ((Value.bool true)) rfl rfl ⟨rfl, rfl⟩)) ?_
            refine Run.condT rfl ?_
            refine Run.seq ?_
            refine Run.ops0 (idx := [0]) rfl ?_
            obtain ⟨h178, hst, hS⟩ := hS
            refine Run.go rfl rfl rfl (sem_store1 ⟨k8, 0, none⟩ ((Value.bool false)) h178 rfl rfl rfl TF.sz_4 hst ?_)
            refine Run.region_end ?_
            obtain ⟨b179, hl0, hS⟩ := hS
            refine Run.ret ⟨.inr rfl, ?_⟩
            exact ⟨⟨k8, 0, none⟩, (Value.bool b179), rfl, loadH1 TF.agg_4 hl0, hS.imp fun h' hq => ⟨(b179), rfl, hq⟩⟩
        · have hS := hF hb160; clear hT hF
          refine RunO.quiet rfl rfl rfl (quiet_eq (sem_binI .i64 (i30) (i34) (.bool true) rfl rfl (binI_neq_f hb160) ⟨rfl, rfl⟩)) ?_
          refine RunO.quiet rfl rfl rfl (quiet_eq (sem_move ((Value.bool true)) rfl ⟨rfl, rfl⟩)) ?_
          refine RunO.skip rfl rfl rfl ?_
          refine RunO.skip rfl rfl rfl ?_
          refine RunO.skip rfl rfl rfl ?_
          refine RunO.quiet rfl rfl rfl (quiet_eq (sem_pick true ((Value.bool true)) rfl rfl ⟨rfl, rfl⟩)) ?_
          refine RunO.quiet rfl rfl rfl (quiet_eq (sem_move ((Value.bool true)) rfl ⟨rfl, rfl⟩)) ?_
          refine RunO.skip rfl rfl rfl ?_
          refine RunO.skip rfl rfl rfl ?_
          refine RunO.skip rfl rfl rfl ?_
          refine OpH.no rfl rfl rfl ⟨fun _ => rfl, ?_⟩
          refine RunO.skip rfl rfl rfl ?_
          refine RunO.quiet rfl rfl rfl (quiet_eq (sem_pick true ((Value.bool true)) rfl rfl ⟨rfl, rfl⟩)) ?_
          refine RunO.quiet rfl rfl rfl (quiet_eq (sem_move ((Value.bool true)) rfl ⟨rfl, rfl⟩)) ?_
          refine RunO.skip rfl rfl rfl ?_
          refine RunO.skip rfl rfl rfl ?_
          refine RunO.skip rfl rfl rfl ?_
          refine RunO.skip rfl rfl rfl ?_
          refine RunO.skip rfl rfl rfl ?_
          refine OpH.no rfl rfl rfl ⟨fun _ => rfl, ?_⟩
          refine RunO.skip rfl rfl rfl ?_
          refine RunO.quiet rfl rfl rfl (quiet_eq (sem_pick true ((Value.bool true)) rfl rfl ⟨rfl, rfl⟩)) ?_
          refine Run.condT rfl ?_
          refine Run.seq ?_
          refine Run.ops0 (idx := [0]) rfl ?_
          obtain ⟨h180, hst, hS⟩ := hS
          refine Run.go rfl rfl rfl (sem_store1 ⟨k8, 0, none⟩ ((Value.bool false)) h180 rfl rfl rfl TF.sz_4 hst ?_)
          refine Run.region_end ?_
          obtain ⟨b181, hl0, hS⟩ := hS
          refine Run.ret ⟨.inr rfl, ?_⟩
          exact ⟨⟨k8, 0, none⟩, (Value.bool b181), rfl, loadH1 TF.agg_4 hl0, hS.imp fun h' hq => ⟨(b181), rfl, hq⟩⟩
      refine Run.seq ?_
      refine Run.ops0 (idx := [0, 1, 2]) rfl ?_
      refine Run.go rfl rfl rfl (sem_move ((Value.slice a3 n4 c5)) rfl ?_)
      refine Run.go rfl rfl rfl (sem_lenSl a3 n4 c5 rfl TF.sl_35 ?_)
      refine Run.go rfl rfl rfl (sem_move ((Value.int .i64 (0))) rfl ?_)
      refine Run.region_end ?_
      refine Run.block ?_
      obtain ⟨J187, m185, h0, hS⟩ := hS
      refine Run.of_fin (h0.imp fun h' h0 => ?_)
      refine Run.loop (σ := Int × Nat) (fun x e h => J187 x.1 x.2 h ∧ Agree [(3, (Value.int .i64 (i6))), (8, (Value.pointer (some ⟨k8, 0, none⟩))), (9, (Value.pointer (some ⟨k20, 0, none⟩))), (10, (Value.pointer (some ⟨k22, 0, none⟩))), (42, (Value.slice a3 n4 c5)), (43, (Value.int .i64 ((n4 : Nat)))), (44, (Value.int .i64 (x.1)))] e) (fun x => x.2) ((0), m185) ⟨h0, ⟨rfl, rfl, rfl, rfl, rfl, rfl, rfl, trivial⟩⟩ ?_; clear h0
      rintro ⟨i182, m184⟩ e h183 ⟨hJ, hag⟩ ih186
      have hS := hS i182 m184 h183 hJ; clear hJ
      refine Run.env hag ?_; clear hag
      refine Run.seq ?_
      refine Run.ops0 (idx := [0]) rfl ?_
      obtain ⟨hT, hF⟩ := hS
      by_cases hb188 : (i182 : Int) < ((n4 : Nat))
      · have hS := hT hb188; clear hT hF
        refine Run.go rfl rfl rfl (sem_binI .i64 (i182) ((n4 : Nat)) (.bool true) rfl rfl (binI_lss_t hb188) ?_)
        refine Run.region_end ?_
        refine Run.seq ?_
        refine Run.condT rfl ?_
        refine Run.skip ?_
        refine Run.seq ?_
        refine Run.block ?_
        refine Run.seq ?_
        refine Run.ops0 (idx := [0, 1, 2, 3]) rfl ?_
        obtain ⟨A189, e190, hi0, hi1, hS⟩ := hS
        refine Run.go rfl rfl rfl (sem_indexAddrS A189 n4 c5 .i64 (i182) (congrArg (fun a => Value.slice a n4 c5) e190) rfl TF.slc_35 hi0 hi1 ?_)
        obtain ⟨i191, i192, i193, hl, hS⟩ := hS
        refine Run.go rfl rfl rfl (sem_loadN (Addr.add A189 (Int.toNat (i182) * 3)) [(Value.int .i64 (i191)), (Value.int .i64 (i192)), (Value.int .i64 (i193))] rfl TF.agg_40 TF.sz_40 hl ?_)
        refine Run.go rfl rfl rfl (sem_allocN [(Value.int .i64 (0)), (Value.int .i64 (0)), (Value.int .i64 (0))] TF.zero_40 (fun k194 hb1 hb2 h195 hb3 => ?_))
        have hS := hS k194 hb1 hb2 h195 hb3
        obtain ⟨h196, hst, hS⟩ := hS
        refine Run.go rfl rfl rfl (sem_storeN ⟨k194, 0, none⟩ [(Value.int .i64 (i191)), (Value.int .i64 (i192)), (Value.int .i64 (i193))] h196 rfl rfl TF.sz_40 hst ?_)
        refine Run.region_end ?_
        refine Run.seq ?_
        refine Run.ops0 (idx := [0, 1, 2, 3, 4]) rfl ?_
        obtain ⟨p197, hl, hS⟩ := hS
        refine Run.go rfl rfl rfl (sem_load1 ⟨k22, 0, none⟩ ((Value.pointer p197)) rfl TF.agg_54 hl ?_)
        refine Run.go rfl rfl rfl (sem_fieldAddr ⟨k194, 0, none⟩ 0 rfl TF.fld_40_0 ?_)
        obtain ⟨i198, hl, hS⟩ := hS
        refine Run.go rfl rfl rfl (sem_load1 ⟨k194, 0, none⟩ ((Value.int .i64 (i198))) rfl TF.agg_3 hl ?_)
        refine Run.go rfl rfl rfl (sem_callL [(Value.pointer p197), (Value.int .i64 (i198))] (TF.goes_29) rfl rfl (Spec.mono hS fun v h199 hv => ?_))
        obtain ⟨b200, rfl, hS⟩ := hv
        obtain ⟨hT, hF⟩ := hS
        cases b200
        · have hS := hF rfl; clear hT hF
          refine Run.go rfl rfl rfl (sem_assign ((Value.bool false)) rfl ?_)
          refine Run.region_end ?_
          refine Run.seq ?_
          refine Run.seq ?_
          refine Run.ops0 (idx := [0, 1, 2, 3, 4, 5, 6, 7, 8, 9]) rfl ?_
          obtain ⟨p201, hl, hS⟩ := hS
          refine Run.go rfl rfl rfl (sem_load1 ⟨k20, 0, none⟩ ((Value.pointer p201)) rfl TF.agg_36 hl ?_)
          refine Run.go rfl rfl rfl (sem_fieldAddr ⟨k194, 0, none⟩ 0 rfl TF.fld_40_0 ?_)
          obtain ⟨i202, hl, hS⟩ := hS
          refine Run.go rfl rfl rfl (sem_load1 ⟨k194, 0, none⟩ ((Value.int .i64 (i202))) rfl TF.agg_3 hl ?_)
          refine Run.go rfl rfl rfl (sem_fieldAddr ⟨k194, 0, none⟩ 1 rfl TF.fld_40_1 ?_)
          obtain ⟨i203, hl, hS⟩ := hS
          refine Run.go rfl rfl rfl (sem_load1 ⟨k194, 1, none⟩ ((Value.int .i64 (i203))) rfl TF.agg_3 hl ?_)
          refine Run.go rfl rfl rfl (sem_fieldAddr ⟨k194, 0, none⟩ 2 rfl TF.fld_40_2 ?_)
          obtain ⟨i204, hl, hS⟩ := hS
          refine Run.go rfl rfl rfl (sem_load1 ⟨k194, 2, none⟩ ((Value.int .i64 (i204))) rfl TF.agg_3 hl ?_)
          refine Run.go rfl rfl rfl (sem_callL [(Value.pointer p201), (Value.int .i64 (i202)), (Value.int .i64 (i203)), (Value.int .i64 (i204))] (TF.goes_22) rfl rfl (Spec.mono hS fun v h205 hv => ?_))
          obtain ⟨b206, rfl, hS⟩ := hv
          refine Run.go rfl rfl rfl (sem_move ((Value.bool false)) rfl ?_)
          obtain ⟨hT, hF⟩ := hS
          by_cases hb207 : b206 = false
          · have hS := hT hb207; clear hT hF
            refine Run.go rfl rfl rfl (sem_boolEqT b206 false (.inr rfl) false rfl rfl TF.bool_4 hb207 rfl ?_)
            refine Run.region_end ?_
            refine Run.condF rfl ?_
            refine Run.skip ?_
            refine Run.seq ?_
            refine Run.ops0 (idx := [0]) rfl ?_
            refine Run.go rfl rfl rfl (sem_move ((Value.bool false)) rfl ?_)
            refine Run.region_end ?_
            refine Run.condF rfl ?_
            refine Run.skip ?_
            refine Run.inBlock ?_
            refine Run.ops0 (idx := [0, 1]) rfl ?_
            refine Run.go rfl rfl rfl (sem_binI .i64 (i182) (1) ((Value.int .i64 (IntKind.wrap .i64 ((i182) + (1))))) rfl rfl rfl ?_)
            refine Run.go rfl rfl rfl (sem_move ((Value.int .i64 (IntKind.wrap .i64 ((i182) + (1))))) rfl ?_)
            refine Run.region_end ?_
            exact Run.of_fin (hS.imp fun h' ⟨m', hm, hS⟩ => ih186 ((IntKind.wrap .i64 ((i182) + (1))), m') _ _ ⟨hS, ⟨rfl, rfl, rfl, rfl, rfl, rfl, rfl, trivial⟩⟩ hm)
          · have hS := hF hb207; clear hT hF
            refine Run.go rfl rfl rfl (sem_boolEqF b206 false (.inr rfl) true rfl rfl TF.bool_4 hb207 rfl ?_)
            refine Run.region_end ?_
            refine Run.condT rfl ?_
            refine Run.seq ?_
            refine Run.ops0 (idx := [0]) rfl ?_
            obtain ⟨h208, hst, hS⟩ := hS
            refine Run.go rfl rfl rfl (sem_store1 ⟨k8, 0, none⟩ ((Value.bool false)) h208 rfl rfl rfl TF.sz_4 hst ?_)
            refine Run.region_end ?_
            obtain ⟨b209, hl0, hS⟩ := hS
            refine Run.ret ⟨.inr rfl, ?_⟩
            exact ⟨⟨k8, 0, none⟩, (Value.bool b209), rfl, loadH1 TF.agg_4 hl0, hS.imp fun h' hq => ⟨(b209), rfl, hq⟩⟩
        · have hS := hT rfl; clear hT hF
          refine Run.go rfl rfl rfl (sem_assign ((Value.bool true)) rfl ?_)
          refine Run.region_end ?_
          refine Run.seq ?_
          refine Run.seq ?_
          refine Run.ops0 (idx := [0, 1, 2, 3, 4, 5, 6, 7, 8, 9]) rfl ?_
          obtain ⟨p210, hl, hS⟩ := hS
          refine Run.go rfl rfl rfl (sem_load1 ⟨k20, 0, none⟩ ((Value.pointer p210)) rfl TF.agg_36 hl ?_)
          refine Run.go rfl rfl rfl (sem_fieldAddr ⟨k194, 0, none⟩ 0 rfl TF.fld_40_0 ?_)
          obtain ⟨i211, hl, hS⟩ := hS
          refine Run.go rfl rfl rfl (sem_load1 ⟨k194, 0, none⟩ ((Value.int .i64 (i211))) rfl TF.agg_3 hl ?_)
          refine Run.go rfl rfl rfl (sem_fieldAddr ⟨k194, 0, none⟩ 1 rfl TF.fld_40_1 ?_)
          obtain ⟨i212, hl, hS⟩ := hS
          refine Run.go rfl rfl rfl (sem_load1 ⟨k194, 1, none⟩ ((Value.int .i64 (i212))) rfl TF.agg_3 hl ?_)
          refine Run.go rfl rfl rfl (sem_fieldAddr ⟨k194, 0, none⟩ 2 rfl TF.fld_40_2 ?_)
          obtain ⟨i213, hl, hS⟩ := hS
          refine Run.go rfl rfl rfl (sem_load1 ⟨k194, 2, none⟩ ((Value.int .i64 (i213))) rfl TF.agg_3 hl ?_)
          refine Run.go rfl rfl rfl (sem_callL [(Value.pointer p210), (Value.int .i64 (i211)), (Value.int .i64 (i212)), (Value.int .i64 (i213))] (TF.goes_22) rfl rfl (Spec.mono hS fun v h214 hv => ?_))
          obtain ⟨b215, rfl, hS⟩ := hv
          refine Run.go rfl rfl rfl (sem_move ((Value.bool true)) rfl ?_)
          obtain ⟨hT, hF⟩ := hS
          by_cases hb216 : b215 = true
          · have hS := hT hb216; clear hT hF
            refine Run.go rfl rfl rfl (sem_boolEqT b215 true (.inr rfl) false rfl rfl TF.bool_4 hb216 rfl ?_)
            refine Run.region_end ?_
            refine Run.condF rfl ?_
            refine Run.skip ?_
            refine Run.seq ?_
            refine Run.ops0 (idx := [0]) rfl ?_
            refine Run.go rfl rfl rfl (sem_move ((Value.bool true)) rfl ?_)
            refine Run.region_end ?_
            refine Run.condT rfl ?_
            obtain ⟨p217, hl, hS⟩ := hS
            have f218 := hl
            obtain ⟨p219, hl, hS⟩ := hS
            have f220 := hl
            obtain ⟨A221, e222, hS⟩ := hS
            skip
            skip
            obtain ⟨a225, n226, c227, hl, hS⟩ := hS
            have f228 := hl
            obtain ⟨i229, i230, i231, hl, hS⟩ := hS
            have f232 := hl
            refine Run.draw (fun h' => cellH B h' ⟨k22, 0, none⟩ = some (Value.pointer p217) ∧ cellH B h' ⟨k22, 0, none⟩ = some (Value.pointer p219) ∧ cellH B h' (Addr.add A221 2) = some (Value.slice a225 n226 c227) ∧ CellsAt B h' ⟨k194, 0, none⟩ 0 [(Value.int .i64 (i229)), (Value.int .i64 (i230)), (Value.int .i64 (i231))] ∧ True) [10] [.q 0, .q 1, .q 2, .q 3, .q 4, .q 5, .x 6, .x 7, .x 8, .q 9, .x 10] TF.mixed (by kernel_rfl) ⟨f218, f220, f228, f232, trivial⟩ ?_
            refine RunO.quiet rfl rfl rfl (fun h' hC => sem_load1 ⟨k22, 0, none⟩ ((Value.pointer p217)) rfl TF.agg_54 hC.1 ⟨rfl, rfl⟩) ?_
            refine RunO.quiet rfl rfl rfl (fun h' hC => sem_load1 ⟨k22, 0, none⟩ ((Value.pointer p219)) rfl TF.agg_54 hC.2.1 ⟨rfl, rfl⟩) ?_
            refine RunO.quiet rfl rfl rfl (fun h' hC => sem_nilCheck A221 (congrArg Value.pointer e222) ⟨rfl, rfl⟩) ?_
            refine RunO.quiet rfl rfl rfl (fun h' hC => sem_fieldAddr A221 2 rfl TF.fld_56_2 ⟨rfl, rfl⟩) ?_
            refine RunO.quiet rfl rfl rfl (fun h' hC => sem_load1 (Addr.add A221 2) ((Value.slice a225 n226 c227)) rfl TF.agg_35 hC.2.2.1 ⟨rfl, rfl⟩) ?_
            refine RunO.quiet rfl rfl rfl (fun h' hC => sem_loadN ⟨k194, 0, none⟩ [(Value.int .i64 (i229)), (Value.int .i64 (i230)), (Value.int .i64 (i231))] rfl TF.agg_40 TF.sz_40 hC.2.2.2.1 ⟨rfl, rfl⟩) ?_
            refine OpH.go rfl rfl rfl (sem_buildSliceL [(0, (Value.agg #[(Value.int .i64 (i229)), (Value.int .i64 (i230)), (Value.int .i64 (i231))]))] [(Value.int .i64 (i229)), (Value.int .i64 (i230)), (Value.int .i64 (i231))] TF.slc_35 TF.zero_40 rfl (by decide) (by decide) rfl rfl (fun k233 hb1 hb2 h234 hb3 => ?_))
            have hS := hS k233 hb1 hb2 h234 hb3
            obtain ⟨g235, g236, g237, g238, hS⟩ := hS
            refine ⟨fun _ => ⟨g235, g236, g237, g238, trivial⟩, ?_⟩
            refine OpH.go rfl rfl rfl (sem_appendL [(Value.slice a225 n226 c227), (Value.slice (some ⟨k233, 0, none⟩) 1 1)] rfl (semH_mono (fun v h239 hv => ?_) hS))
            obtain ⟨a240, n241, c242, rfl, hS⟩ := hv
            obtain ⟨g243, g244, g245, g246, hS⟩ := hS
            refine ⟨fun _ => ⟨g243, g244, g245, g246, trivial⟩, ?_⟩
            obtain ⟨A247, e248, hS⟩ := hS
            refine OpH.go rfl rfl rfl (sem_nilCheck A247 (congrArg Value.pointer e248) ?_)
            refine ⟨fun _ => ⟨g243, g244, g245, g246, trivial⟩, ?_⟩
            refine RunO.quiet rfl rfl rfl (fun h' hC => sem_fieldAddr A247 2 rfl TF.fld_56_2 ⟨rfl, rfl⟩) ?_
            obtain ⟨h249, hst, hS⟩ := hS
            refine OpH.go rfl rfl rfl (sem_store1 (Addr.add A247 2) ((Value.slice a240 n241 c242)) h249 rfl rfl rfl TF.sz_35 hst ?_)
            refine ⟨fun hz => Bool.noConfusion hz, ?_⟩
            refine Run.inBlock ?_
            refine Run.ops0 (idx := [0, 1]) rfl ?_
            refine Run.go rfl rfl rfl (sem_binI .i64 (i182) (1) ((Value.int .i64 (IntKind.wrap .i64 ((i182) + (1))))) rfl rfl rfl ?_)
            refine Run.go rfl rfl rfl (sem_move ((Value.int .i64 (IntKind.wrap .i64 ((i182) + (1))))) rfl ?_)
            refine Run.region_end ?_
            exact Run.of_fin (hS.imp fun h' ⟨m', hm, hS⟩ => ih186 ((IntKind.wrap .i64 ((i182) + (1))), m') _ _ ⟨hS, ⟨rfl, rfl, rfl, rfl, rfl, rfl, rfl, trivial⟩⟩ hm)
          · have hS := hF hb216; clear hT hF
            refine Run.go rfl rfl rfl (sem_boolEqF b215 true (.inr rfl) true rfl rfl TF.bool_4 hb216 rfl ?_)
            refine Run.region_end ?_
            refine Run.condT rfl ?_
            refine Run.seq ?_
            refine Run.ops0 (idx := [0]) rfl ?_
            obtain ⟨h250, hst, hS⟩ := hS
            refine Run.go rfl rfl rfl (sem_store1 ⟨k8, 0, none⟩ ((Value.bool false)) h250 rfl rfl rfl TF.sz_4 hst ?_)
            refine Run.region_end ?_
            obtain ⟨b251, hl0, hS⟩ := hS
            refine Run.ret ⟨.inr rfl, ?_⟩
            exact ⟨⟨k8, 0, none⟩, (Value.bool b251), rfl, loadH1 TF.agg_4 hl0, hS.imp fun h' hq => ⟨(b251), rfl, hq⟩⟩
      · have hS := hF hb188; clear hT hF
        refine Run.go rfl rfl rfl (sem_binI .i64 (i182) ((n4 : Nat)) (.bool false) rfl rfl (binI_lss_f hb188) ?_)
        refine Run.region_end ?_
        refine Run.seq ?_
        refine Run.condF rfl ?_
        refine Run.exit rfl ?_
        exact Run.of_fin (hS.imp fun h' hS => j26 _ _ ⟨⟨rfl, rfl, rfl, rfl, trivial⟩, hS⟩)
    refine Run.seq ?_
    refine Run.ops0 (idx := [0, 1, 2, 3, 4, 5, 6]) rfl ?_
    refine Run.go rfl rfl rfl (sem_move ((Value.int .i64 (i1))) rfl ?_)
    obtain ⟨hT, hF⟩ := hS
    by_cases hb252 : (i1 : Int) > (64)
    · have hS := hT hb252; clear hT hF
      refine Run.go rfl rfl rfl (sem_binI .i64 (i1) (64) (.bool true) rfl rfl (binI_gtr_t hb252) ?_)
      refine Run.go rfl rfl rfl (sem_move ((Value.bool true)) rfl ?_)
      refine Run.no rfl rfl rfl ?_
      refine Run.no rfl rfl rfl ?_
      refine Run.no rfl rfl rfl ?_
      refine Run.go rfl rfl rfl (sem_pick true ((Value.bool true)) rfl rfl ?_)
      refine Run.region_end ?_
      refine Run.condT rfl ?_
      refine Run.seq ?_
      refine Run.ops0 (idx := [0]) rfl ?_
      obtain ⟨h253, hst, hS⟩ := hS
      refine Run.go rfl rfl rfl (sem_store1 ⟨k8, 0, none⟩ ((Value.bool true)) h253 rfl rfl rfl TF.sz_4 hst ?_)
      refine Run.region_end ?_
      obtain ⟨b254, hl0, hS⟩ := hS
      refine Run.ret ⟨.inr rfl, ?_⟩
      exact ⟨⟨k8, 0, none⟩, (Value.bool b254), rfl, loadH1 TF.agg_4 hl0, hS.imp fun h' hq => ⟨(b254), rfl, hq⟩⟩
    · have hS := hF hb252; clear hT hF
      refine Run.go rfl rfl rfl (sem_binI .i64 (i1) (64) (.bool false) rfl rfl (binI_gtr_f hb252) ?_)
      refine Run.go rfl rfl rfl (sem_move ((Value.bool false)) rfl ?_)
      refine Run.go rfl rfl rfl (sem_move ((Value.slice a3 n4 c5)) rfl ?_)
      refine Run.go rfl rfl rfl (sem_lenSl a3 n4 c5 rfl TF.sl_35 ?_)
      obtain ⟨hT, hF⟩ := hS
      by_cases hb255 : ((n4 : Nat) : Int) > (100)
      · have hS := hT hb255; clear hT hF
        refine Run.go rfl rfl rfl (sem_binI .i64 ((n4 : Nat)) (100) (.bool true) rfl rfl (binI_gtr_t hb255) ?_)
        refine Run.go rfl rfl rfl (sem_pick false ((Value.bool true)) rfl rfl ?_)
        refine Run.region_end ?_
        refine Run.condT rfl ?_
        refine Run.seq ?_
        refine Run.ops0 (idx := [0]) rfl ?_
        obtain ⟨h256, hst, hS⟩ := hS
        refine Run.go rfl rfl rfl (sem_store1 ⟨k8, 0, none⟩ ((Value.bool true)) h256 rfl rfl rfl TF.sz_4 hst ?_)
        refine Run.region_end ?_
        obtain ⟨b257, hl0, hS⟩ := hS
        refine Run.ret ⟨.inr rfl, ?_⟩
        exact ⟨⟨k8, 0, none⟩, (Value.bool b257), rfl, loadH1 TF.agg_4 hl0, hS.imp fun h' hq => ⟨(b257), rfl, hq⟩⟩
      · have hS := hF hb255; clear hT hF
        refine Run.go rfl rfl rfl (sem_binI .i64 ((n4 : Nat)) (100) (.bool false) rfl rfl (binI_gtr_f hb255) ?_)
        refine Run.go rfl rfl rfl (sem_pick false ((Value.bool false)) rfl rfl ?_)
        refine Run.region_end ?_
        refine Run.condF rfl ?_
        refine Run.skip ?_
        exact Run.of_fin (hS.imp fun h' hS => j14 _ _ ⟨⟨rfl, rfl, rfl, rfl, rfl, trivial⟩, hS⟩)
set_option maxHeartbeats 4000000 in
theorem C_countermandlaw08_alive.of {B : RO} {h : Heap} {Q : Bool → Heap → Prop} (hS : S_countermandlaw08_alive B h Q) : C_countermandlaw08_alive B h Q := by
  unfold S_countermandlaw08_alive at hS
  unfold C_countermandlaw08_alive
  refine Spec.of_run Try.func20 (N := 30) (rs := [ResultVar.tmp 0]) rfl rfl rfl (Nat.le_of_ble_eq_true rfl) ?_
  refine Run.seq ?_
  refine Run.ops0 (idx := [0]) rfl ?_
  refine Run.go rfl rfl rfl (sem_assign ((Value.bool false)) rfl ?_)
  refine Run.region_end ?_
  refine Run.seq ?_
  refine Run.ops0 (idx := [0, 1]) rfl ?_
  refine Run.go rfl rfl rfl (sem_callL [(Value.int .i64 (2)), (Value.int .i64 (7))] (TF.goes_21) rfl rfl (Spec.mono hS fun v h2 hv => ?_))
  obtain ⟨p3, rfl, hS⟩ := hv
  refine Run.go rfl rfl rfl (sem_assign ((Value.pointer p3)) rfl ?_)
  refine Run.region_end ?_
  refine Run.seq ?_
  refine Run.ops0 (idx := [0, 1, 2, 3, 4, 5, 6]) rfl ?_
  refine Run.go rfl rfl rfl (sem_move ((Value.pointer p3)) rfl ?_)
  refine Run.go rfl rfl rfl (sem_callL [(Value.pointer p3), (Value.int .i64 (1))] (TF.goes_30) rfl rfl (Spec.mono hS fun v h4 hv => ?_))
  obtain ⟨i5, i6, rfl, hS⟩ := hv
  refine Run.go rfl rfl rfl (sem_move ((Value.tuple #[(Value.int .i64 (i5)), (Value.int .i64 (i6))])) rfl ?_)
  refine Run.go rfl rfl rfl (sem_extract #[(Value.int .i64 (i5)), (Value.int .i64 (i6))] ((Value.int .i64 (i5))) rfl rfl ?_)
  refine Run.go rfl rfl rfl (sem_extract #[(Value.int .i64 (i5)), (Value.int .i64 (i6))] ((Value.int .i64 (i6))) rfl rfl ?_)
  refine Run.go rfl rfl rfl (sem_assign ((Value.int .i64 (i5))) rfl ?_)
  refine Run.go rfl rfl rfl (sem_assign ((Value.int .i64 (i6))) rfl ?_)
  refine Run.region_end ?_
  refine Run.seq ?_
  refine Run.ops0 (idx := [0, 1, 2, 3, 4, 5, 6, 7, 8, 9, 10, 11, 12, 13, 14, 15, 16, 17, 18, 19, 20]) rfl ?_
  refine Run.go rfl rfl rfl (sem_move ((Value.int .i64 (i5))) rfl ?_)
  obtain ⟨hT, hF⟩ := hS
  by_cases hb7 : (i5 : Int) = 7
  · have hS := hT hb7; clear hT hF
    refine Run.go rfl rfl rfl (sem_binI .i64 (i5) (7) (.bool true) rfl rfl (binI_eql_t hb7) ?_)
    refine Run.go rfl rfl rfl (sem_move ((Value.bool true)) rfl ?_)
    refine Run.go rfl rfl rfl (sem_move ((Value.int .i64 (i6))) rfl ?_)
    obtain ⟨hT, hF⟩ := hS
    by_cases hb8 : (i6 : Int) = 0
    · have hS := hT hb8; clear hT hF
      refine Run.go rfl rfl rfl (sem_binI .i64 (i6) (0) (.bool true) rfl rfl (binI_eql_t hb8) ?_)
      refine Run.go rfl rfl rfl (sem_pick true ((Value.bool true)) rfl rfl ?_)
      refine Run.go rfl rfl rfl (sem_move ((Value.bool true)) rfl ?_)
      refine Run.go rfl rfl rfl (sem_move ((Value.pointer p3)) rfl ?_)
      refine Run.go rfl rfl rfl (sem_callL [(Value.pointer p3)] (TF.goes_33) rfl rfl (Spec.mono hS fun v h9 hv => ?_))
      obtain ⟨i10, rfl, hS⟩ := hv
      obtain ⟨hT, hF⟩ := hS
      by_cases hb11 : (i10 : Int) = 2
      · have hS := hT hb11; clear hT hF
        refine Run.go rfl rfl rfl (sem_binI .i64 (i10) (2) (.bool true) rfl rfl (binI_eql_t hb11) ?_)
        refine Run.go rfl rfl rfl (sem_pick true ((Value.bool true)) rfl rfl ?_)
        refine Run.go rfl rfl rfl (sem_move ((Value.bool true)) rfl ?_)
        refine Run.go rfl rfl rfl (sem_move ((Value.pointer p3)) rfl ?_)
        refine Run.go rfl rfl rfl (sem_callL [(Value.pointer p3), (Value.int .i64 (1)), (Value.int .i64 (5)), (Value.int .i64 (3))] (TF.goes_22) rfl rfl (Spec.mono hS fun v h12 hv => ?_))
        obtain ⟨b13, rfl, hS⟩ := hv
        obtain ⟨hT, hF⟩ := hS
        cases b13
        · have hS := hF rfl; clear hT hF
          refine Run.go rfl rfl rfl (sem_pick true ((Value.bool false)) rfl rfl ?_)
          refine Run.go rfl rfl rfl (sem_move ((Value.bool false)) rfl ?_)
          refine Run.no rfl rfl rfl ?_
          refine Run.no rfl rfl rfl ?_
          refine Run.no rfl rfl rfl ?_
          refine Run.go rfl rfl rfl (sem_pick false ((Value.bool false)) rfl rfl ?_)
          refine Run.go rfl rfl rfl (sem_assign ((Value.bool false)) rfl ?_)
          refine Run.region_end ?_
          refine Run.ret ⟨.inr rfl, ?_⟩
          exact hS.imp fun h' hq => ⟨(false), rfl, hq⟩
        · have hS := hT rfl; clear hT hF
          refine Run.go rfl rfl rfl (sem_pick true ((Value.bool true)) rfl rfl ?_)
          refine Run.go rfl rfl rfl (sem_move ((Value.bool true)) rfl ?_)
          refine Run.go rfl rfl rfl (sem_move ((Value.pointer p3)) rfl ?_)
          refine Run.go rfl rfl rfl (sem_callL [(Value.pointer p3), (Value.int .i64 (1))] (TF.goes_32) rfl rfl (Spec.mono hS fun v h14 hv => ?_))
          obtain ⟨i15, rfl, hS⟩ := hv
          refine Run.go rfl rfl rfl (sem_binI .i64 (i15) (3) ((Value.bool ((i15 : Int) == (3)))) rfl rfl rfl ?_)
          refine Run.go rfl rfl rfl (sem_pick true ((Value.bool ((i15 : Int) == (3)))) rfl rfl ?_)
          refine Run.go rfl rfl rfl (sem_assign ((Value.bool ((i15 : Int) == (3)))) rfl ?_)
          refine Run.region_end ?_
          refine Run.ret ⟨.inr rfl, ?_⟩
          exact hS.imp fun h' hq => ⟨(((i15 : Int) == (3))), rfl, hq⟩
      · have hS := hF hb11; clear hT hF
        refine Run.go rfl rfl rfl (sem_binI .i64 (i10) (2) (.bool false) rfl rfl (binI_eql_f hb11) ?_)
        refine Run.go rfl rfl rfl (sem_pick true ((Value.bool false)) rfl rfl ?_)
        refine Run.go rfl rfl rfl (sem_move ((Value.bool false)) rfl ?_)
        refine Run.no rfl rfl rfl ?_
        refine Run.no rfl rfl rfl ?_
        refine Run.go rfl rfl rfl (sem_pick false ((Value.bool false)) rfl rfl ?_)
        refine Run.go rfl rfl rfl (sem_move ((Value.bool false)) rfl ?_)
        refine Run.no rfl rfl rfl ?_
        refine Run.no rfl rfl rfl ?_
        refine Run.no rfl rfl rfl ?_
        refine Run.go rfl rfl rfl (sem_pick false ((Value.bool false)) rfl rfl ?_)
        refine Run.go rfl rfl rfl (sem_assign ((Value.bool false)) rfl ?_)
        refine Run.region_end ?_
        refine Run.ret ⟨.inr rfl, ?_⟩
        exact hS.imp fun h' hq => ⟨(false), rfl, hq⟩
    · have hS := hF hb8; clear hT hF
      refine Run.go rfl rfl rfl (sem_binI .i64 (i6) (0) (.bool false) rfl rfl (binI_eql_f hb8) ?_)
      refine Run.go rfl rfl rfl (sem_pick true ((Value.bool false)) rfl rfl ?_)
      refine Run.go rfl rfl rfl (sem_move ((Value.bool false)) rfl ?_)
      refine Run.no rfl rfl rfl ?_
      refine Run.no rfl rfl rfl ?_
      refine Run.no rfl rfl rfl ?_
      refine Run.go rfl rfl rfl (sem_pick false ((Value.bool false)) rfl rfl ?_)
      refine Run.go rfl rfl rfl (sem_move ((Value.bool false)) rfl ?_)
      refine Run.no rfl rfl rfl ?_
      refine Run.no rfl rfl rfl ?_
      refine Run.go rfl rfl rfl (sem_pick false ((Value.bool false)) rfl rfl ?_)
      refine Run.go rfl rfl rfl (sem_move ((Value.bool false)) rfl ?_)
      refine Run.no rfl rfl rfl ?_
      refine Run.no rfl rfl rfl ?_
      refine Run.no rfl rfl rfl ?_
      refine Run.go rfl rfl rfl (sem_pick false ((Value.bool false)) rfl rfl ?_)
      refine Run.go rfl rfl rfl (sem_assign ((Value.bool false)) rfl ?_)
      refine Run.region_end ?_
      refine Run.ret ⟨.inr rfl, ?_⟩
      exact hS.imp fun h' hq => ⟨(false), rfl, hq⟩
  · have hS := hF hb7; clear hT hF
    refine Run.go rfl rfl rfl (sem_binI .i64 (i5) (7) (.bool false) rfl rfl (binI_eql_f hb7) ?_)
    refine Run.go rfl rfl rfl (sem_move ((Value.bool false)) rfl ?_)
    refine Run.no rfl rfl rfl ?_
    refine Run.no rfl rfl rfl ?_
    refine Run.go rfl rfl rfl (sem_pick false ((Value.bool false)) rfl rfl ?_)
    refine Run.go rfl rfl rfl (sem_move ((Value.bool false)) rfl ?_)
    refine Run.no rfl rfl rfl ?_
    refine Run.no rfl rfl rfl ?_
    refine Run.no rfl rfl rfl ?_
    refine Run.go rfl rfl rfl (sem_pick false ((Value.bool false)) rfl rfl ?_)
    refine Run.go rfl rfl rfl (sem_move ((Value.bool false)) rfl ?_)
    refine Run.no rfl rfl rfl ?_
    refine Run.no rfl rfl rfl ?_
    refine Run.go rfl rfl rfl (sem_pick false ((Value.bool false)) rfl rfl ?_)
    refine Run.go rfl rfl rfl (sem_move ((Value.bool false)) rfl ?_)
    refine Run.no rfl rfl rfl ?_
    refine Run.no rfl rfl rfl ?_
    refine Run.no rfl rfl rfl ?_
    refine Run.go rfl rfl rfl (sem_pick false ((Value.bool false)) rfl rfl ?_)
    refine Run.go rfl rfl rfl (sem_assign ((Value.bool false)) rfl ?_)
    refine Run.region_end ?_
    refine Run.ret ⟨.inr rfl, ?_⟩
    exact hS.imp fun h' hq => ⟨(false), rfl, hq⟩
set_option maxHeartbeats 4000000 in
theorem C_cell_New_int.of {B : RO} {i1 : Int} {i2 : Int} {h : Heap} {Q : Option Addr → Heap → Prop} (hS : S_cell_New_int B i1 i2 h Q) : C_cell_New_int B i1 i2 h Q := by
  unfold S_cell_New_int at hS
  unfold C_cell_New_int
  refine Spec.of_run Try.func21 (N := 24) (rs := [ResultVar.tmp 4]) rfl rfl rfl (Nat.le_of_ble_eq_true rfl) ?_
  refine Run.seq ?_
  refine Run.ops0 (idx := [0]) rfl ?_
  refine Run.go rfl rfl rfl (sem_assign ((Value.pointer none)) rfl ?_)
  refine Run.region_end ?_
  refine Run.seq ?_
  refine Run.ops0 (idx := [0, 1, 2]) rfl ?_
  refine Run.go rfl rfl rfl (sem_buildSL [] [(Value.slice none 0 0)] TF.zero_127 TF.places_127 rfl rfl ?_)
  refine Run.go rfl rfl rfl (sem_boxNN [(Value.slice none 0 0)] rfl (fun k4 hb1 hb2 h5 hb3 => ?_))
  have hS := hS k4 hb1 hb2 h5 hb3
  refine Run.go rfl rfl rfl (sem_assign ((Value.pointer (some ⟨k4, 0, none⟩))) rfl ?_)
  refine Run.region_end ?_
  refine Run.seq ?_
  refine Run.seq ?_
  refine Run.ops0 (idx := [0, 1]) rfl ?_
  refine Run.go rfl rfl rfl (sem_move ((Value.int .i64 (i1))) rfl ?_)
  refine Run.go rfl rfl rfl (sem_move ((Value.int .i64 (0))) rfl ?_)
  refine Run.region_end ?_
  refine Run.block ?_
  obtain ⟨J11, m9, h0, hS⟩ := hS
  refine Run.of_fin (h0.imp fun h' h0 => ?_)
  refine Run.loop (σ := Int × Nat) (fun x e h => J11 x.1 x.2 h ∧ Agree [(1, (Value.int .i64 (i2))), (5, (Value.pointer (some ⟨k4, 0, none⟩))), (8, (Value.int .i64 (i1))), (9, (Value.int .i64 (x.1)))] e) (fun x => x.2) ((0), m9) ⟨h0, ⟨rfl, rfl, rfl, rfl, trivial⟩⟩ ?_; clear h0
  rintro ⟨i6, m8⟩ e h7 ⟨hJ, hag⟩ ih10
  have hS := hS i6 m8 h7 hJ; clear hJ
  refine Run.env hag ?_; clear hag
  refine Run.seq ?_
  refine Run.ops0 (idx := [0]) rfl ?_
  obtain ⟨hT, hF⟩ := hS
  by_cases hb12 : (i6 : Int) < (i1)
  · have hS := hT hb12; clear hT hF
    refine Run.go rfl rfl rfl (sem_binI .i64 (i6) (i1) (.bool true) rfl rfl (binI_lss_t hb12) ?_)
    refine Run.region_end ?_
    refine Run.seq ?_
    refine Run.condT rfl ?_
    refine Run.skip ?_
    refine Run.seq ?_
    refine Run.block ?_
    refine Run.ops0 (idx := [0, 1, 2, 3, 4, 5, 6, 7, 8, 9, 10, 11]) rfl ?_
    refine Run.go rfl rfl rfl (sem_move ((Value.pointer (some ⟨k4, 0, none⟩))) rfl ?_)
    refine Run.go rfl rfl rfl (sem_move ((Value.pointer (some ⟨k4, 0, none⟩))) rfl ?_)
    refine Run.go rfl rfl rfl (sem_nilCheck ⟨k4, 0, none⟩ rfl ?_)
    refine Run.go rfl rfl rfl (sem_fieldAddr ⟨k4, 0, none⟩ 0 rfl TF.fld_127_0 ?_)
    refine Run.ldSl hS fun a13 n14 c15 h16 hl hS => ?_
    refine Run.go rfl rfl rfl (sem_load1 ⟨k4, 0, none⟩ ((Value.slice a13 n14 c15)) rfl TF.agg_125 hl ?_)
    refine Run.go rfl rfl rfl (sem_move ((Value.int .i64 (i2))) rfl ?_)
    refine Run.go rfl rfl rfl (sem_buildSL [(0, (Value.int .i64 (i2)))] [(Value.int .i64 (i2)), (Value.int .i64 (0))] TF.zero_129 TF.places_129 rfl rfl ?_)
    refine Run.go rfl rfl rfl (sem_buildSliceL [(0, (Value.agg #[(Value.int .i64 (i2)), (Value.int .i64 (0))]))] [(Value.int .i64 (i2)), (Value.int .i64 (0))] TF.slc_125 TF.zero_129 rfl (by decide) (by decide) rfl rfl (fun k17 hb1 hb2 h18 hb3 => ?_))
    have hS := hS k17 hb1 hb2 h18 hb3
    refine Run.go rfl rfl rfl (sem_appendL [(Value.slice a13 n14 c15), (Value.slice (some ⟨k17, 0, none⟩) 1 1)] rfl (semH_mono (fun v h19 hv => ?_) hS))
    obtain ⟨a20, n21, c22, rfl, hS⟩ := hv
    refine Run.go rfl rfl rfl (sem_nilCheck ⟨k4, 0, none⟩ rfl ?_)
    refine Run.go rfl rfl rfl (sem_fieldAddr ⟨k4, 0, none⟩ 0 rfl TF.fld_127_0 ?_)
    obtain ⟨h23, hst, hS⟩ := hS
    refine Run.go rfl rfl rfl (sem_store1 ⟨k4, 0, none⟩ ((Value.slice a20 n21 c22)) h23 rfl rfl rfl TF.sz_125 hst ?_)
    refine Run.region_end ?_
    refine Run.inBlock ?_
    refine Run.ops0 (idx := [0, 1]) rfl ?_
    refine Run.go rfl rfl rfl (sem_binI .i64 (i6) (1) ((Value.int .i64 (IntKind.wrap .i64 ((i6) + (1))))) rfl rfl rfl ?_)
    refine Run.go rfl rfl rfl (sem_move ((Value.int .i64 (IntKind.wrap .i64 ((i6) + (1))))) rfl ?_)
    refine Run.region_end ?_
    exact Run.of_fin (hS.imp fun h' ⟨m', hm, hS⟩ => ih10 ((IntKind.wrap .i64 ((i6) + (1))), m') _ _ ⟨hS, ⟨rfl, rfl, rfl, rfl, trivial⟩⟩ hm)
  · have hS := hF hb12; clear hT hF
    refine Run.go rfl rfl rfl (sem_binI .i64 (i6) (i1) (.bool false) rfl rfl (binI_lss_f hb12) ?_)
    refine Run.region_end ?_
    refine Run.seq ?_
    refine Run.condF rfl ?_
    refine Run.exit rfl ?_
    refine Run.seq ?_
    refine Run.ops0 (idx := [0, 1]) rfl ?_
    refine Run.go rfl rfl rfl (sem_move ((Value.pointer (some ⟨k4, 0, none⟩))) rfl ?_)
    refine Run.go rfl rfl rfl (sem_assign ((Value.pointer (some ⟨k4, 0, none⟩))) rfl ?_)
    refine Run.region_end ?_
    refine Run.ret ⟨.inr rfl, ?_⟩
    exact hS.imp fun h' hq => ⟨(some ⟨k4, 0, none⟩), rfl, hq⟩
set_option maxHeartbeats 4000000 in
theorem C_cell_Row_int_Set.of {B : RO} {p1 : Option Addr} {i2 : Int} {i3 : Int} {i4 : Int} {h : Heap} {Q : Bool → Heap → Prop} (hS : S_cell_Row_int_Set B p1 i2 i3 i4 h Q) : C_cell_Row_int_Set B p1 i2 i3 i4 h Q := by
  unfold S_cell_Row_int_Set at hS
  unfold C_cell_Row_int_Set
  refine Spec.of_run Try.func22 (N := 22) (rs := [ResultVar.tmp 8]) rfl rfl rfl (Nat.le_of_ble_eq_true rfl) ?_
  refine Run.seq ?_
  refine Run.ops0 (idx := [0]) rfl ?_
  refine Run.go rfl rfl rfl (sem_assign ((Value.bool false)) rfl ?_)
  refine Run.region_end ?_
  refine Run.seq ?_
  refine Run.seq ?_
  refine Run.ops0 (idx := [0, 1, 2, 3]) rfl ?_
  refine Run.go rfl rfl rfl (sem_move ((Value.pointer p1)) rfl ?_)
  refine Run.go rfl rfl rfl (sem_move ((Value.int .i64 (i2))) rfl ?_)
  refine Run.go rfl rfl rfl (sem_callL [(Value.pointer p1), (Value.int .i64 (i2))] (TF.goes_68) rfl rfl (Spec.mono hS fun v h6 hv => ?_))
  obtain ⟨b7, rfl, hS⟩ := hv
  obtain ⟨hT, hF⟩ := hS
  cases b7
  · have hS := hF rfl; clear hT hF
    refine Run.go rfl rfl rfl (sem_not false rfl ?_)
    refine Run.region_end ?_
    refine Run.condT rfl ?_
    refine Run.seq ?_
    refine Run.ops0 (idx := [0]) rfl ?_
    refine Run.go rfl rfl rfl (sem_assign ((Value.bool false)) rfl ?_)
    refine Run.region_end ?_
    refine Run.ret ⟨.inr rfl, ?_⟩
    exact hS.imp fun h' hq => ⟨(false), rfl, hq⟩
  · have hS := hT rfl; clear hT hF
    refine Run.go rfl rfl rfl (sem_not true rfl ?_)
    refine Run.region_end ?_
    refine Run.condF rfl ?_
    refine Run.skip ?_
    refine Run.seq ?_
    refine Run.ops0 (idx := [0, 1, 2, 3, 4, 5, 6, 7, 8, 9]) rfl ?_
    refine Run.go rfl rfl rfl (sem_move ((Value.pointer p1)) rfl ?_)
    obtain ⟨A8, e9, hS⟩ := hS
    refine Run.go rfl rfl rfl (sem_nilCheck A8 (congrArg Value.pointer e9) ?_)
    refine Run.go rfl rfl rfl (sem_fieldAddr A8 0 rfl TF.fld_127_0 ?_)
    refine Run.ldSl hS fun a10 n11 c12 h13 hl hS => ?_
    refine Run.go rfl rfl rfl (sem_load1 A8 ((Value.slice a10 n11 c12)) rfl TF.agg_125 hl ?_)
    refine Run.go rfl rfl rfl (sem_move ((Value.int .i64 (i2))) rfl ?_)
    refine Run.go rfl rfl rfl (sem_move ((Value.int .i64 (i3))) rfl ?_)
    refine Run.go rfl rfl rfl (sem_move ((Value.int .i64 (i4))) rfl ?_)
    refine Run.go rfl rfl rfl (sem_buildSL [(0, (Value.int .i64 (i3))), (1, (Value.int .i64 (i4)))] [(Value.int .i64 (i3)), (Value.int .i64 (i4))] TF.zero_129 TF.places_129 rfl rfl ?_)
    obtain ⟨A14, e15, hi0, hi1, hS⟩ := hS
    refine Run.go rfl rfl rfl (sem_indexAddrS A14 n11 c12 .i64 (i2) (congrArg (fun a => Value.slice a n11 c12) e15) rfl TF.slc_125 hi0 hi1 ?_)
    obtain ⟨h16, hst, hS⟩ := hS
    refine Run.go rfl rfl rfl (sem_storeN (Addr.add A14 (Int.toNat (i2) * 2)) [(Value.int .i64 (i3)), (Value.int .i64 (i4))] h16 rfl rfl TF.sz_129 hst ?_)
    refine Run.region_end ?_
    refine Run.seq ?_
    refine Run.ops0 (idx := [0]) rfl ?_
    refine Run.go rfl rfl rfl (sem_assign ((Value.bool true)) rfl ?_)
    refine Run.region_end ?_
    refine Run.ret ⟨.inr rfl, ?_⟩
    exact hS.imp fun h' hq => ⟨(true), rfl, hq⟩
set_option maxHeartbeats 4000000 in
theorem C_cell_Row_int_Newest.of {B : RO} {p1 : Option Addr} {h : Heap} {Q : Int → Heap → Prop} (hS : S_cell_Row_int_Newest B p1 h Q) : C_cell_Row_int_Newest B p1 h Q := by
  unfold S_cell_Row_int_Newest at hS
  unfold C_cell_Row_int_Newest
  refine Spec.of_run Try.func23 (N := 17) (rs := [ResultVar.tmp 2]) rfl rfl rfl (Nat.le_of_ble_eq_true rfl) ?_
  refine Run.seq ?_
  refine Run.ops0 (idx := [0]) rfl ?_
  refine Run.go rfl rfl rfl (sem_assign ((Value.int .i64 (0))) rfl ?_)
  refine Run.region_end ?_
  refine Run.seq ?_
  refine Run.ops0 (idx := [0]) rfl ?_
  refine Run.go rfl rfl rfl (sem_assign ((Value.int .i64 (0))) rfl ?_)
  refine Run.region_end ?_
  refine Run.seq ?_
  refine Run.seq ?_
  refine Run.ops0 (idx := [0, 1, 2]) rfl ?_
  refine Run.go rfl rfl rfl (sem_move ((Value.pointer p1)) rfl ?_)
  refine Run.go rfl rfl rfl (sem_callL [(Value.pointer p1)] (TF.goes_33) rfl rfl (Spec.mono hS fun v h3 hv => ?_))
  obtain ⟨i4, rfl, hS⟩ := hv
  refine Run.go rfl rfl rfl (sem_move ((Value.int .i64 (0))) rfl ?_)
  refine Run.region_end ?_
  refine Run.block ?_
  obtain ⟨J11, m9, h0, hS⟩ := hS
  refine Run.of_fin (h0.imp fun h' h0 => ?_)
  refine Run.loop (σ := Int × Int × Nat) (fun x e h => J11 x.1 x.2.1 x.2.2 h ∧ Agree [(0, (Value.pointer p1)), (3, (Value.int .i64 (x.1))), (6, (Value.int .i64 (i4))), (7, (Value.int .i64 (x.2.1)))] e) (fun x => x.2.2) ((0), (0), m9) ⟨h0, ⟨rfl, rfl, rfl, rfl, trivial⟩⟩ ?_; clear h0
  rintro ⟨i5, i6, m8⟩ e h7 ⟨hJ, hag⟩ ih10
  have hS := hS i5 i6 m8 h7 hJ; clear hJ
  refine Run.env hag ?_; clear hag
  refine Run.seq ?_
  refine Run.ops0 (idx := [0]) rfl ?_
  obtain ⟨hT, hF⟩ := hS
  by_cases hb12 : (i6 : Int) < (i4)
  · have hS := hT hb12; clear hT hF
    refine Run.go rfl rfl rfl (sem_binI .i64 (i6) (i4) (.bool true) rfl rfl (binI_lss_t hb12) ?_)
    refine Run.region_end ?_
    refine Run.seq ?_
    refine Run.condT rfl ?_
    refine Run.skip ?_
    refine Run.seq ?_
    refine Run.block ?_
    refine Run.seq ?_
    refine Run.ops0 (idx := [0, 1]) rfl ?_
    refine Run.go rfl rfl rfl (sem_move ((Value.int .i64 (i6))) rfl ?_)
    refine Run.go rfl rfl rfl (sem_assign ((Value.int .i64 (i6))) rfl ?_)
    refine Run.region_end ?_
    refine Run.ops0 (idx := [0, 1, 2, 3, 4, 5]) rfl ?_
    refine Run.go rfl rfl rfl (sem_move ((Value.int .i64 (i5))) rfl ?_)
    refine Run.go rfl rfl rfl (sem_move ((Value.pointer p1)) rfl ?_)
    refine Run.go rfl rfl rfl (sem_move ((Value.int .i64 (i6))) rfl ?_)
    refine Run.go rfl rfl rfl (sem_callL [(Value.pointer p1), (Value.int .i64 (i6))] (TF.goes_32) rfl rfl (Spec.mono hS fun v h13 hv => ?_))
    obtain ⟨i14, rfl, hS⟩ := hv
    refine Run.go rfl rfl rfl (sem_max .i64 (i5) (i14) rfl rfl ?_)
    refine Run.go rfl rfl rfl (sem_assign ((Value.int .i64 (if (i14 : Int) > (i5) then (i14 : Int) else (i5)))) rfl ?_)
    refine Run.region_end ?_
    refine Run.inBlock ?_
    refine Run.ops0 (idx := [0, 1]) rfl ?_
    refine Run.go rfl rfl rfl (sem_binI .i64 (i6) (1) ((Value.int .i64 (IntKind.wrap .i64 ((i6) + (1))))) rfl rfl rfl ?_)
    refine Run.go rfl rfl rfl (sem_move ((Value.int .i64 (IntKind.wrap .i64 ((i6) + (1))))) rfl ?_)
    refine Run.region_end ?_
    exact Run.of_fin (hS.imp fun h' ⟨m', hm, hS⟩ => ih10 ((if (i14 : Int) > (i5) then (i14 : Int) else (i5)), (IntKind.wrap .i64 ((i6) + (1))), m') _ _ ⟨hS, ⟨rfl, rfl, rfl, rfl, trivial⟩⟩ hm)
  · have hS := hF hb12; clear hT hF
    refine Run.go rfl rfl rfl (sem_binI .i64 (i6) (i4) (.bool false) rfl rfl (binI_lss_f hb12) ?_)
    refine Run.region_end ?_
    refine Run.seq ?_
    refine Run.condF rfl ?_
    refine Run.exit rfl ?_
    refine Run.seq ?_
    refine Run.ops0 (idx := [0, 1]) rfl ?_
    refine Run.go rfl rfl rfl (sem_move ((Value.int .i64 (i5))) rfl ?_)
    refine Run.go rfl rfl rfl (sem_assign ((Value.int .i64 (i5))) rfl ?_)
    refine Run.region_end ?_
    refine Run.ret ⟨.inr rfl, ?_⟩
    exact hS.imp fun h' hq => ⟨(i5), rfl, hq⟩
set_option maxHeartbeats 4000000 in
theorem C_cell_New_string.of {B : RO} {i1 : Int} {s2 : ByteArray} {h : Heap} {Q : Option Addr → Heap → Prop} (hS : S_cell_New_string B i1 s2 h Q) : C_cell_New_string B i1 s2 h Q := by
  unfold S_cell_New_string at hS
  unfold C_cell_New_string
  refine Spec.of_run Try.func24 (N := 24) (rs := [ResultVar.tmp 4]) rfl rfl rfl (Nat.le_of_ble_eq_true rfl) ?_
  refine Run.seq ?_
  refine Run.ops0 (idx := [0]) rfl ?_
  refine Run.go rfl rfl rfl (sem_assign ((Value.pointer none)) rfl ?_)
  refine Run.region_end ?_
  refine Run.seq ?_
  refine Run.ops0 (idx := [0, 1, 2]) rfl ?_
  refine Run.go rfl rfl rfl (sem_buildSL [] [(Value.slice none 0 0)] TF.zero_132 TF.places_132 rfl rfl ?_)
  refine Run.go rfl rfl rfl (sem_boxNN [(Value.slice none 0 0)] rfl (fun k4 hb1 hb2 h5 hb3 => ?_))
  have hS := hS k4 hb1 hb2 h5 hb3
  refine Run.go rfl rfl rfl (sem_assign ((Value.pointer (some ⟨k4, 0, none⟩))) rfl ?_)
  refine Run.region_end ?_
  refine Run.seq ?_
  refine Run.seq ?_
  refine Run.ops0 (idx := [0, 1]) rfl ?_
  refine Run.go rfl rfl rfl (sem_move ((Value.int .i64 (i1))) rfl ?_)
  refine Run.go rfl rfl rfl (sem_move ((Value.int .i64 (0))) rfl ?_)
  refine Run.region_end ?_
  refine Run.block ?_
  obtain ⟨J11, m9, h0, hS⟩ := hS
  refine Run.of_fin (h0.imp fun h' h0 => ?_)
  refine Run.loop (σ := Int × Nat) (fun x e h => J11 x.1 x.2 h ∧ Agree [(1, (Value.string s2)), (5, (Value.pointer (some ⟨k4, 0, none⟩))), (8, (Value.int .i64 (i1))), (9, (Value.int .i64 (x.1)))] e) (fun x => x.2) ((0), m9) ⟨h0, ⟨rfl, rfl, rfl, rfl, trivial⟩⟩ ?_; clear h0
  rintro ⟨i6, m8⟩ e h7 ⟨hJ, hag⟩ ih10
  have hS := hS i6 m8 h7 hJ; clear hJ
  refine Run.env hag ?_; clear hag
  refine Run.seq ?_
  refine Run.ops0 (idx := [0]) rfl ?_
  obtain ⟨hT, hF⟩ := hS
  by_cases hb12 : (i6 : Int) < (i1)
  · have hS := hT hb12; clear hT hF
    refine Run.go rfl rfl rfl (sem_binI .i64 (i6) (i1) (.bool true) rfl rfl (binI_lss_t hb12) ?_)
    refine Run.region_end ?_
    refine Run.seq ?_
    refine Run.condT rfl ?_
    refine Run.skip ?_
    refine Run.seq ?_
    refine Run.block ?_
    refine Run.ops0 (idx := [0, 1, 2, 3, 4, 5, 6, 7, 8, 9, 10, 11]) rfl ?_
    refine Run.go rfl rfl rfl (sem_move ((Value.pointer (some ⟨k4, 0, none⟩))) rfl ?_)
    refine Run.go rfl rfl rfl (sem_move ((Value.pointer (some ⟨k4, 0, none⟩))) rfl ?_)
    refine Run.go rfl rfl rfl (sem_nilCheck ⟨k4, 0, none⟩ rfl ?_)
    refine Run.go rfl rfl rfl (sem_fieldAddr ⟨k4, 0, none⟩ 0 rfl TF.fld_132_0 ?_)
    refine Run.ldSl hS fun a13 n14 c15 h16 hl hS => ?_
    refine Run.go rfl rfl rfl (sem_load1 ⟨k4, 0, none⟩ ((Value.slice a13 n14 c15)) rfl TF.agg_130 hl ?_)
    refine Run.go rfl rfl rfl (sem_move ((Value.string s2)) rfl ?_)
    refine Run.go rfl rfl rfl (sem_buildSL [(0, (Value.string s2))] [(Value.string s2), (Value.int .i64 (0))] TF.zero_134 TF.places_134 rfl rfl ?_)
    refine Run.go rfl rfl rfl (sem_buildSliceL [(0, (Value.agg #[(Value.string s2), (Value.int .i64 (0))]))] [(Value.string s2), (Value.int .i64 (0))] TF.slc_130 TF.zero_134 rfl (by decide) (by decide) rfl rfl (fun k17 hb1 hb2 h18 hb3 => ?_))
    have hS := hS k17 hb1 hb2 h18 hb3
    refine Run.go rfl rfl rfl (sem_appendL [(Value.slice a13 n14 c15), (Value.slice (some ⟨k17, 0, none⟩) 1 1)] rfl (semH_mono (fun v h19 hv => ?_) hS))
    obtain ⟨a20, n21, c22, rfl, hS⟩ := hv
    refine Run.go rfl rfl rfl (sem_nilCheck ⟨k4, 0, none⟩ rfl ?_)
    refine Run.go rfl rfl rfl (sem_fieldAddr ⟨k4, 0, none⟩ 0 rfl TF.fld_132_0 ?_)
    obtain ⟨h23, hst, hS⟩ := hS
    refine Run.go rfl rfl rfl (sem_store1 ⟨k4, 0, none⟩ ((Value.slice a20 n21 c22)) h23 rfl rfl rfl TF.sz_130 hst ?_)
    refine Run.region_end ?_
    refine Run.inBlock ?_
    refine Run.ops0 (idx := [0, 1]) rfl ?_
    refine Run.go rfl rfl rfl (sem_binI .i64 (i6) (1) ((Value.int .i64 (IntKind.wrap .i64 ((i6) + (1))))) rfl rfl rfl ?_)
    refine Run.go rfl rfl rfl (sem_move ((Value.int .i64 (IntKind.wrap .i64 ((i6) + (1))))) rfl ?_)
    refine Run.region_end ?_
    exact Run.of_fin (hS.imp fun h' ⟨m', hm, hS⟩ => ih10 ((IntKind.wrap .i64 ((i6) + (1))), m') _ _ ⟨hS, ⟨rfl, rfl, rfl, rfl, trivial⟩⟩ hm)
  · have hS := hF hb12; clear hT hF
    refine Run.go rfl rfl rfl (sem_binI .i64 (i6) (i1) (.bool false) rfl rfl (binI_lss_f hb12) ?_)
    refine Run.region_end ?_
    refine Run.seq ?_
    refine Run.condF rfl ?_
    refine Run.exit rfl ?_
    refine Run.seq ?_
    refine Run.ops0 (idx := [0, 1]) rfl ?_
    refine Run.go rfl rfl rfl (sem_move ((Value.pointer (some ⟨k4, 0, none⟩))) rfl ?_)
    refine Run.go rfl rfl rfl (sem_assign ((Value.pointer (some ⟨k4, 0, none⟩))) rfl ?_)
    refine Run.region_end ?_
    refine Run.ret ⟨.inr rfl, ?_⟩
    exact hS.imp fun h' hq => ⟨(some ⟨k4, 0, none⟩), rfl, hq⟩
set_option maxHeartbeats 4000000 in
theorem C_cell_Row_string_Set.of {B : RO} {p1 : Option Addr} {i2 : Int} {s3 : ByteArray} {i4 : Int} {h : Heap} {Q : Bool → Heap → Prop} (hS : S_cell_Row_string_Set B p1 i2 s3 i4 h Q) : C_cell_Row_string_Set B p1 i2 s3 i4 h Q := by
  unfold S_cell_Row_string_Set at hS
  unfold C_cell_Row_string_Set
  refine Spec.of_run Try.func25 (N := 22) (rs := [ResultVar.tmp 8]) rfl rfl rfl (Nat.le_of_ble_eq_true rfl) ?_
  refine Run.seq ?_
  refine Run.ops0 (idx := [0]) rfl ?_
  refine Run.go rfl rfl rfl (sem_assign ((Value.bool false)) rfl ?_)
  refine Run.region_end ?_
  refine Run.seq ?_
  refine Run.seq ?_
  refine Run.ops0 (idx := [0, 1, 2, 3]) rfl ?_
  refine Run.go rfl rfl rfl (sem_move ((Value.pointer p1)) rfl ?_)
  refine Run.go rfl rfl rfl (sem_move ((Value.int .i64 (i2))) rfl ?_)
  refine Run.go rfl rfl rfl (sem_callL [(Value.pointer p1), (Value.int .i64 (i2))] (TF.goes_69) rfl rfl (Spec.mono hS fun v h6 hv => ?_))
  obtain ⟨b7, rfl, hS⟩ := hv
  obtain ⟨hT, hF⟩ := hS
  cases b7
  · have hS := hF rfl; clear hT hF
    refine Run.go rfl rfl rfl (sem_not false rfl ?_)
    refine Run.region_end ?_
    refine Run.condT rfl ?_
    refine Run.seq ?_
    refine Run.ops0 (idx := [0]) rfl ?_
    refine Run.go rfl rfl rfl (sem_assign ((Value.bool false)) rfl ?_)
    refine Run.region_end ?_
    refine Run.ret ⟨.inr rfl, ?_⟩
    exact hS.imp fun h' hq => ⟨(false), rfl, hq⟩
  · have hS := hT rfl; clear hT hF
    refine Run.go rfl rfl rfl (sem_not true rfl ?_)
    refine Run.region_end ?_
    refine Run.condF rfl ?_
    refine Run.skip ?_
    refine Run.seq ?_
    refine Run.ops0 (idx := [0, 1, 2, 3, 4, 5, 6, 7, 8, 9]) rfl ?_
    refine Run.go rfl rfl rfl (sem_move ((Value.pointer p1)) rfl ?_)
    obtain ⟨A8, e9, hS⟩ := hS
    refine Run.go rfl rfl rfl (sem_nilCheck A8 (congrArg Value.pointer e9) ?_)
    refine Run.go rfl rfl rfl (sem_fieldAddr A8 0 rfl TF.fld_132_0 ?_)
    refine Run.ldSl hS fun a10 n11 c12 h13 hl hS => ?_
    refine Run.go rfl rfl rfl (sem_load1 A8 ((Value.slice a10 n11 c12)) rfl TF.agg_130 hl ?_)
    refine Run.go rfl rfl rfl (sem_move ((Value.int .i64 (i2))) rfl ?_)
    refine Run.go rfl rfl rfl (sem_move ((Value.string s3)) rfl ?_)
    refine Run.go rfl rfl rfl (sem_move ((Value.int .i64 (i4))) rfl ?_)
    refine Run.go rfl rfl rfl (sem_buildSL [(0, (Value.string s3)), (1, (Value.int .i64 (i4)))] [(Value.string s3), (Value.int .i64 (i4))] TF.zero_134 TF.places_134 rfl rfl ?_)
    obtain ⟨A14, e15, hi0, hi1, hS⟩ := hS
    refine Run.go rfl rfl rfl (sem_indexAddrS A14 n11 c12 .i64 (i2) (congrArg (fun a => Value.slice a n11 c12) e15) rfl TF.slc_130 hi0 hi1 ?_)
    obtain ⟨h16, hst, hS⟩ := hS
    refine Run.go rfl rfl rfl (sem_storeN (Addr.add A14 (Int.toNat (i2) * 2)) [(Value.string s3), (Value.int .i64 (i4))] h16 rfl rfl TF.sz_134 hst ?_)
    refine Run.region_end ?_
    refine Run.seq ?_
    refine Run.ops0 (idx := [0]) rfl ?_
    refine Run.go rfl rfl rfl (sem_assign ((Value.bool true)) rfl ?_)
    refine Run.region_end ?_
    refine Run.ret ⟨.inr rfl, ?_⟩
    exact hS.imp fun h' hq => ⟨(true), rfl, hq⟩
set_option maxHeartbeats 4000000 in
theorem C_cell_Row_string_All.of {B : RO} {p1 : Option Addr} {h : Heap} {Q : Value → Heap → Prop} (hS : S_cell_Row_string_All B p1 h Q) : C_cell_Row_string_All B p1 h Q := by
  unfold S_cell_Row_string_All at hS
  unfold C_cell_Row_string_All
  refine Spec.of_run Try.func26 (N := 4) (rs := [ResultVar.tmp 2]) rfl rfl rfl (Nat.le_of_ble_eq_true rfl) ?_
  refine Run.seq ?_
  refine Run.ops0 (idx := [0, 1]) rfl ?_
  refine Run.go rfl rfl rfl (sem_box1N ((Value.pointer p1)) rfl rfl (fun k3 hb1 hb2 h4 hb3 => ?_))
  have hS := hS k3 hb1 hb2 h4 hb3
  refine Run.go rfl rfl rfl (sem_assign (Value.nilFunc) rfl ?_)
  refine Run.region_end ?_
  refine Run.seq ?_
  refine Run.ops0 (idx := [0, 1]) rfl ?_
  refine Run.go rfl rfl rfl (sem_makeFuncL [] [(Value.pointer (some ⟨k3, 0, none⟩))] rfl rfl ?_)
  refine Run.go rfl rfl rfl (sem_assign ((Value.func (.func 70) #[] #[(Value.pointer (some ⟨k3, 0, none⟩))])) rfl ?_)
  refine Run.region_end ?_
  refine Run.ret ⟨.inr rfl, ?_⟩
  exact hS.imp fun h' hq => ⟨(Value.func (.func 70) #[] #[(Value.pointer (some ⟨k3, 0, none⟩))]), rfl, hq⟩
set_option maxHeartbeats 4000000 in
theorem C_cell_Row_string_Get.of {B : RO} {p1 : Option Addr} {i2 : Int} {h : Heap} {Q : ByteArray → Int → Heap → Prop} (hS : S_cell_Row_string_Get B p1 i2 h Q) : C_cell_Row_string_Get B p1 i2 h Q := by
  unfold S_cell_Row_string_Get at hS
  unfold C_cell_Row_string_Get
  refine Spec.of_run Try.func27 (N := 28) (rs := [ResultVar.tmp 4, ResultVar.tmp 5]) rfl rfl rfl (Nat.le_of_ble_eq_true rfl) ?_
  refine Run.seq ?_
  refine Run.ops0 (idx := [0, 1]) rfl ?_
  refine Run.go rfl rfl rfl (sem_assign ((Value.string (ByteArray.mk #[]))) rfl ?_)
  refine Run.go rfl rfl rfl (sem_assign ((Value.int .i64 (0))) rfl ?_)
  refine Run.region_end ?_
  refine Run.seq ?_
  refine Run.seq ?_
  refine Run.ops0 (idx := [0, 1, 2, 3]) rfl ?_
  refine Run.go rfl rfl rfl (sem_move ((Value.pointer p1)) rfl ?_)
  refine Run.go rfl rfl rfl (sem_move ((Value.int .i64 (i2))) rfl ?_)
  refine Run.go rfl rfl rfl (sem_callL [(Value.pointer p1), (Value.int .i64 (i2))] (TF.goes_69) rfl rfl (Spec.mono hS fun v h5 hv => ?_))
  obtain ⟨b6, rfl, hS⟩ := hv
  obtain ⟨hT, hF⟩ := hS
  cases b6
  · have hS := hF rfl; clear hT hF
    refine Run.go rfl rfl rfl (sem_not false rfl ?_)
    refine Run.region_end ?_
    refine Run.condT rfl ?_
    refine Run.seq ?_
    refine Run.ops0 (idx := [0]) rfl ?_
    refine Run.go rfl rfl rfl (sem_assign ((Value.string (ByteArray.mk #[]))) rfl ?_)
    refine Run.region_end ?_
    refine Run.seq ?_
    refine Run.ops0 (idx := [0, 1, 2]) rfl ?_
    refine Run.go rfl rfl rfl (sem_move ((Value.string (ByteArray.mk #[]))) rfl ?_)
    refine Run.go rfl rfl rfl (sem_assign ((Value.string (ByteArray.mk #[]))) rfl ?_)
    refine Run.go rfl rfl rfl (sem_assign ((Value.int .i64 (0))) rfl ?_)
    refine Run.region_end ?_
    refine Run.ret ⟨.inr rfl, ?_⟩
    exact hS.imp fun h' hq => ⟨(ByteArray.mk #[]), (0), rfl, hq⟩
  · have hS := hT rfl; clear hT hF
    refine Run.go rfl rfl rfl (sem_not true rfl ?_)
    refine Run.region_end ?_
    refine Run.condF rfl ?_
    refine Run.skip ?_
    refine Run.seq ?_
    refine Run.draw (fun h' => h' = h5) [] [.q 0, .q 1, .q 2, .q 3, .q 4, .q 5, .q 6, .q 7, .q 8, .q 9, .q 10, .q 11, .q 12, .q 13, .q 14, .q 15, .q 16, .q 17] TF.mixed (by kernel_rfl) rfl ?_
    refine RunO.quiet rfl rfl rfl (quiet_eq (sem_move ((Value.pointer p1)) rfl ⟨rfl, rfl⟩)) ?_
    obtain ⟨A7, e8, hS⟩ := hS
    refine RunO.quiet rfl rfl rfl (quiet_eq (sem_nilCheck A7 (congrArg Value.pointer e8) ⟨rfl, rfl⟩)) ?_
    refine RunO.quiet rfl rfl rfl (quiet_eq (sem_fieldAddr A7 0 rfl TF.fld_132_0 ⟨rfl, rfl⟩)) ?_
    obtain ⟨a9, n10, c11, hl, hS⟩ := hS
    refine RunO.quiet rfl rfl rfl (quiet_eq (sem_load1 A7 ((Value.slice a9 n10 c11)) rfl TF.agg_130 hl ⟨rfl, rfl⟩)) ?_
    refine RunO.quiet rfl rfl rfl (quiet_eq (sem_move ((Value.int .i64 (i2))) rfl ⟨rfl, rfl⟩)) ?_
    obtain ⟨A12, e13, hi0, hi1, hS⟩ := hS
    refine RunO.quiet rfl rfl rfl (quiet_eq (sem_indexAddrS A12 n10 c11 .i64 (i2) (congrArg (fun a => Value.slice a n10 c11) e13) rfl TF.slc_130 hi0 hi1 ⟨rfl, rfl⟩)) ?_
    refine RunO.quiet rfl rfl rfl (quiet_eq (sem_fieldAddr (Addr.add A12 (Int.toNat (i2) * 2)) 0 rfl TF.fld_134_0 ⟨rfl, rfl⟩)) ?_
    obtain ⟨s14, hl, hS⟩ := hS
    refine RunO.quiet rfl rfl rfl (quiet_eq (sem_load1 (Addr.add A12 (Int.toNat (i2) * 2)) ((Value.string s14)) rfl TF.agg_9 hl ⟨rfl, rfl⟩)) ?_
    refine RunO.quiet rfl rfl rfl (quiet_eq (sem_move ((Value.pointer p1)) rfl ⟨rfl, rfl⟩)) ?_
    obtain ⟨A15, e16, hS⟩ := hS
    refine RunO.quiet rfl rfl rfl (quiet_eq (sem_nilCheck A15 (congrArg Value.pointer e16) ⟨rfl, rfl⟩)) ?_
    refine RunO.quiet rfl rfl rfl (quiet_eq (sem_fieldAddr A15 0 rfl TF.fld_132_0 ⟨rfl, rfl⟩)) ?_
    obtain ⟨a17, n18, c19, hl, hS⟩ := hS
    refine RunO.quiet rfl rfl rfl (quiet_eq (sem_load1 A15 ((Value.slice a17 n18 c19)) rfl TF.agg_130 hl ⟨rfl, rfl⟩)) ?_
    refine RunO.quiet rfl rfl rfl (quiet_eq (sem_move ((Value.int .i64 (i2))) rfl ⟨rfl, rfl⟩)) ?_
    obtain ⟨A20, e21, hi0, hi1, hS⟩ := hS
    refine RunO.quiet rfl rfl rfl (quiet_eq (sem_indexAddrS A20 n18 c19 .i64 (i2) (congrArg (fun a => Value.slice a n18 c19) e21) rfl TF.slc_130 hi0 hi1 ⟨rfl, rfl⟩)) ?_
    refine RunO.quiet rfl rfl rfl (quiet_eq (sem_fieldAddr (Addr.add A20 (Int.toNat (i2) * 2)) 1 rfl TF.fld_134_1 ⟨rfl, rfl⟩)) ?_
    obtain ⟨i22, hl, hS⟩ := hS
    refine RunO.quiet rfl rfl rfl (quiet_eq (sem_load1 (Addr.add (Addr.add A20 (Int.toNat (i2) * 2)) 1) ((Value.int .i64 (i22))) rfl TF.agg_3 hl ⟨rfl, rfl⟩)) ?_
    refine RunO.quiet rfl rfl rfl (quiet_eq (sem_assign ((Value.string s14)) rfl ⟨rfl, rfl⟩)) ?_
    refine RunO.quiet rfl rfl rfl (quiet_eq (sem_assign ((Value.int .i64 (i22))) rfl ⟨rfl, rfl⟩)) ?_
    refine Run.ret ⟨.inr rfl, ?_⟩
    exact hS.imp fun h' hq => ⟨s14, (i22), rfl, hq⟩
set_option maxHeartbeats 4000000 in
theorem C_cell_Row_string_Version.of {B : RO} {p1 : Option Addr} {i2 : Int} {h : Heap} {Q : Int → Heap → Prop} (hS : S_cell_Row_string_Version B p1 i2 h Q) : C_cell_Row_string_Version B p1 i2 h Q := by
  unfold S_cell_Row_string_Version at hS
  unfold C_cell_Row_string_Version
  refine Spec.of_run Try.func28 (N := 14) (rs := [ResultVar.tmp 4]) rfl rfl rfl (Nat.le_of_ble_eq_true rfl) ?_
  refine Run.seq ?_
  refine Run.ops0 (idx := [0]) rfl ?_
  refine Run.go rfl rfl rfl (sem_assign ((Value.int .i64 (0))) rfl ?_)
  refine Run.region_end ?_
  refine Run.seq ?_
  refine Run.ops0 (idx := [0, 1, 2, 3, 4, 5, 6, 7]) rfl ?_
  refine Run.go rfl rfl rfl (sem_move ((Value.pointer p1)) rfl ?_)
  refine Run.go rfl rfl rfl (sem_move ((Value.int .i64 (i2))) rfl ?_)
  refine Run.go rfl rfl rfl (sem_callL [(Value.pointer p1), (Value.int .i64 (i2))] (TF.goes_27) rfl rfl (Spec.mono hS fun v h4 hv => ?_))
  obtain ⟨s5, i6, rfl, hS⟩ := hv
  refine Run.go rfl rfl rfl (sem_move ((Value.tuple #[(Value.string s5), (Value.int .i64 (i6))])) rfl ?_)
  refine Run.go rfl rfl rfl (sem_extract #[(Value.string s5), (Value.int .i64 (i6))] ((Value.string s5)) rfl rfl ?_)
  refine Run.go rfl rfl rfl (sem_extract #[(Value.string s5), (Value.int .i64 (i6))] ((Value.int .i64 (i6))) rfl rfl ?_)
  refine Run.go rfl rfl rfl (sem_assign ((Value.string s5)) rfl ?_)
  refine Run.go rfl rfl rfl (sem_assign ((Value.int .i64 (i6))) rfl ?_)
  refine Run.region_end ?_
  refine Run.seq ?_
  refine Run.ops0 (idx := [0, 1]) rfl ?_
  refine Run.go rfl rfl rfl (sem_move ((Value.int .i64 (i6))) rfl ?_)
  refine Run.go rfl rfl rfl (sem_assign ((Value.int .i64 (i6))) rfl ?_)
  refine Run.region_end ?_
  refine Run.ret ⟨.inr rfl, ?_⟩
  exact hS.imp fun h' hq => ⟨(i6), rfl, hq⟩
set_option maxHeartbeats 4000000 in
theorem C_countermandref08_Row_Is.of {B : RO} {p1 : Option Addr} {i2 : Int} {h : Heap} {Q : Bool → Heap → Prop} (hS : S_countermandref08_Row_Is B p1 i2 h Q) : C_countermandref08_Row_Is B p1 i2 h Q := by
  unfold S_countermandref08_Row_Is at hS
  unfold C_countermandref08_Row_Is
  refine Spec.of_run Try.func29 (N := 15) (rs := [ResultVar.tmp 4]) rfl rfl rfl (Nat.le_of_ble_eq_true rfl) ?_
  refine Run.seq ?_
  refine Run.ops0 (idx := [0]) rfl ?_
  refine Run.go rfl rfl rfl (sem_assign ((Value.bool false)) rfl ?_)
  refine Run.region_end ?_
  refine Run.seq ?_
  refine Run.ops0 (idx := [0, 1, 2, 3, 4, 5, 6, 7, 8, 9, 10]) rfl ?_
  refine Run.go rfl rfl rfl (sem_move ((Value.int .i64 (i2))) rfl ?_)
  obtain ⟨hT, hF⟩ := hS
  by_cases hb4 : (i2 : Int) ≥ (0)
  · have hS := hT hb4; clear hT hF
    refine Run.go rfl rfl rfl (sem_binI .i64 (i2) (0) (.bool true) rfl rfl (binI_geq_t hb4) ?_)
    refine Run.go rfl rfl rfl (sem_move ((Value.bool true)) rfl ?_)
    refine Run.go rfl rfl rfl (sem_move ((Value.int .i64 (i2))) rfl ?_)
    refine Run.go rfl rfl rfl (sem_move ((Value.pointer p1)) rfl ?_)
    obtain ⟨A5, e6, hS⟩ := hS
    refine Run.go rfl rfl rfl (sem_nilCheck A5 (congrArg Value.pointer e6) ?_)
    refine Run.go rfl rfl rfl (sem_fieldAddr A5 0 rfl TF.fld_56_0 ?_)
    obtain ⟨i7, hl, hS⟩ := hS
    refine Run.go rfl rfl rfl (sem_load1 A5 ((Value.int .i64 (i7))) rfl TF.agg_3 hl ?_)
    refine Run.go rfl rfl rfl (sem_binI .i64 (i2) (i7) ((Value.bool (decide ((i2 : Int) < (i7))))) rfl rfl rfl ?_)
    refine Run.go rfl rfl rfl (sem_pick true ((Value.bool (decide ((i2 : Int) < (i7))))) rfl rfl ?_)
    refine Run.go rfl rfl rfl (sem_assign ((Value.bool (decide ((i2 : Int) < (i7))))) rfl ?_)
    refine Run.region_end ?_
    refine Run.ret ⟨.inr rfl, ?_⟩
    exact hS.imp fun h' hq => ⟨((decide ((i2 : Int) < (i7)))), rfl, hq⟩
  · have hS := hF hb4; clear hT hF
    refine Run.go rfl rfl rfl (sem_binI .i64 (i2) (0) (.bool false) rfl rfl (binI_geq_f hb4) ?_)
    refine Run.go rfl rfl rfl (sem_move ((Value.bool false)) rfl ?_)
    refine Run.no rfl rfl rfl ?_
    refine Run.no rfl rfl rfl ?_
    refine Run.no rfl rfl rfl ?_
    refine Run.no rfl rfl rfl ?_
    refine Run.no rfl rfl rfl ?_
    refine Run.no rfl rfl rfl ?_
    refine Run.go rfl rfl rfl (sem_pick false ((Value.bool false)) rfl rfl ?_)
    refine Run.go rfl rfl rfl (sem_assign ((Value.bool false)) rfl ?_)
    refine Run.region_end ?_
    refine Run.ret ⟨.inr rfl, ?_⟩
    exact hS.imp fun h' hq => ⟨(false), rfl, hq⟩
set_option maxHeartbeats 4000000 in
theorem C_cell_Row_int_Get.of {B : RO} {p1 : Option Addr} {i2 : Int} {h : Heap} {Q : Int → Int → Heap → Prop} (hS : S_cell_Row_int_Get B p1 i2 h Q) : C_cell_Row_int_Get B p1 i2 h Q := by
  unfold S_cell_Row_int_Get at hS
  unfold C_cell_Row_int_Get
  refine Spec.of_run Try.func30 (N := 28) (rs := [ResultVar.tmp 4, ResultVar.tmp 5]) rfl rfl rfl (Nat.le_of_ble_eq_true rfl) ?_
  refine Run.seq ?_
  refine Run.ops0 (idx := [0, 1]) rfl ?_
  refine Run.go rfl rfl rfl (sem_assign ((Value.int .i64 (0))) rfl ?_)
  refine Run.go rfl rfl rfl (sem_assign ((Value.int .i64 (0))) rfl ?_)
  refine Run.region_end ?_
  refine Run.seq ?_
  refine Run.seq ?_
  refine Run.ops0 (idx := [0, 1, 2, 3]) rfl ?_
  refine Run.go rfl rfl rfl (sem_move ((Value.pointer p1)) rfl ?_)
  refine Run.go rfl rfl rfl (sem_move ((Value.int .i64 (i2))) rfl ?_)
  refine Run.go rfl rfl rfl (sem_callL [(Value.pointer p1), (Value.int .i64 (i2))] (TF.goes_68) rfl rfl (Spec.mono hS fun v h5 hv => ?_))
  obtain ⟨b6, rfl, hS⟩ := hv
  obtain ⟨hT, hF⟩ := hS
  cases b6
  · have hS := hF rfl; clear hT hF
    refine Run.go rfl rfl rfl (sem_not false rfl ?_)
    refine Run.region_end ?_
    refine Run.condT rfl ?_
    refine Run.seq ?_
    refine Run.ops0 (idx := [0]) rfl ?_
    refine Run.go rfl rfl rfl (sem_assign ((Value.int .i64 (0))) rfl ?_)
    refine Run.region_end ?_
    refine Run.seq ?_
    refine Run.ops0 (idx := [0, 1, 2]) rfl ?_
    refine Run.go rfl rfl rfl (sem_move ((Value.int .i64 (0))) rfl ?_)
    refine Run.go rfl rfl rfl (sem_assign ((Value.int .i64 (0))) rfl ?_)
    refine Run.go rfl rfl rfl (sem_assign ((Value.int .i64 (0))) rfl ?_)
    refine Run.region_end ?_
    refine Run.ret ⟨.inr rfl, ?_⟩
    exact hS.imp fun h' hq => ⟨(0), (0), rfl, hq⟩
  · have hS := hT rfl; clear hT hF
    refine Run.go rfl rfl rfl (sem_not true rfl ?_)
    refine Run.region_end ?_
    refine Run.condF rfl ?_
    refine Run.skip ?_
    refine Run.seq ?_
    refine Run.draw (fun h' => h' = h5) [] [.q 0, .q 1, .q 2, .q 3, .q 4, .q 5, .q 6, .q 7, .q 8, .q 9, .q 10, .q 11, .q 12, .q 13, .q 14, .q 15, .q 16, .q 17] TF.mixed (by kernel_rfl) rfl ?_
    refine RunO.quiet rfl rfl rfl (quiet_eq (sem_move ((Value.pointer p1)) rfl ⟨rfl, rfl⟩)) ?_
    obtain ⟨A7, e8, hS⟩ := hS
    refine RunO.quiet rfl rfl rfl (quiet_eq (sem_nilCheck A7 (congrArg Value.pointer e8) ⟨rfl, rfl⟩)) ?_
    refine RunO.quiet rfl rfl rfl (quiet_eq (sem_fieldAddr A7 0 rfl TF.fld_127_0 ⟨rfl, rfl⟩)) ?_
    obtain ⟨a9, n10, c11, hl, hS⟩ := hS
    refine RunO.quiet rfl rfl rfl (quiet_eq (sem_load1 A7 ((Value.slice a9 n10 c11)) rfl TF.agg_125 hl ⟨rfl, rfl⟩)) ?_
    refine RunO.quiet rfl rfl rfl (quiet_eq (sem_move ((Value.int .i64 (i2))) rfl ⟨rfl, rfl⟩)) ?_
    obtain ⟨A12, e13, hi0, hi1, hS⟩ := hS
    refine RunO.quiet rfl rfl rfl (quiet_eq (sem_indexAddrS A12 n10 c11 .i64 (i2) (congrArg (fun a => Value.slice a n10 c11) e13) rfl TF.slc_125 hi0 hi1 ⟨rfl, rfl⟩)) ?_
    refine RunO.quiet rfl rfl rfl (quiet_eq (sem_fieldAddr (Addr.add A12 (Int.toNat (i2) * 2)) 0 rfl TF.fld_129_0 ⟨rfl, rfl⟩)) ?_
    obtain ⟨i14, hl, hS⟩ := hS
    refine RunO.quiet rfl rfl rfl (quiet_eq (sem_load1 (Addr.add A12 (Int.toNat (i2) * 2)) ((Value.int .i64 (i14))) rfl TF.agg_3 hl ⟨rfl, rfl⟩)) ?_
    refine RunO.quiet rfl rfl rfl (quiet_eq (sem_move ((Value.pointer p1)) rfl ⟨rfl, rfl⟩)) ?_
    obtain ⟨A15, e16, hS⟩ := hS
    refine RunO.quiet rfl rfl rfl (quiet_eq (sem_nilCheck A15 (congrArg Value.pointer e16) ⟨rfl, rfl⟩)) ?_
    refine RunO.quiet rfl rfl rfl (quiet_eq (sem_fieldAddr A15 0 rfl TF.fld_127_0 ⟨rfl, rfl⟩)) ?_
    obtain ⟨a17, n18, c19, hl, hS⟩ := hS
    refine RunO.quiet rfl rfl rfl (quiet_eq (sem_load1 A15 ((Value.slice a17 n18 c19)) rfl TF.agg_125 hl ⟨rfl, rfl⟩)) ?_
    refine RunO.quiet rfl rfl rfl (quiet_eq (sem_move ((Value.int .i64 (i2))) rfl ⟨rfl, rfl⟩)) ?_
    obtain ⟨A20, e21, hi0, hi1, hS⟩ := hS
    refine RunO.quiet rfl rfl rfl (quiet_eq (sem_indexAddrS A20 n18 c19 .i64 (i2) (congrArg (fun a => Value.slice a n18 c19) e21) rfl TF.slc_125 hi0 hi1 ⟨rfl, rfl⟩)) ?_
    refine RunO.quiet rfl rfl rfl (quiet_eq (sem_fieldAddr (Addr.add A20 (Int.toNat (i2) * 2)) 1 rfl TF.fld_129_1 ⟨rfl, rfl⟩)) ?_
    obtain ⟨i22, hl, hS⟩ := hS
    refine RunO.quiet rfl rfl rfl (quiet_eq (sem_load1 (Addr.add (Addr.add A20 (Int.toNat (i2) * 2)) 1) ((Value.int .i64 (i22))) rfl TF.agg_3 hl ⟨rfl, rfl⟩)) ?_
    refine RunO.quiet rfl rfl rfl (quiet_eq (sem_assign ((Value.int .i64 (i14))) rfl ⟨rfl, rfl⟩)) ?_
    refine RunO.quiet rfl rfl rfl (quiet_eq (sem_assign ((Value.int .i64 (i22))) rfl ⟨rfl, rfl⟩)) ?_
    refine Run.ret ⟨.inr rfl, ?_⟩
    exact hS.imp fun h' hq => ⟨(i14), (i22), rfl, hq⟩
set_option maxHeartbeats 4000000 in
theorem C_countermandref08_Row_Get.of {B : RO} {p1 : Option Addr} {i2 : Int} {h : Heap} {Q : Int → Int → Heap → Prop} (hS : S_countermandref08_Row_Get B p1 i2 h Q) : C_countermandref08_Row_Get B p1 i2 h Q := by
  unfold S_countermandref08_Row_Get at hS
  unfold C_countermandref08_Row_Get
  refine Spec.of_run Try.func31 (N := 51) (rs := [ResultVar.tmp 4, ResultVar.tmp 5]) rfl rfl rfl (Nat.le_of_ble_eq_true rfl) ?_
  refine Run.seq ?_
  refine Run.ops0 (idx := [0, 1]) rfl ?_
  refine Run.go rfl rfl rfl (sem_assign ((Value.int .i64 (0))) rfl ?_)
  refine Run.go rfl rfl rfl (sem_assign ((Value.int .i64 (0))) rfl ?_)
  refine Run.region_end ?_
  refine Run.seq ?_
  refine Run.seq ?_
  refine Run.ops0 (idx := [0, 1, 2, 3]) rfl ?_
  refine Run.go rfl rfl rfl (sem_move ((Value.pointer p1)) rfl ?_)
  refine Run.go rfl rfl rfl (sem_move ((Value.int .i64 (i2))) rfl ?_)
  refine Run.go rfl rfl rfl (sem_callL [(Value.pointer p1), (Value.int .i64 (i2))] (TF.goes_29) rfl rfl (Spec.mono hS fun v h5 hv => ?_))
  obtain ⟨b6, rfl, hS⟩ := hv
  obtain ⟨hT, hF⟩ := hS
  cases b6
  · have hS := hF rfl; clear hT hF
    refine Run.go rfl rfl rfl (sem_not false rfl ?_)
    refine Run.region_end ?_
    refine Run.condT rfl ?_
    refine Run.seq ?_
    refine Run.ops0 (idx := [0, 1]) rfl ?_
    refine Run.go rfl rfl rfl (sem_assign ((Value.int .i64 (0))) rfl ?_)
    refine Run.go rfl rfl rfl (sem_assign ((Value.int .i64 (0))) rfl ?_)
    refine Run.region_end ?_
    refine Run.ret ⟨.inr rfl, ?_⟩
    exact hS.imp fun h' hq => ⟨(0), (0), rfl, hq⟩
  · have hS := hT rfl; clear hT hF
    refine Run.go rfl rfl rfl (sem_not true rfl ?_)
    refine Run.region_end ?_
    refine Run.condF rfl ?_
    refine Run.skip ?_
    refine Run.seq ?_
    refine Run.seq ?_
    refine Run.ops0 (idx := [0, 1, 2, 3, 4, 5, 6]) rfl ?_
    refine Run.go rfl rfl rfl (sem_move ((Value.pointer p1)) rfl ?_)
    obtain ⟨A7, e8, hS⟩ := hS
    refine Run.go rfl rfl rfl (sem_nilCheck A7 (congrArg Value.pointer e8) ?_)
    refine Run.go rfl rfl rfl (sem_fieldAddr A7 2 rfl TF.fld_56_2 ?_)
    refine Run.ldSl hS fun a9 n10 c11 h12 hl hS => ?_
    refine Run.go rfl rfl rfl (sem_load1 (Addr.add A7 2) ((Value.slice a9 n10 c11)) rfl TF.agg_35 hl ?_)
    refine Run.go rfl rfl rfl (sem_lenSl a9 n10 c11 rfl TF.sl_35 ?_)
    refine Run.go rfl rfl rfl (sem_binI .i64 ((n10 : Nat)) (1) ((Value.int .i64 (IntKind.wrap .i64 (((n10 : Nat)) - (1))))) rfl rfl rfl ?_)
    refine Run.go rfl rfl rfl (sem_assign ((Value.int .i64 (IntKind.wrap .i64 (((n10 : Nat)) - (1))))) rfl ?_)
    refine Run.region_end ?_
    refine Run.block ?_
    obtain ⟨J18, m16, h0, hS⟩ := hS
    refine Run.of_fin (h0.imp fun h' h0 => ?_)
    refine Run.loop (σ := Int × Nat) (fun x e h => J18 x.1 x.2 h ∧ Agree [(0, (Value.pointer p1)), (1, (Value.int .i64 (i2))), (6, (Value.int .i64 (x.1)))] e) (fun x => x.2) ((IntKind.wrap .i64 (((n10 : Nat)) - (1))), m16) ⟨h0, ⟨rfl, rfl, rfl, trivial⟩⟩ ?_; clear h0
    rintro ⟨i13, m15⟩ e h14 ⟨hJ, hag⟩ ih17
    have hS := hS i13 m15 h14 hJ; clear hJ
    refine Run.env hag ?_; clear hag
    refine Run.seq ?_
    refine Run.seq ?_
    refine Run.ops0 (idx := [0, 1]) rfl ?_
    refine Run.go rfl rfl rfl (sem_move ((Value.int .i64 (i13))) rfl ?_)
    obtain ⟨hT, hF⟩ := hS
    by_cases hb19 : (i13 : Int) ≥ (0)
    · have hS := hT hb19; clear hT hF
      refine Run.go rfl rfl rfl (sem_binI .i64 (i13) (0) (.bool true) rfl rfl (binI_geq_t hb19) ?_)
      refine Run.region_end ?_
      refine Run.condT rfl ?_
      refine Run.skip ?_
      refine Run.seq ?_
      refine Run.block ?_
      refine Run.seq ?_
      refine Run.ops0 (idx := [0, 1, 2, 3, 4, 5, 6, 7, 8, 9]) rfl ?_
      refine Run.go rfl rfl rfl (sem_move ((Value.pointer p1)) rfl ?_)
      obtain ⟨A20, e21, hS⟩ := hS
      refine Run.go rfl rfl rfl (sem_nilCheck A20 (congrArg Value.pointer e21) ?_)
      refine Run.go rfl rfl rfl (sem_fieldAddr A20 2 rfl TF.fld_56_2 ?_)
      refine Run.ldSl hS fun a22 n23 c24 h25 hl hS => ?_
      refine Run.go rfl rfl rfl (sem_load1 (Addr.add A20 2) ((Value.slice a22 n23 c24)) rfl TF.agg_35 hl ?_)
      refine Run.go rfl rfl rfl (sem_move ((Value.int .i64 (i13))) rfl ?_)
      obtain ⟨A26, e27, hi0, hi1, hS⟩ := hS
      refine Run.go rfl rfl rfl (sem_indexAddrS A26 n23 c24 .i64 (i13) (congrArg (fun a => Value.slice a n23 c24) e27) rfl TF.slc_35 hi0 hi1 ?_)
      refine Run.go rfl rfl rfl (sem_fieldAddr (Addr.add A26 (Int.toNat (i13) * 3)) 0 rfl TF.fld_40_0 ?_)
      obtain ⟨i28, hl, hS⟩ := hS
      refine Run.go rfl rfl rfl (sem_load1 (Addr.add A26 (Int.toNat (i13) * 3)) ((Value.int .i64 (i28))) rfl TF.agg_3 hl ?_)
      refine Run.go rfl rfl rfl (sem_move ((Value.int .i64 (i2))) rfl ?_)
      obtain ⟨hT, hF⟩ := hS
      by_cases hb29 : (i28 : Int) = i2
      · have hS := hT hb29; clear hT hF
        refine Run.go rfl rfl rfl (sem_binI .i64 (i28) (i2) (.bool true) rfl rfl (binI_eql_t hb29) ?_)
        refine Run.region_end ?_
        refine Run.condT rfl ?_
        refine Run.seq ?_
        refine Run.draw (fun h' => h' = h25) [] [.q 0, .q 1, .q 2, .q 3, .q 4, .q 5, .q 6, .q 7, .q 8, .q 9, .q 10, .q 11, .q 12, .q 13, .q 14, .q 15, .q 16, .q 17] TF.mixed (by kernel_rfl) rfl ?_
        refine RunO.quiet rfl rfl rfl (quiet_eq (sem_move ((Value.pointer p1)) rfl ⟨rfl, rfl⟩)) ?_
        obtain ⟨A30, e31, hS⟩ := hS
        refine RunO.quiet rfl rfl rfl (quiet_eq (sem_nilCheck A30 (congrArg Value.pointer e31) ⟨rfl, rfl⟩)) ?_
        refine RunO.quiet rfl rfl rfl (quiet_eq (sem_fieldAddr A30 2 rfl TF.fld_56_2 ⟨rfl, rfl⟩)) ?_
        obtain ⟨a32, n33, c34, hl, hS⟩ := hS
        refine RunO.quiet rfl rfl rfl (quiet_eq (sem_load1 (Addr.add A30 2) ((Value.slice a32 n33 c34)) rfl TF.agg_35 hl ⟨rfl, rfl⟩)) ?_
        refine RunO.quiet rfl rfl rfl (quiet_eq (sem_move ((Value.int .i64 (i13))) rfl ⟨rfl, rfl⟩)) ?_
        obtain ⟨A35, e36, hi0, hi1, hS⟩ := hS
        refine RunO.quiet rfl rfl rfl (quiet_eq (sem_indexAddrS A35 n33 c34 .i64 (i13) (congrArg (fun a => Value.slice a n33 c34) e36) rfl TF.slc_35 hi0 hi1 ⟨rfl, rfl⟩)) ?_
        refine RunO.quiet rfl rfl rfl (quiet_eq (sem_fieldAddr (Addr.add A35 (Int.toNat (i13) * 3)) 1 rfl TF.fld_40_1 ⟨rfl, rfl⟩)) ?_
        obtain ⟨i37, hl, hS⟩ := hS
        refine RunO.quiet rfl rfl rfl (quiet_eq (sem_load1 (Addr.add (Addr.add A35 (Int.toNat (i13) * 3)) 1) ((Value.int .i64 (i37))) rfl TF.agg_3 hl ⟨rfl, rfl⟩)) ?_
        refine RunO.quiet rfl rfl rfl (quiet_eq (sem_move ((Value.pointer p1)) rfl ⟨rfl, rfl⟩)) ?_
        obtain ⟨A38, e39, hS⟩ := hS
        refine RunO.quiet rfl rfl rfl (quiet_eq (sem_nilCheck A38 (congrArg Value.pointer e39) ⟨rfl, rfl⟩)) ?_
        refine RunO.quiet rfl rfl rfl (quiet_eq (sem_fieldAddr A38 2 rfl TF.fld_56_2 ⟨rfl, rfl⟩)) ?_
        obtain ⟨a40, n41, c42, hl, hS⟩ := hS
        refine RunO.quiet rfl rfl rfl (quiet_eq (sem_load1 (Addr.add A38 2) ((Value.slice a40 n41 c42)) rfl TF.agg_35 hl ⟨rfl, rfl⟩)) ?_
        refine RunO.quiet rfl rfl rfl (quiet_eq (sem_move ((Value.int .i64 (i13))) rfl ⟨rfl, rfl⟩)) ?_
        obtain ⟨A43, e44, hi0, hi1, hS⟩ := hS
        refine RunO.quiet rfl rfl rfl (quiet_eq (sem_indexAddrS A43 n41 c42 .i64 (i13) (congrArg (fun a => Value.slice a n41 c42) e44) rfl TF.slc_35 hi0 hi1 ⟨rfl, rfl⟩)) ?_
        refine RunO.quiet rfl rfl rfl (quiet_eq (sem_fieldAddr (Addr.add A43 (Int.toNat (i13) * 3)) 2 rfl TF.fld_40_2 ⟨rfl, rfl⟩)) ?_
        obtain ⟨i45, hl, hS⟩ := hS
        refine RunO.quiet rfl rfl rfl (quiet_eq (sem_load1 (Addr.add (Addr.add A43 (Int.toNat (i13) * 3)) 2) ((Value.int .i64 (i45))) rfl TF.agg_3 hl ⟨rfl, rfl⟩)) ?_
        refine RunO.quiet rfl rfl rfl (quiet_eq (sem_assign ((Value.int .i64 (i37))) rfl ⟨rfl, rfl⟩)) ?_
        refine RunO.quiet rfl rfl rfl (quiet_eq (sem_assign ((Value.int .i64 (i45))) rfl ⟨rfl, rfl⟩)) ?_
        refine Run.ret ⟨.inr rfl, ?_⟩
        exact hS.imp fun h' hq => ⟨(i37), (i45), rfl, hq⟩
      · have hS := hF hb29; clear hT hF
        refine Run.go rfl rfl rfl (sem_binI .i64 (i28) (i2) (.bool false) rfl rfl (binI_eql_f hb29) ?_)
        refine Run.region_end ?_
        refine Run.condF rfl ?_
        refine Run.skip ?_
        refine Run.inBlock ?_
        refine Run.ops0 (idx := [0, 1, 2]) rfl ?_
        refine Run.go rfl rfl rfl (sem_move ((Value.int .i64 (i13))) rfl ?_)
        refine Run.go rfl rfl rfl (sem_binI .i64 (i13) (1) ((Value.int .i64 (IntKind.wrap .i64 ((i13) - (1))))) rfl rfl rfl ?_)
        refine Run.go rfl rfl rfl (sem_assign ((Value.int .i64 (IntKind.wrap .i64 ((i13) - (1))))) rfl ?_)
        refine Run.region_end ?_
        exact Run.of_fin (hS.imp fun h' ⟨m', hm, hS⟩ => ih17 ((IntKind.wrap .i64 ((i13) - (1))), m') _ _ ⟨hS, ⟨rfl, rfl, rfl, trivial⟩⟩ hm)
    · have hS := hF hb19; clear hT hF
      refine Run.go rfl rfl rfl (sem_binI .i64 (i13) (0) (.bool false) rfl rfl (binI_geq_f hb19) ?_)
      refine Run.region_end ?_
      refine Run.condF rfl ?_
      refine Run.exit rfl ?_
      refine Run.seq ?_
      refine Run.ops0 (idx := [0, 1, 2, 3, 4, 5]) rfl ?_
      refine Run.go rfl rfl rfl (sem_move ((Value.pointer p1)) rfl ?_)
      obtain ⟨A46, e47, hS⟩ := hS
      refine Run.go rfl rfl rfl (sem_nilCheck A46 (congrArg Value.pointer e47) ?_)
      refine Run.go rfl rfl rfl (sem_fieldAddr A46 1 rfl TF.fld_56_1 ?_)
      obtain ⟨i48, hl, hS⟩ := hS
      refine Run.go rfl rfl rfl (sem_load1 (Addr.add A46 1) ((Value.int .i64 (i48))) rfl TF.agg_3 hl ?_)
      refine Run.go rfl rfl rfl (sem_assign ((Value.int .i64 (i48))) rfl ?_)
      refine Run.go rfl rfl rfl (sem_assign ((Value.int .i64 (0))) rfl ?_)
      refine Run.region_end ?_
      refine Run.ret ⟨.inr rfl, ?_⟩
      exact hS.imp fun h' hq => ⟨(i48), (0), rfl, hq⟩
set_option maxHeartbeats 4000000 in
theorem C_cell_Row_int_Version.of {B : RO} {p1 : Option Addr} {i2 : Int} {h : Heap} {Q : Int → Heap → Prop} (hS : S_cell_Row_int_Version B p1 i2 h Q) : C_cell_Row_int_Version B p1 i2 h Q := by
  unfold S_cell_Row_int_Version at hS
  unfold C_cell_Row_int_Version
  refine Spec.of_run Try.func32 (N := 14) (rs := [ResultVar.tmp 4]) rfl rfl rfl (Nat.le_of_ble_eq_true rfl) ?_
  refine Run.seq ?_
  refine Run.ops0 (idx := [0]) rfl ?_
  refine Run.go rfl rfl rfl (sem_assign ((Value.int .i64 (0))) rfl ?_)
  refine Run.region_end ?_
  refine Run.seq ?_
  refine Run.ops0 (idx := [0, 1, 2, 3, 4, 5, 6, 7]) rfl ?_
  refine Run.go rfl rfl rfl (sem_move ((Value.pointer p1)) rfl ?_)
  refine Run.go rfl rfl rfl (sem_move ((Value.int .i64 (i2))) rfl ?_)
  refine Run.go rfl rfl rfl (sem_callL [(Value.pointer p1), (Value.int .i64 (i2))] (TF.goes_30) rfl rfl (Spec.mono hS fun v h4 hv => ?_))
  obtain ⟨i5, i6, rfl, hS⟩ := hv
  refine Run.go rfl rfl rfl (sem_move ((Value.tuple #[(Value.int .i64 (i5)), (Value.int .i64 (i6))])) rfl ?_)
  refine Run.go rfl rfl rfl (sem_extract #[(Value.int .i64 (i5)), (Value.int .i64 (i6))] ((Value.int .i64 (i5))) rfl rfl ?_)
  refine Run.go rfl rfl rfl (sem_extract #[(Value.int .i64 (i5)), (Value.int .i64 (i6))] ((Value.int .i64 (i6))) rfl rfl ?_)
  refine Run.go rfl rfl rfl (sem_assign ((Value.int .i64 (i5))) rfl ?_)
  refine Run.go rfl rfl rfl (sem_assign ((Value.int .i64 (i6))) rfl ?_)
  refine Run.region_end ?_
  refine Run.seq ?_
  refine Run.ops0 (idx := [0, 1]) rfl ?_
  refine Run.go rfl rfl rfl (sem_move ((Value.int .i64 (i6))) rfl ?_)
  refine Run.go rfl rfl rfl (sem_assign ((Value.int .i64 (i6))) rfl ?_)
  refine Run.region_end ?_
  refine Run.ret ⟨.inr rfl, ?_⟩
  exact hS.imp fun h' hq => ⟨(i6), rfl, hq⟩
set_option maxHeartbeats 4000000 in
theorem C_cell_Row_int_Len.of {B : RO} {p1 : Option Addr} {h : Heap} {Q : Int → Heap → Prop} (hS : S_cell_Row_int_Len B p1 h Q) : C_cell_Row_int_Len B p1 h Q := by
  unfold S_cell_Row_int_Len at hS
  unfold C_cell_Row_int_Len
  refine Spec.of_run Try.func33 (N := 10) (rs := [ResultVar.tmp 2]) rfl rfl rfl (Nat.le_of_ble_eq_true rfl) ?_
  refine Run.seq ?_
  refine Run.ops0 (idx := [0]) rfl ?_
  refine Run.go rfl rfl rfl (sem_assign ((Value.int .i64 (0))) rfl ?_)
  refine Run.region_end ?_
  refine Run.seq ?_
  refine Run.seq ?_
  refine Run.ops0 (idx := [0, 1]) rfl ?_
  refine Run.go rfl rfl rfl (sem_move ((Value.pointer p1)) rfl ?_)
  obtain ⟨hT, hF⟩ := hS
  by_cases hb3 : p1 = none
  · have hS := hT hb3; clear hT hF
    refine Run.go rfl rfl rfl (sem_ptrNilT p1 (.inl rfl) true rfl rfl TF.ptr_36 hb3 rfl ?_)
    refine Run.region_end ?_
    refine Run.condT rfl ?_
    refine Run.seq ?_
    refine Run.ops0 (idx := [0]) rfl ?_
    refine Run.go rfl rfl rfl (sem_assign ((Value.int .i64 (0))) rfl ?_)
    refine Run.region_end ?_
    refine Run.ret ⟨.inr rfl, ?_⟩
    exact hS.imp fun h' hq => ⟨(0), rfl, hq⟩
  · have hS := hF hb3; clear hT hF
    refine Run.go rfl rfl rfl (sem_ptrNilF p1 (.inl rfl) false rfl rfl TF.ptr_36 hb3 rfl ?_)
    refine Run.region_end ?_
    refine Run.condF rfl ?_
    refine Run.skip ?_
    refine Run.seq ?_
    refine Run.ops0 (idx := [0, 1, 2, 3, 4, 5]) rfl ?_
    refine Run.go rfl rfl rfl (sem_move ((Value.pointer p1)) rfl ?_)
    obtain ⟨A4, e5, hS⟩ := hS
    refine Run.go rfl rfl rfl (sem_nilCheck A4 (congrArg Value.pointer e5) ?_)
    refine Run.go rfl rfl rfl (sem_fieldAddr A4 0 rfl TF.fld_127_0 ?_)
    refine Run.ldSl hS fun a6 n7 c8 h9 hl hS => ?_
    refine Run.go rfl rfl rfl (sem_load1 A4 ((Value.slice a6 n7 c8)) rfl TF.agg_125 hl ?_)
    refine Run.go rfl rfl rfl (sem_lenSl a6 n7 c8 rfl TF.sl_125 ?_)
    refine Run.go rfl rfl rfl (sem_assign ((Value.int .i64 ((n7 : Nat)))) rfl ?_)
    refine Run.region_end ?_
    refine Run.ret ⟨.inr rfl, ?_⟩
    exact hS.imp fun h' hq => ⟨((n7 : Nat)), rfl, hq⟩
set_option maxHeartbeats 4000000 in
theorem C_cell_Row_int_All.of {B : RO} {p1 : Option Addr} {h : Heap} {Q : Value → Heap → Prop} (hS : S_cell_Row_int_All B p1 h Q) : C_cell_Row_int_All B p1 h Q := by
  unfold S_cell_Row_int_All at hS
  unfold C_cell_Row_int_All
  refine Spec.of_run Try.func34 (N := 4) (rs := [ResultVar.tmp 2]) rfl rfl rfl (Nat.le_of_ble_eq_true rfl) ?_
  refine Run.seq ?_
  refine Run.ops0 (idx := [0, 1]) rfl ?_
  refine Run.go rfl rfl rfl (sem_box1N ((Value.pointer p1)) rfl rfl (fun k3 hb1 hb2 h4 hb3 => ?_))
  have hS := hS k3 hb1 hb2 h4 hb3
  refine Run.go rfl rfl rfl (sem_assign (Value.nilFunc) rfl ?_)
  refine Run.region_end ?_
  refine Run.seq ?_
  refine Run.ops0 (idx := [0, 1]) rfl ?_
  refine Run.go rfl rfl rfl (sem_makeFuncL [] [(Value.pointer (some ⟨k3, 0, none⟩))] rfl rfl ?_)
  refine Run.go rfl rfl rfl (sem_assign ((Value.func (.func 71) #[] #[(Value.pointer (some ⟨k3, 0, none⟩))])) rfl ?_)
  refine Run.region_end ?_
  refine Run.ret ⟨.inr rfl, ?_⟩
  exact hS.imp fun h' hq => ⟨(Value.func (.func 71) #[] #[(Value.pointer (some ⟨k3, 0, none⟩))]), rfl, hq⟩
set_option maxHeartbeats 4000000 in
theorem C_cell_Row_int_is.of {B : RO} {p1 : Option Addr} {i2 : Int} {h : Heap} {Q : Bool → Heap → Prop} (hS : S_cell_Row_int_is B p1 i2 h Q) : C_cell_Row_int_is B p1 i2 h Q := by
  unfold S_cell_Row_int_is at hS
  unfold C_cell_Row_int_is
  refine Spec.of_run Try.func68 (N := 20) (rs := [ResultVar.tmp 4]) rfl rfl rfl (Nat.le_of_ble_eq_true rfl) ?_
  refine Run.seq ?_
  refine Run.ops0 (idx := [0]) rfl ?_
  refine Run.go rfl rfl rfl (sem_assign ((Value.bool false)) rfl ?_)
  refine Run.region_end ?_
  refine Run.seq ?_
  refine Run.ops0 (idx := [0, 1, 2, 3, 4, 5, 6, 7, 8, 9, 10, 11, 12, 13, 14, 15]) rfl ?_
  refine Run.go rfl rfl rfl (sem_move ((Value.pointer p1)) rfl ?_)
  obtain ⟨hT, hF⟩ := hS
  by_cases hb4 : p1 = none
  · have hS := hT hb4; clear hT hF
    refine Run.go rfl rfl rfl (sem_ptrNilT p1 (.inr rfl) false rfl rfl TF.ptr_36 hb4 rfl ?_)
    refine Run.go rfl rfl rfl (sem_move ((Value.bool false)) rfl ?_)
    refine Run.no rfl rfl rfl ?_
    refine Run.no rfl rfl rfl ?_
    refine Run.go rfl rfl rfl (sem_pick false ((Value.bool false)) rfl rfl ?_)
    refine Run.go rfl rfl rfl (sem_move ((Value.bool false)) rfl ?_)
    refine Run.no rfl rfl rfl ?_
    refine Run.no rfl rfl rfl ?_
    refine Run.no rfl rfl rfl ?_
    refine Run.no rfl rfl rfl ?_
    refine Run.no rfl rfl rfl ?_
    refine Run.no rfl rfl rfl ?_
    refine Run.no rfl rfl rfl ?_
    refine Run.go rfl rfl rfl (sem_pick false ((Value.bool false)) rfl rfl ?_)
    refine Run.go rfl rfl rfl (sem_assign ((Value.bool false)) rfl ?_)
    refine Run.region_end ?_
    refine Run.ret ⟨.inr rfl, ?_⟩
    exact hS.imp fun h' hq => ⟨(false), rfl, hq⟩
  · have hS := hF hb4; clear hT hF
    refine Run.go rfl rfl rfl (sem_ptrNilF p1 (.inr rfl) true rfl rfl TF.ptr_36 hb4 rfl ?_)
    refine Run.go rfl rfl rfl (sem_move ((Value.bool true)) rfl ?_)
    refine Run.go rfl rfl rfl (sem_move ((Value.int .i64 (i2))) rfl ?_)
    obtain ⟨hT, hF⟩ := hS
    by_cases hb5 : (i2 : Int) ≥ (0)
    · have hS := hT hb5; clear hT hF
      refine Run.go rfl rfl rfl (sem_binI .i64 (i2) (0) (.bool true) rfl rfl (binI_geq_t hb5) ?_)
      refine Run.go rfl rfl rfl (sem_pick true ((Value.bool true)) rfl rfl ?_)
      refine Run.go rfl rfl rfl (sem_move ((Value.bool true)) rfl ?_)
      refine Run.go rfl rfl rfl (sem_move ((Value.int .i64 (i2))) rfl ?_)
      refine Run.go rfl rfl rfl (sem_move ((Value.pointer p1)) rfl ?_)
      obtain ⟨A6, e7, hS⟩ := hS
      refine Run.go rfl rfl rfl (sem_nilCheck A6 (congrArg Value.pointer e7) ?_)
      refine Run.go rfl rfl rfl (sem_fieldAddr A6 0 rfl TF.fld_127_0 ?_)
      refine Run.ldSl hS fun a8 n9 c10 h11 hl hS => ?_
      refine Run.go rfl rfl rfl (sem_load1 A6 ((Value.slice a8 n9 c10)) rfl TF.agg_125 hl ?_)
      refine Run.go rfl rfl rfl (sem_lenSl a8 n9 c10 rfl TF.sl_125 ?_)
      refine Run.go rfl rfl rfl (sem_binI .i64 (i2) ((n9 : Nat)) ((Value.bool (decide ((i2 : Int) < ((n9 : Nat)))))) rfl rfl rfl ?_)
      refine Run.go rfl rfl rfl (sem_pick true ((Value.bool (decide ((i2 : Int) < ((n9 : Nat)))))) rfl rfl ?_)
      refine Run.go rfl rfl rfl (sem_assign ((Value.bool (decide ((i2 : Int) < ((n9 : Nat)))))) rfl ?_)
      refine Run.region_end ?_
      refine Run.ret ⟨.inr rfl, ?_⟩
      exact hS.imp fun h' hq => ⟨((decide ((i2 : Int) < ((n9 : Nat))))), rfl, hq⟩
    · have hS := hF hb5; clear hT hF
      refine Run.go rfl rfl rfl (sem_binI .i64 (i2) (0) (.bool false) rfl rfl (binI_geq_f hb5) ?_)
      refine Run.go rfl rfl rfl (sem_pick true ((Value.bool false)) rfl rfl ?_)
      refine Run.go rfl rfl rfl (sem_move ((Value.bool false)) rfl ?_)
      refine Run.no rfl rfl rfl ?_
      refine Run.no rfl rfl rfl ?_
      refine Run.no rfl rfl rfl ?_
      refine Run.no rfl rfl rfl ?_
      refine Run.no rfl rfl rfl ?_
      refine Run.no rfl rfl rfl ?_
      refine Run.no rfl rfl rfl ?_
      refine Run.go rfl rfl rfl (sem_pick false ((Value.bool false)) rfl rfl ?_)
      refine Run.go rfl rfl rfl (sem_assign ((Value.bool false)) rfl ?_)
      refine Run.region_end ?_
      refine Run.ret ⟨.inr rfl, ?_⟩
      exact hS.imp fun h' hq => ⟨(false), rfl, hq⟩
set_option maxHeartbeats 4000000 in
theorem C_cell_Row_string_is.of {B : RO} {p1 : Option Addr} {i2 : Int} {h : Heap} {Q : Bool → Heap → Prop} (hS : S_cell_Row_string_is B p1 i2 h Q) : C_cell_Row_string_is B p1 i2 h Q := by
  unfold S_cell_Row_string_is at hS
  unfold C_cell_Row_string_is
  refine Spec.of_run Try.func69 (N := 20) (rs := [ResultVar.tmp 4]) rfl rfl rfl (Nat.le_of_ble_eq_true rfl) ?_
  refine Run.seq ?_
  refine Run.ops0 (idx := [0]) rfl ?_
  refine Run.go rfl rfl rfl (sem_assign ((Value.bool false)) rfl ?_)
  refine Run.region_end ?_
  refine Run.seq ?_
  refine Run.ops0 (idx := [0, 1, 2, 3, 4, 5, 6, 7, 8, 9, 10, 11, 12, 13, 14, 15]) rfl ?_
  refine Run.go rfl rfl rfl (sem_move ((Value.pointer p1)) rfl ?_)
  obtain ⟨hT, hF⟩ := hS
  by_cases hb4 : p1 = none
  · have hS := hT hb4; clear hT hF
    refine Run.go rfl rfl rfl (sem_ptrNilT p1 (.inr rfl) false rfl rfl TF.ptr_44 hb4 rfl ?_)
    refine Run.go rfl rfl rfl (sem_move ((Value.bool false)) rfl ?_)
    refine Run.no rfl rfl rfl ?_
    refine Run.no rfl rfl rfl ?_
    refine Run.go rfl rfl rfl (sem_pick false ((Value.bool false)) rfl rfl ?_)
    refine Run.go rfl rfl rfl (sem_move ((Value.bool false)) rfl ?_)
    refine Run.no rfl rfl rfl ?_
    refine Run.no rfl rfl rfl ?_
    refine Run.no rfl rfl rfl ?_
    refine Run.no rfl rfl rfl ?_
    refine Run.no rfl rfl rfl ?_
    refine Run.no rfl rfl rfl ?_
    refine Run.no rfl rfl rfl ?_
    refine Run.go rfl rfl rfl (sem_pick false ((Value.bool false)) rfl rfl ?_)
    refine Run.go rfl rfl rfl (sem_assign ((Value.bool false)) rfl ?_)
    refine Run.region_end ?_
    refine Run.ret ⟨.inr rfl, ?_⟩
    exact hS.imp fun h' hq => ⟨(false), rfl, hq⟩
  · have hS := hF hb4; clear hT hF
    refine Run.go rfl rfl rfl (sem_ptrNilF p1 (.inr rfl) true rfl rfl TF.ptr_44 hb4 rfl ?_)
    refine Run.go rfl rfl rfl (sem_move ((Value.bool true)) rfl ?_)
    refine Run.go rfl rfl rfl (sem_move ((Value.int .i64 (i2))) rfl ?_)
    obtain ⟨hT, hF⟩ := hS
    by_cases hb5 : (i2 : Int) ≥ (0)
    · have hS := hT hb5; clear hT hF
      refine Run.go rfl rfl rfl (sem_binI .i64 (i2) (0) (.bool true) rfl rfl (binI_geq_t hb5) ?_)
      refine Run.go rfl rfl rfl (sem_pick true ((Value.bool true)) rfl rfl ?_)
      refine Run.go rfl rfl rfl (sem_move ((Value.bool true)) rfl ?_)
      refine Run.go rfl rfl rfl (sem_move ((Value.int .i64 (i2))) rfl ?_)
      refine Run.go rfl rfl rfl (sem_move ((Value.pointer p1)) rfl ?_)
      obtain ⟨A6, e7, hS⟩ := hS
      refine Run.go rfl rfl rfl (sem_nilCheck A6 (congrArg Value.pointer e7) ?_)
      refine Run.go rfl rfl rfl (sem_fieldAddr A6 0 rfl TF.fld_132_0 ?_)
      refine Run.ldSl hS fun a8 n9 c10 h11 hl hS => ?_
      refine Run.go rfl rfl rfl (sem_load1 A6 ((Value.slice a8 n9 c10)) rfl TF.agg_130 hl ?_)
      refine Run.go rfl rfl rfl (sem_lenSl a8 n9 c10 rfl TF.sl_130 ?_)
      refine Run.go rfl rfl rfl (sem_binI .i64 (i2) ((n9 : Nat)) ((Value.bool (decide ((i2 : Int) < ((n9 : Nat)))))) rfl rfl rfl ?_)
      refine Run.go rfl rfl rfl (sem_pick true ((Value.bool (decide ((i2 : Int) < ((n9 : Nat)))))) rfl rfl ?_)
      refine Run.go rfl rfl rfl (sem_assign ((Value.bool (decide ((i2 : Int) < ((n9 : Nat)))))) rfl ?_)
      refine Run.region_end ?_
      refine Run.ret ⟨.inr rfl, ?_⟩
      exact hS.imp fun h' hq => ⟨((decide ((i2 : Int) < ((n9 : Nat))))), rfl, hq⟩
    · have hS := hF hb5; clear hT hF
      refine Run.go rfl rfl rfl (sem_binI .i64 (i2) (0) (.bool false) rfl rfl (binI_geq_f hb5) ?_)
      refine Run.go rfl rfl rfl (sem_pick true ((Value.bool false)) rfl rfl ?_)
      refine Run.go rfl rfl rfl (sem_move ((Value.bool false)) rfl ?_)
      refine Run.no rfl rfl rfl ?_
      refine Run.no rfl rfl rfl ?_
      refine Run.no rfl rfl rfl ?_
      refine Run.no rfl rfl rfl ?_
      refine Run.no rfl rfl rfl ?_
      refine Run.no rfl rfl rfl ?_
      refine Run.no rfl rfl rfl ?_
      refine Run.go rfl rfl rfl (sem_pick false ((Value.bool false)) rfl rfl ?_)
      refine Run.go rfl rfl rfl (sem_assign ((Value.bool false)) rfl ?_)
      refine Run.region_end ?_
      refine Run.ret ⟨.inr rfl, ?_⟩
      exact hS.imp fun h' hq => ⟨(false), rfl, hq⟩
set_option maxHeartbeats 4000000 in
theorem C_cell_Row_string_All_1.of {B : RO} {v1 : Value} {A2 : Addr} {h : Heap} {Q : Heap → Prop} (hS : S_cell_Row_string_All_1 B v1 A2 h Q) : C_cell_Row_string_All_1 B v1 A2 h Q := by
  unfold S_cell_Row_string_All_1 at hS
  unfold C_cell_Row_string_All_1
  refine Spec.of_run Try.func70 (N := 24) (rs := []) rfl rfl rfl (Nat.le_of_ble_eq_true rfl) ?_
  refine Run.seq ?_
  refine Run.seq ?_
  refine Run.ops0 (idx := [0, 1]) rfl ?_
  obtain ⟨p3, hl, hS⟩ := hS
  refine Run.go rfl rfl rfl (sem_load1 A2 ((Value.pointer p3)) rfl TF.agg_44 hl ?_)
  obtain ⟨hT, hF⟩ := hS
  by_cases hb4 : p3 = none
  · have hS := hT hb4; clear hT hF
    refine Run.go rfl rfl rfl (sem_ptrNilT p3 (.inl rfl) true rfl rfl TF.ptr_44 hb4 rfl ?_)
    refine Run.region_end ?_
    refine Run.condT rfl ?_
    refine Run.ret ⟨.inr rfl, ?_⟩
    exact hS.imp fun h' hq => ⟨rfl, hq⟩
  · have hS := hF hb4; clear hT hF
    refine Run.go rfl rfl rfl (sem_ptrNilF p3 (.inl rfl) false rfl rfl TF.ptr_44 hb4 rfl ?_)
    refine Run.region_end ?_
    refine Run.condF rfl ?_
    refine Run.skip ?_
    refine Run.seq ?_
    refine Run.ops0 (idx := [0, 1, 2, 3, 4, 5]) rfl ?_
    obtain ⟨p5, hl, hS⟩ := hS
    refine Run.go rfl rfl rfl (sem_load1 A2 ((Value.pointer p5)) rfl TF.agg_44 hl ?_)
    obtain ⟨A6, e7, hS⟩ := hS
    refine Run.go rfl rfl rfl (sem_nilCheck A6 (congrArg Value.pointer e7) ?_)
    refine Run.go rfl rfl rfl (sem_fieldAddr A6 0 rfl TF.fld_132_0 ?_)
    refine Run.ldSl hS fun a8 n9 c10 h11 hl hS => ?_
    refine Run.go rfl rfl rfl (sem_load1 A6 ((Value.slice a8 n9 c10)) rfl TF.agg_130 hl ?_)
    refine Run.go rfl rfl rfl (sem_lenSl a8 n9 c10 rfl TF.sl_130 ?_)
    refine Run.go rfl rfl rfl (sem_move ((Value.int .i64 (0))) rfl ?_)
    refine Run.region_end ?_
    refine Run.block ?_
    obtain ⟨J17, m15, h0, hS⟩ := hS
    refine Run.of_fin (h0.imp fun h' h0 => ?_)
    refine Run.loop (σ := Int × Nat) (fun x e h => J17 x.1 x.2 h ∧ Agree [(0, v1), (10, (Value.slice a8 n9 c10)), (11, (Value.int .i64 ((n9 : Nat)))), (12, (Value.int .i64 (x.1)))] e) (fun x => x.2) ((0), m15) ⟨h0, ⟨rfl, rfl, rfl, rfl, trivial⟩⟩ ?_; clear h0
    rintro ⟨i12, m14⟩ e h13 ⟨hJ, hag⟩ ih16
    have hS := hS i12 m14 h13 hJ; clear hJ
    refine Run.env hag ?_; clear hag
    refine Run.seq ?_
    refine Run.ops0 (idx := [0]) rfl ?_
    obtain ⟨hT, hF⟩ := hS
    by_cases hb18 : (i12 : Int) < ((n9 : Nat))
    · have hS := hT hb18; clear hT hF
      refine Run.go rfl rfl rfl (sem_binI .i64 (i12) ((n9 : Nat)) (.bool true) rfl rfl (binI_lss_t hb18) ?_)
      refine Run.region_end ?_
      refine Run.seq ?_
      refine Run.condT rfl ?_
      refine Run.skip ?_
      refine Run.seq ?_
      refine Run.block ?_
      refine Run.seq ?_
      refine Run.ops0 (idx := [0, 1, 2, 3, 4, 5]) rfl ?_
      refine Run.go rfl rfl rfl (sem_move ((Value.int .i64 (i12))) rfl ?_)
      obtain ⟨A19, e20, hi0, hi1, hS⟩ := hS
      refine Run.go rfl rfl rfl (sem_indexAddrS A19 n9 c10 .i64 (i12) (congrArg (fun a => Value.slice a n9 c10) e20) rfl TF.slc_130 hi0 hi1 ?_)
      obtain ⟨s21, i22, hl, hS⟩ := hS
      refine Run.go rfl rfl rfl (sem_loadN (Addr.add A19 (Int.toNat (i12) * 2)) [(Value.string s21), (Value.int .i64 (i22))] rfl TF.agg_134 TF.sz_134 hl ?_)
      refine Run.go rfl rfl rfl (sem_allocN [(Value.string ByteArray.empty), (Value.int .i64 (0))] TF.zero_134 (fun k23 hb1 hb2 h24 hb3 => ?_))
      have hS := hS k23 hb1 hb2 h24 hb3
      refine Run.go rfl rfl rfl (sem_assign ((Value.int .i64 (i12))) rfl ?_)
      obtain ⟨h25, hst, hS⟩ := hS
      refine Run.go rfl rfl rfl (sem_storeN ⟨k23, 0, none⟩ [(Value.string s21), (Value.int .i64 (i22))] h25 rfl rfl TF.sz_134 hst ?_)
      refine Run.region_end ?_
      refine Run.seq ?_
      refine Run.ops0 (idx := [0, 1, 2, 3, 4, 5]) rfl ?_
      refine Run.go rfl rfl rfl (sem_move (v1) rfl ?_)
      refine Run.go rfl rfl rfl (sem_move ((Value.int .i64 (i12))) rfl ?_)
      refine Run.go rfl rfl rfl (sem_fieldAddr ⟨k23, 0, none⟩ 0 rfl TF.fld_134_0 ?_)
      obtain ⟨s26, hl, hS⟩ := hS
      refine Run.go rfl rfl rfl (sem_load1 ⟨k23, 0, none⟩ ((Value.string s26)) rfl TF.agg_9 hl ?_)
      refine Run.go rfl rfl rfl (sem_callV (v1) [(Value.int .i64 (i12)), (Value.string s26)] rfl rfl hS (fun nx h' ha => ha.mono fun v h27 hv => ?_))
      obtain ⟨b28, rfl, hS⟩ := hv
      obtain ⟨hT, hF⟩ := hS
      cases b28
      · have hS := hF rfl; clear hT hF
        refine Run.go rfl rfl rfl (sem_not false rfl ?_)
        refine Run.region_end ?_
        refine Run.condT rfl ?_
        refine Run.ret ⟨.inr rfl, ?_⟩
        exact hS.imp fun h' hq => ⟨rfl, hq⟩
      · have hS := hT rfl; clear hT hF
        refine Run.go rfl rfl rfl (sem_not true rfl ?_)
        refine Run.region_end ?_
        refine Run.condF rfl ?_
        refine Run.skip ?_
        refine Run.inBlock ?_
        refine Run.ops0 (idx := [0, 1]) rfl ?_
        refine Run.go rfl rfl rfl (sem_binI .i64 (i12) (1) ((Value.int .i64 (IntKind.wrap .i64 ((i12) + (1))))) rfl rfl rfl ?_)
        refine Run.go rfl rfl rfl (sem_move ((Value.int .i64 (IntKind.wrap .i64 ((i12) + (1))))) rfl ?_)
        refine Run.region_end ?_
        exact Run.of_fin (hS.imp fun h' ⟨m', hm, hS⟩ => ih16 ((IntKind.wrap .i64 ((i12) + (1))), m') _ _ ⟨hS, ⟨rfl, rfl, rfl, rfl, trivial⟩⟩ hm)
    · have hS := hF hb18; clear hT hF
      refine Run.go rfl rfl rfl (sem_binI .i64 (i12) ((n9 : Nat)) (.bool false) rfl rfl (binI_lss_f hb18) ?_)
      refine Run.region_end ?_
      refine Run.seq ?_
      refine Run.condF rfl ?_
      refine Run.exit rfl ?_
      refine Run.fall ⟨.inl rfl, ?_⟩
      exact hS.imp fun h' hq => ⟨rfl, hq⟩
set_option maxHeartbeats 4000000 in
theorem C_cell_Row_int_All_1.of {B : RO} {v1 : Value} {A2 : Addr} {h : Heap} {Q : Heap → Prop} (hS : S_cell_Row_int_All_1 B v1 A2 h Q) : C_cell_Row_int_All_1 B v1 A2 h Q := by
  unfold S_cell_Row_int_All_1 at hS
  unfold C_cell_Row_int_All_1
  refine Spec.of_run Try.func71 (N := 24) (rs := []) rfl rfl rfl (Nat.le_of_ble_eq_true rfl) ?_
  refine Run.seq ?_
  refine Run.seq ?_
  refine Run.ops0 (idx := [0, 1]) rfl ?_
  obtain ⟨p3, hl, hS⟩ := hS
  refine Run.go rfl rfl rfl (sem_load1 A2 ((Value.pointer p3)) rfl TF.agg_36 hl ?_)
  obtain ⟨hT, hF⟩ := hS
  by_cases hb4 : p3 = none
  · have hS := hT hb4; clear hT hF
    refine Run.go rfl rfl rfl (sem_ptrNilT p3 (.inl rfl) true rfl rfl TF.ptr_36 hb4 rfl ?_)
    refine Run.region_end ?_
    refine Run.condT rfl ?_
    refine Run.ret ⟨.inr rfl, ?_⟩
    exact hS.imp fun h' hq => ⟨rfl, hq⟩
  · have hS := hF hb4; clear hT hF
    refine Run.go rfl rfl rfl (sem_ptrNilF p3 (.inl rfl) false rfl rfl TF.ptr_36 hb4 rfl ?_)
    refine Run.region_end ?_
    refine Run.condF rfl ?_
    refine Run.skip ?_
    refine Run.seq ?_
    refine Run.ops0 (idx := [0, 1, 2, 3, 4, 5]) rfl ?_
    obtain ⟨p5, hl, hS⟩ := hS
    refine Run.go rfl rfl rfl (sem_load1 A2 ((Value.pointer p5)) rfl TF.agg_36 hl ?_)
    obtain ⟨A6, e7, hS⟩ := hS
    refine Run.go rfl rfl rfl (sem_nilCheck A6 (congrArg Value.pointer e7) ?_)
    refine Run.go rfl rfl rfl (sem_fieldAddr A6 0 rfl TF.fld_127_0 ?_)
    refine Run.ldSl hS fun a8 n9 c10 h11 hl hS => ?_
    refine Run.go rfl rfl rfl (sem_load1 A6 ((Value.slice a8 n9 c10)) rfl TF.agg_125 hl ?_)
    refine Run.go rfl rfl rfl (sem_lenSl a8 n9 c10 rfl TF.sl_125 ?_)
    refine Run.go rfl rfl rfl (sem_move ((Value.int .i64 (0))) rfl ?_)
    refine Run.region_end ?_
    refine Run.block ?_
    obtain ⟨J17, m15, h0, hS⟩ := hS
    refine Run.of_fin (h0.imp fun h' h0 => ?_)
    refine Run.loop (σ := Int × Nat) (fun x e h => J17 x.1 x.2 h ∧ Agree [(0, v1), (10, (Value.slice a8 n9 c10)), (11, (Value.int .i64 ((n9 : Nat)))), (12, (Value.int .i64 (x.1)))] e) (fun x => x.2) ((0), m15) ⟨h0, ⟨rfl, rfl, rfl, rfl, trivial⟩⟩ ?_; clear h0
    rintro ⟨i12, m14⟩ e h13 ⟨hJ, hag⟩ ih16
    have hS := hS i12 m14 h13 hJ; clear hJ
    refine Run.env hag ?_; clear hag
    refine Run.seq ?_
    refine Run.ops0 (idx := [0]) rfl ?_
    obtain ⟨hT, hF⟩ := hS
    by_cases hb18 : (i12 : Int) < ((n9 : Nat))
    · have hS := hT hb18; clear hT hF
      refine Run.go rfl rfl rfl (sem_binI .i64 (i12) ((n9 : Nat)) (.bool true) rfl rfl (binI_lss_t hb18) ?_)
      refine Run.region_end ?_
      refine Run.seq ?_
      refine Run.condT rfl ?_
      refine Run.skip ?_
      refine Run.seq ?_
      refine Run.block ?_
      refine Run.seq ?_
      refine Run.ops0 (idx := [0, 1, 2, 3, 4, 5]) rfl ?_
      refine Run.go rfl rfl rfl (sem_move ((Value.int .i64 (i12))) rfl ?_)
      obtain ⟨A19, e20, hi0, hi1, hS⟩ := hS
      refine Run.go rfl rfl rfl (sem_indexAddrS A19 n9 c10 .i64 (i12) (congrArg (fun a => Value.slice a n9 c10) e20) rfl TF.slc_125 hi0 hi1 ?_)
      obtain ⟨i21, i22, hl, hS⟩ := hS
      refine Run.go rfl rfl rfl (sem_loadN (Addr.add A19 (Int.toNat (i12) * 2)) [(Value.int .i64 (i21)), (Value.int .i64 (i22))] rfl TF.agg_129 TF.sz_129 hl ?_)
      refine Run.go rfl rfl rfl (sem_allocN [(Value.int .i64 (0)), (Value.int .i64 (0))] TF.zero_129 (fun k23 hb1 hb2 h24 hb3 => ?_))
      have hS := hS k23 hb1 hb2 h24 hb3
      refine Run.go rfl rfl rfl (sem_assign ((Value.int .i64 (i12))) rfl ?_)
      obtain ⟨h25, hst, hS⟩ := hS
      refine Run.go rfl rfl rfl (sem_storeN ⟨k23, 0, none⟩ [(Value.int .i64 (i21)), (Value.int .i64 (i22))] h25 rfl rfl TF.sz_129 hst ?_)
      refine Run.region_end ?_
      refine Run.seq ?_
      refine Run.ops0 (idx := [0, 1, 2, 3, 4, 5]) rfl ?_
      refine Run.go rfl rfl rfl (sem_move (v1) rfl ?_)
      refine Run.go rfl rfl rfl (sem_move ((Value.int .i64 (i12))) rfl ?_)
      refine Run.go rfl rfl rfl (sem_fieldAddr ⟨k23, 0, none⟩ 0 rfl TF.fld_129_0 ?_)
      obtain ⟨i26, hl, hS⟩ := hS
      refine Run.go rfl rfl rfl (sem_load1 ⟨k23, 0, none⟩ ((Value.int .i64 (i26))) rfl TF.agg_3 hl ?_)
      refine Run.go rfl rfl rfl (sem_callV (v1) [(Value.int .i64 (i12)), (Value.int .i64 (i26))] rfl rfl hS (fun nx h' ha => ha.mono fun v h27 hv => ?_))
      obtain ⟨b28, rfl, hS⟩ := hv
      obtain ⟨hT, hF⟩ := hS
      cases b28
      · have hS := hF rfl; clear hT hF
        refine Run.go rfl rfl rfl (sem_not false rfl ?_)
        refine Run.region_end ?_
        refine Run.condT rfl ?_
        refine Run.ret ⟨.inr rfl, ?_⟩
        exact hS.imp fun h' hq => ⟨rfl, hq⟩
      · have hS := hT rfl; clear hT hF
        refine Run.go rfl rfl rfl (sem_not true rfl ?_)
        refine Run.region_end ?_
        refine Run.condF rfl ?_
        refine Run.skip ?_
        refine Run.inBlock ?_
        refine Run.ops0 (idx := [0, 1]) rfl ?_
        refine Run.go rfl rfl rfl (sem_binI .i64 (i12) (1) ((Value.int .i64 (IntKind.wrap .i64 ((i12) + (1))))) rfl rfl rfl ?_)
        refine Run.go rfl rfl rfl (sem_move ((Value.int .i64 (IntKind.wrap .i64 ((i12) + (1))))) rfl ?_)
        refine Run.region_end ?_
        exact Run.of_fin (hS.imp fun h' ⟨m', hm, hS⟩ => ih16 ((IntKind.wrap .i64 ((i12) + (1))), m') _ _ ⟨hS, ⟨rfl, rfl, rfl, rfl, trivial⟩⟩ hm)
    · have hS := hF hb18; clear hT hF
      refine Run.go rfl rfl rfl (sem_binI .i64 (i12) ((n9 : Nat)) (.bool false) rfl rfl (binI_lss_f hb18) ?_)
      refine Run.region_end ?_
      refine Run.seq ?_
      refine Run.condF rfl ?_
      refine Run.exit rfl ?_
      refine Run.fall ⟨.inl rfl, ?_⟩
      exact hS.imp fun h' hq => ⟨rfl, hq⟩
end Go.Proofs.Ythlnibaechobmaa.H
