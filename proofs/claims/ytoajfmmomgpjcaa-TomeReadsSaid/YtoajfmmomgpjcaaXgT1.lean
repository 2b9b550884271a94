/- The functions do what they ask for. No condition. -/
import Derived.Test.YtoajfmmomgpjcaaXgS
namespace Go.Proofs.Ytoajfmmomgpjcaa.H
open Go
set_option linter.unusedVariables false
set_option maxRecDepth 100000

set_option maxHeartbeats 4000000 in
theorem C_countermandlaw10_TomeApart.of {B : RO} {a1 : Option Addr} {n2 : Nat} {c3 : Nat} {i4 : Int} {h : Heap} {Q : Bool → Heap → Prop} (hS : S_countermandlaw10_TomeApart B a1 n2 c3 i4 h Q) : C_countermandlaw10_TomeApart B a1 n2 c3 i4 h Q := by
  unfold S_countermandlaw10_TomeApart at hS
  unfold C_countermandlaw10_TomeApart
  refine Spec.of_run Try.func6 (N := 95) (rs := [ResultVar.tmp 4]) rfl rfl rfl (Nat.le_of_ble_eq_true rfl) ?_
  refine Run.seq ?_
  refine Run.ops0 (idx := [0]) rfl ?_
  refine Run.go rfl rfl rfl (sem_assign ((Value.bool false)) rfl ?_)
  refine Run.region_end ?_
  refine Run.seq ?_
  refine Run.seq ?_
  refine Run.ops0 (idx := [0, 1]) rfl ?_
  refine Run.go rfl rfl rfl (sem_callL [] (TF.goes_31) rfl rfl (Spec.mono hS fun v h6 hv => ?_))
  obtain ⟨b7, rfl, hS⟩ := hv
  obtain ⟨hT, hF⟩ := hS
  cases b7
  · have hS := hF rfl; clear hT hF
    refine Run.go rfl rfl rfl (sem_not false rfl ?_)
    refine Run.region_end ?_
    refine Run.condT rfl ?_
    refine Run.seq ?_
    refine Run.ops0 (idx := [0]) rfl ?_
    refine Run.go rfl rfl rfl (sem_assign ((Value.bool false)) rfl ?_)
    refine Run.region_end ?_
    refine Run.ret ⟨.inr rfl, ?_⟩
    exact hS.imp fun h' hq => ⟨(false), rfl, hq⟩
  · have hS := hT rfl; clear hT hF
    refine Run.go rfl rfl rfl (sem_not true rfl ?_)
    refine Run.region_end ?_
    refine Run.condF rfl ?_
    refine Run.skip ?_
    refine Run.seqJ (fun e h9 => Agree [(0, (Value.slice a1 n2 c3)), (1, (Value.int .i64 (i4)))] e ∧ S_countermandlaw10_TomeApart_J1 B a1 n2 c3 i4 h9 Q) ?_ fun j8 => ?_
    · rintro e h9 ⟨hag, hS⟩
      refine Run.env hag ?_; clear hag
      refine Run.seqJ (fun e h11 => Agree [(0, (Value.slice a1 n2 c3)), (1, (Value.int .i64 (i4)))] e ∧ S_countermandlaw10_TomeApart_J2 B a1 n2 c3 i4 h11 Q) ?_ fun j10 => ?_
      · rintro e h11 ⟨hag, hS⟩
        refine Run.env hag ?_; clear hag
        refine Run.seq ?_
        refine Run.ops0 (idx := [0, 1, 2, 3]) rfl ?_
        refine Run.go rfl rfl rfl (sem_callL [] (TF.goes_33) rfl rfl (Spec.mono hS fun v h12 hv => ?_))
        obtain ⟨p13, rfl, hS⟩ := hv
        refine Run.go rfl rfl rfl (sem_callL [] (TF.goes_33) rfl rfl (Spec.mono hS fun v h14 hv => ?_))
        obtain ⟨p15, rfl, hS⟩ := hv
        refine Run.go rfl rfl rfl (sem_assign ((Value.pointer p13)) rfl ?_)
        refine Run.go rfl rfl rfl (sem_assign ((Value.pointer p15)) rfl ?_)
        refine Run.region_end ?_
        refine Run.seqJ (fun e h17 => Agree [(9, (Value.pointer p13)), (10, (Value.pointer p15))] e ∧ S_countermandlaw10_TomeApart_J3 B p13 p15 h17 Q) ?_ fun j16 => ?_
        · rintro e h17 ⟨hag, hS⟩
          refine Run.env hag ?_; clear hag
          refine Run.seq ?_
          refine Run.ops0 (idx := [0, 1, 2, 3, 4, 5, 6, 7, 8, 9, 10]) rfl ?_
          refine Run.go rfl rfl rfl (sem_move ((Value.pointer p13)) rfl ?_)
          refine Run.go rfl rfl rfl (sem_move ((Value.pointer p15)) rfl ?_)
          refine Run.go rfl rfl rfl (sem_callL [(Value.pointer p13), (Value.pointer p15)] (TF.goes_35) rfl rfl (Spec.mono hS fun v h18 hv => ?_))
          obtain ⟨b19, rfl, hS⟩ := hv
          obtain ⟨hT, hF⟩ := hS
          cases b19
          · have hS := hF rfl; clear hT hF
            refine Run.go rfl rfl rfl (sem_move ((Value.bool false)) rfl ?_)
            refine Run.no rfl rfl rfl ?_
            refine Run.no rfl rfl rfl ?_
            refine Run.no rfl rfl rfl ?_
            refine Run.no rfl rfl rfl ?_
            refine Run.no rfl rfl rfl ?_
            refine Run.go rfl rfl rfl (sem_pick false ((Value.bool false)) rfl rfl ?_)
            refine Run.go rfl rfl rfl (sem_assign ((Value.bool false)) rfl ?_)
            refine Run.region_end ?_
            refine Run.ret ⟨.inr rfl, ?_⟩
            exact hS.imp fun h' hq => ⟨(false), rfl, hq⟩
          · have hS := hT rfl; clear hT hF
            refine Run.go rfl rfl rfl (sem_move ((Value.bool true)) rfl ?_)
            refine Run.go rfl rfl rfl (sem_move ((Value.pointer p13)) rfl ?_)
            refine Run.go rfl rfl rfl (sem_callL [(Value.pointer p13)] (TF.goes_36) rfl rfl (Spec.mono hS fun v h20 hv => ?_))
            obtain ⟨s21, rfl, hS⟩ := hv
            refine Run.go rfl rfl rfl (sem_move ((Value.pointer p15)) rfl ?_)
            refine Run.go rfl rfl rfl (sem_callL [(Value.pointer p15)] (TF.goes_36) rfl rfl (Spec.mono hS fun v h22 hv => ?_))
            obtain ⟨s23, rfl, hS⟩ := hv
            refine Run.go rfl rfl rfl (sem_strEq s21 s23 rfl rfl ?_)
            refine Run.go rfl rfl rfl (sem_pick true ((Value.bool (decide (s21 = s23)))) rfl rfl ?_)
            refine Run.go rfl rfl rfl (sem_assign ((Value.bool (decide (s21 = s23)))) rfl ?_)
            refine Run.region_end ?_
            refine Run.ret ⟨.inr rfl, ?_⟩
            exact hS.imp fun h' hq => ⟨((decide (s21 = s23))), rfl, hq⟩
        refine Run.seq ?_
        refine Run.ops0 (idx := [0, 1, 2]) rfl ?_
        refine Run.go rfl rfl rfl (sem_move ((Value.slice a1 n2 c3)) rfl ?_)
        refine Run.go rfl rfl rfl (sem_lenSl a1 n2 c3 rfl TF.sl_51 ?_)
        refine Run.go rfl rfl rfl (sem_move ((Value.int .i64 (0))) rfl ?_)
        refine Run.region_end ?_
        refine Run.block ?_
        obtain ⟨J29, m27, h0, hS⟩ := hS
        refine Run.of_fin (h0.imp fun h' h0 => ?_)
        refine Run.loop (σ := Int × Nat) (fun x e h => J29 x.1 x.2 h ∧ Agree [(0, (Value.slice a1 n2 c3)), (1, (Value.int .i64 (i4))), (9, (Value.pointer p13)), (10, (Value.pointer p15)), (52, (Value.slice a1 n2 c3)), (53, (Value.int .i64 ((n2 : Nat)))), (54, (Value.int .i64 (x.1)))] e) (fun x => x.2) ((0), m27) ⟨h0, ⟨rfl, rfl, rfl, rfl, rfl, rfl, rfl, trivial⟩⟩ ?_; clear h0
        rintro ⟨i24, m26⟩ e h25 ⟨hJ, hag⟩ ih28
        have hS := hS i24 m26 h25 hJ; clear hJ
        refine Run.env hag ?_; clear hag
        refine Run.seq ?_
        refine Run.ops0 (idx := [0]) rfl ?_
        obtain ⟨hT, hF⟩ := hS
        by_cases hb30 : (i24 : Int) < ((n2 : Nat))
        · have hS := hT hb30; clear hT hF
          refine Run.go rfl rfl rfl (sem_binI .i64 (i24) ((n2 : Nat)) (.bool true) rfl rfl (binI_lss_t hb30) ?_)
          refine Run.region_end ?_
          refine Run.seq ?_
          refine Run.condT rfl ?_
          refine Run.skip ?_
          refine Run.seq ?_
          refine Run.block ?_
          refine Run.seq ?_
          refine Run.ops0 (idx := [0, 1, 2, 3, 4, 5]) rfl ?_
          refine Run.go rfl rfl rfl (sem_move ((Value.int .i64 (i24))) rfl ?_)
          obtain ⟨A31, e32, hi0, hi1, hS⟩ := hS
          refine Run.go rfl rfl rfl (sem_indexAddrS A31 n2 c3 .i64 (i24) (congrArg (fun a => Value.slice a n2 c3) e32) rfl TF.slc_51 hi0 hi1 ?_)
          obtain ⟨i33, b34, s35, i36, hl, hS⟩ := hS
          refine Run.go rfl rfl rfl (sem_loadN (Addr.add A31 (Int.toNat (i24) * 4)) [(Value.int .i64 (i33)), (Value.bool b34), (Value.string s35), (Value.int .i64 (i36))] rfl TF.agg_56 TF.sz_56 hl ?_)
          refine Run.go rfl rfl rfl (sem_allocN [(Value.int .i64 (0)), (Value.bool false), (Value.string ByteArray.empty), (Value.int .i64 (0))] TF.zero_56 (fun k37 hb1 hb2 h38 hb3 => ?_))
          have hS := hS k37 hb1 hb2 h38 hb3
          refine Run.go rfl rfl rfl (sem_assign ((Value.int .i64 (i24))) rfl ?_)
          obtain ⟨h39, hst, hS⟩ := hS
          refine Run.go rfl rfl rfl (sem_storeN ⟨k37, 0, none⟩ [(Value.int .i64 (i33)), (Value.bool b34), (Value.string s35), (Value.int .i64 (i36))] h39 rfl rfl TF.sz_56 hst ?_)
          refine Run.region_end ?_
          refine Run.seq ?_
          refine Run.ops0 (idx := [0, 1, 2, 3, 4, 5, 6, 7]) rfl ?_
          refine Run.go rfl rfl rfl (sem_move ((Value.pointer p13)) rfl ?_)
          refine Run.go rfl rfl rfl (sem_fieldAddr ⟨k37, 0, none⟩ 0 rfl TF.fld_56_0 ?_)
          obtain ⟨i40, hl, hS⟩ := hS
          refine Run.go rfl rfl rfl (sem_load1 ⟨k37, 0, none⟩ ((Value.int .i64 (i40))) rfl TF.agg_3 hl ?_)
          refine Run.go rfl rfl rfl (sem_fieldAddr ⟨k37, 0, none⟩ 1 rfl TF.fld_56_1 ?_)
          obtain ⟨b41, s42, hl, hS⟩ := hS
          refine Run.go rfl rfl rfl (sem_loadN ⟨k37, 1, none⟩ [(Value.bool b41), (Value.string s42)] rfl TF.agg_54 TF.sz_54 hl ?_)
          refine Run.go rfl rfl rfl (sem_fieldAddr ⟨k37, 0, none⟩ 3 rfl TF.fld_56_2 ?_)
          obtain ⟨i43, hl, hS⟩ := hS
          refine Run.go rfl rfl rfl (sem_load1 ⟨k37, 3, none⟩ ((Value.int .i64 (i43))) rfl TF.agg_3 hl ?_)
          refine Run.go rfl rfl rfl (sem_callL [(Value.pointer p13), (Value.int .i64 (i40)), (Value.agg #[(Value.bool b41), (Value.string s42)]), (Value.int .i64 (i43))] (TF.goes_34) rfl rfl (Spec.mono hS fun v h44 hv => ?_))
          obtain ⟨b45, rfl, hS⟩ := hv
          refine Run.region_end ?_
          refine Run.seq ?_
          refine Run.ops0 (idx := [0, 1, 2, 3, 4, 5, 6, 7, 8, 9, 10]) rfl ?_
          refine Run.go rfl rfl rfl (sem_move ((Value.slice a1 n2 c3)) rfl ?_)
          refine Run.go rfl rfl rfl (sem_move ((Value.int .i64 (i24))) rfl ?_)
          refine Run.go rfl rfl rfl (sem_move ((Value.int .i64 (i4))) rfl ?_)
          refine Run.go rfl rfl rfl (sem_binI .i64 (i24) (i4) ((Value.int .i64 (IntKind.wrap .i64 ((i24) + (i4))))) rfl rfl rfl ?_)
          refine Run.go rfl rfl rfl (sem_move ((Value.slice a1 n2 c3)) rfl ?_)
          refine Run.go rfl rfl rfl (sem_lenSl a1 n2 c3 rfl TF.sl_51 ?_)
          obtain ⟨hi0, hS⟩ := hS
          refine Run.go rfl rfl rfl (sem_binI .i64 (IntKind.wrap .i64 ((i24) + (i4))) ((n2 : Nat)) ((Value.int .i64 (Int.tmod (IntKind.wrap .i64 ((i24) + (i4))) ((n2 : Nat))))) rfl rfl (binI_rem hi0) ?_)
          obtain ⟨A46, e47, hi0, hi1, hS⟩ := hS
          refine Run.go rfl rfl rfl (sem_indexAddrS A46 n2 c3 .i64 (Int.tmod (IntKind.wrap .i64 ((i24) + (i4))) ((n2 : Nat))) (congrArg (fun a => Value.slice a n2 c3) e47) rfl TF.slc_51 hi0 hi1 ?_)
          obtain ⟨i48, b49, s50, i51, hl, hS⟩ := hS
          refine Run.go rfl rfl rfl (sem_loadN (Addr.add A46 (Int.toNat (Int.tmod (IntKind.wrap .i64 ((i24) + (i4))) ((n2 : Nat))) * 4)) [(Value.int .i64 (i48)), (Value.bool b49), (Value.string s50), (Value.int .i64 (i51))] rfl TF.agg_56 TF.sz_56 hl ?_)
          refine Run.go rfl rfl rfl (sem_allocN [(Value.int .i64 (0)), (Value.bool false), (Value.string ByteArray.empty), (Value.int .i64 (0))] TF.zero_56 (fun k52 hb1 hb2 h53 hb3 => ?_))
          have hS := hS k52 hb1 hb2 h53 hb3
          obtain ⟨h54, hst, hS⟩ := hS
          refine Run.go rfl rfl rfl (sem_storeN ⟨k52, 0, none⟩ [(Value.int .i64 (i48)), (Value.bool b49), (Value.string s50), (Value.int .i64 (i51))] h54 rfl rfl TF.sz_56 hst ?_)
          refine Run.region_end ?_
          refine Run.ops0 (idx := [0, 1, 2, 3, 4, 5, 6, 7]) rfl ?_
          refine Run.go rfl rfl rfl (sem_move ((Value.pointer p15)) rfl ?_)
          refine Run.go rfl rfl rfl (sem_fieldAddr ⟨k52, 0, none⟩ 0 rfl TF.fld_56_0 ?_)
          obtain ⟨i55, hl, hS⟩ := hS
          refine Run.go rfl rfl rfl (sem_load1 ⟨k52, 0, none⟩ ((Value.int .i64 (i55))) rfl TF.agg_3 hl ?_)
          refine Run.go rfl rfl rfl (sem_fieldAddr ⟨k52, 0, none⟩ 1 rfl TF.fld_56_1 ?_)
          obtain ⟨b56, s57, hl, hS⟩ := hS
          refine Run.go rfl rfl rfl (sem_loadN ⟨k52, 1, none⟩ [(Value.bool b56), (Value.string s57)] rfl TF.agg_54 TF.sz_54 hl ?_)
          refine Run.go rfl rfl rfl (sem_fieldAddr ⟨k52, 0, none⟩ 3 rfl TF.fld_56_2 ?_)
          obtain ⟨i58, hl, hS⟩ := hS
          refine Run.go rfl rfl rfl (sem_load1 ⟨k52, 3, none⟩ ((Value.int .i64 (i58))) rfl TF.agg_3 hl ?_)
          refine Run.go rfl rfl rfl (sem_callL [(Value.pointer p15), (Value.int .i64 (i55)), (Value.agg #[(Value.bool b56), (Value.string s57)]), (Value.int .i64 (i58))] (TF.goes_34) rfl rfl (Spec.mono hS fun v h59 hv => ?_))
          obtain ⟨b60, rfl, hS⟩ := hv
          refine Run.region_end ?_
          refine Run.inBlock ?_
          refine Run.ops0 (idx := [0, 1]) rfl ?_
          refine Run.go rfl rfl rfl (sem_binI .i64 (i24) (1) ((Value.int .i64 (IntKind.wrap .i64 ((i24) + (1))))) rfl rfl rfl ?_)
          refine Run.go rfl rfl rfl (sem_move ((Value.int .i64 (IntKind.wrap .i64 ((i24) + (1))))) rfl ?_)
          refine Run.region_end ?_
          exact Run.of_fin (hS.imp fun h' ⟨m', hm, hS⟩ => ih28 ((IntKind.wrap .i64 ((i24) + (1))), m') _ _ ⟨hS, ⟨rfl, rfl, rfl, rfl, rfl, rfl, rfl, trivial⟩⟩ hm)
        · have hS := hF hb30; clear hT hF
          refine Run.go rfl rfl rfl (sem_binI .i64 (i24) ((n2 : Nat)) (.bool false) rfl rfl (binI_lss_f hb30) ?_)
          refine Run.region_end ?_
          refine Run.seq ?_
          refine Run.condF rfl ?_
          refine Run.exit rfl ?_
          exact Run.of_fin (hS.imp fun h' hS => j16 _ _ ⟨⟨rfl, rfl, trivial⟩, hS⟩)
      refine Run.seq ?_
      refine Run.ops0 (idx := [0, 1, 2]) rfl ?_
      refine Run.go rfl rfl rfl (sem_move ((Value.slice a1 n2 c3)) rfl ?_)
      refine Run.go rfl rfl rfl (sem_lenSl a1 n2 c3 rfl TF.sl_51 ?_)
      refine Run.go rfl rfl rfl (sem_move ((Value.int .i64 (0))) rfl ?_)
      refine Run.region_end ?_
      refine Run.block ?_
      obtain ⟨J66, m64, h0, hS⟩ := hS
      refine Run.of_fin (h0.imp fun h' h0 => ?_)
      refine Run.loop (σ := Int × Nat) (fun x e h => J66 x.1 x.2 h ∧ Agree [(0, (Value.slice a1 n2 c3)), (1, (Value.int .i64 (i4))), (28, (Value.slice a1 n2 c3)), (29, (Value.int .i64 ((n2 : Nat)))), (30, (Value.int .i64 (x.1)))] e) (fun x => x.2) ((0), m64) ⟨h0, ⟨rfl, rfl, rfl, rfl, rfl, trivial⟩⟩ ?_; clear h0
      rintro ⟨i61, m63⟩ e h62 ⟨hJ, hag⟩ ih65
      have hS := hS i61 m63 h62 hJ; clear hJ
      refine Run.env hag ?_; clear hag
      refine Run.seq ?_
      refine Run.ops0 (idx := [0]) rfl ?_
      obtain ⟨hT, hF⟩ := hS
      by_cases hb67 : (i61 : Int) < ((n2 : Nat))
      · have hS := hT hb67; clear hT hF
        refine Run.go rfl rfl rfl (sem_binI .i64 (i61) ((n2 : Nat)) (.bool true) rfl rfl (binI_lss_t hb67) ?_)
        refine Run.region_end ?_
        refine Run.seq ?_
        refine Run.condT rfl ?_
        refine Run.skip ?_
        refine Run.seq ?_
        refine Run.block ?_
        refine Run.seq ?_
        refine Run.ops0 (idx := [0, 1, 2, 3, 4, 5]) rfl ?_
        refine Run.go rfl rfl rfl (sem_move ((Value.int .i64 (i61))) rfl ?_)
        obtain ⟨A68, e69, hi0, hi1, hS⟩ := hS
        refine Run.go rfl rfl rfl (sem_indexAddrS A68 n2 c3 .i64 (i61) (congrArg (fun a => Value.slice a n2 c3) e69) rfl TF.slc_51 hi0 hi1 ?_)
        obtain ⟨i70, b71, s72, i73, hl, hS⟩ := hS
        refine Run.go rfl rfl rfl (sem_loadN (Addr.add A68 (Int.toNat (i61) * 4)) [(Value.int .i64 (i70)), (Value.bool b71), (Value.string s72), (Value.int .i64 (i73))] rfl TF.agg_56 TF.sz_56 hl ?_)
        refine Run.go rfl rfl rfl (sem_allocN [(Value.int .i64 (0)), (Value.bool false), (Value.string ByteArray.empty), (Value.int .i64 (0))] TF.zero_56 (fun k74 hb1 hb2 h75 hb3 => ?_))
        have hS := hS k74 hb1 hb2 h75 hb3
        refine Run.go rfl rfl rfl (sem_assign ((Value.int .i64 (i61))) rfl ?_)
        obtain ⟨h76, hst, hS⟩ := hS
        refine Run.go rfl rfl rfl (sem_storeN ⟨k74, 0, none⟩ [(Value.int .i64 (i70)), (Value.bool b71), (Value.string s72), (Value.int .i64 (i73))] h76 rfl rfl TF.sz_56 hst ?_)
        refine Run.region_end ?_
        refine Run.seq ?_
        refine Run.ops0 (idx := [0, 1, 2, 3, 4]) rfl ?_
        refine Run.go rfl rfl rfl (sem_move ((Value.slice a1 n2 c3)) rfl ?_)
        refine Run.go rfl rfl rfl (sem_move ((Value.int .i64 (i61))) rfl ?_)
        obtain ⟨hi0, hi1, hi2, hS⟩ := hS
        refine Run.go rfl rfl rfl (sem_sliceSlI a1 n2 c3 (0) (i61) rfl TF.slc_51 rfl ⟨_, rfl⟩ hi0 hi1 hi2 ?_)
        refine Run.go rfl rfl rfl (sem_lenSl (if c3 = Int.toNat (0) then a1 else Option.map (·.add (Int.toNat (0) * 4)) a1) (Int.toNat (i61) - Int.toNat (0)) (c3 - Int.toNat (0)) rfl TF.sl_51 ?_)
        refine Run.go rfl rfl rfl (sem_move ((Value.int .i64 (0))) rfl ?_)
        refine Run.region_end ?_
        refine Run.block ?_
        obtain ⟨J82, m80, h0, hS⟩ := hS
        refine Run.of_fin (h0.imp fun h' h0 => ?_)
        refine Run.loop (σ := Int × Nat) (fun x e h => J82 x.1 x.2 h ∧ Agree [(0, (Value.slice a1 n2 c3)), (1, (Value.int .i64 (i4))), (6, (Value.pointer (some ⟨k74, 0, none⟩))), (28, (Value.slice a1 n2 c3)), (29, (Value.int .i64 ((n2 : Nat)))), (30, (Value.int .i64 (i61))), (37, (Value.slice (if c3 = Int.toNat (0) then a1 else Option.map (·.add (Int.toNat (0) * 4)) a1) (Int.toNat (i61) - Int.toNat (0)) (c3 - Int.toNat (0)))), (38, (Value.int .i64 (((Int.toNat (i61) - Int.toNat (0)) : Nat)))), (39, (Value.int .i64 (x.1)))] e) (fun x => x.2) ((0), m80) ⟨h0, ⟨rfl, rfl, rfl, rfl, rfl, rfl, rfl, rfl, rfl, trivial⟩⟩ ?_; clear h0
        rintro ⟨i77, m79⟩ e h78 ⟨hJ, hag⟩ ih81
        have hS := hS i77 m79 h78 hJ; clear hJ
        refine Run.env hag ?_; clear hag
        refine Run.seq ?_
        refine Run.ops0 (idx := [0]) rfl ?_
        obtain ⟨hT, hF⟩ := hS
        by_cases hb83 : (i77 : Int) < (((Int.toNat (i61) - Int.toNat (0)) : Nat))
        · have hS := hT hb83; clear hT hF
          refine Run.go rfl rfl rfl (sem_binI .i64 (i77) (((Int.toNat (i61) - Int.toNat (0)) : Nat)) (.bool true) rfl rfl (binI_lss_t hb83) ?_)
          refine Run.region_end ?_
          refine Run.seq ?_
          refine Run.condT rfl ?_
          refine Run.skip ?_
          refine Run.seq ?_
          refine Run.block ?_
          refine Run.seq ?_
          refine Run.ops0 (idx := [0, 1, 2, 3]) rfl ?_
          obtain ⟨A84, e85, hi0, hi1, hS⟩ := hS
          refine Run.go rfl rfl rfl (sem_indexAddrS A84 (Int.toNat (i61) - Int.toNat (0)) (c3 - Int.toNat (0)) .i64 (i77) (congrArg (fun a => Value.slice a (Int.toNat (i61) - Int.toNat (0)) (c3 - Int.toNat (0))) e85) rfl TF.slc_51 hi0 hi1 ?_)
          obtain ⟨i86, b87, s88, i89, hl, hS⟩ := hS
          refine Run.go rfl rfl rfl (sem_loadN (Addr.add A84 (Int.toNat (i77) * 4)) [(Value.int .i64 (i86)), (Value.bool b87), (Value.string s88), (Value.int .i64 (i89))] rfl TF.agg_56 TF.sz_56 hl ?_)
          refine Run.go rfl rfl rfl (sem_allocN [(Value.int .i64 (0)), (Value.bool false), (Value.string ByteArray.empty), (Value.int .i64 (0))] TF.zero_56 (fun k90 hb1 hb2 h91 hb3 => ?_))
          have hS := hS k90 hb1 hb2 h91 hb3
          obtain ⟨h92, hst, hS⟩ := hS
          refine Run.go rfl rfl rfl (sem_storeN ⟨k90, 0, none⟩ [(Value.int .i64 (i86)), (Value.bool b87), (Value.string s88), (Value.int .i64 (i89))] h92 rfl rfl TF.sz_56 hst ?_)
          refine Run.region_end ?_
          refine Run.seq ?_
          refine Run.ops0 (idx := [0, 1, 2, 3, 4]) rfl ?_
          refine Run.go rfl rfl rfl (sem_fieldAddr ⟨k74, 0, none⟩ 0 rfl TF.fld_56_0 ?_)
          obtain ⟨i93, hl, hS⟩ := hS
          refine Run.go rfl rfl rfl (sem_load1 ⟨k74, 0, none⟩ ((Value.int .i64 (i93))) rfl TF.agg_3 hl ?_)
          refine Run.go rfl rfl rfl (sem_fieldAddr ⟨k90, 0, none⟩ 0 rfl TF.fld_56_0 ?_)
          obtain ⟨i94, hl, hS⟩ := hS
          refine Run.go rfl rfl rfl (sem_load1 ⟨k90, 0, none⟩ ((Value.int .i64 (i94))) rfl TF.agg_3 hl ?_)
          obtain ⟨hT, hF⟩ := hS
          by_cases hb95 : (i93 : Int) = i94
          · have hS := hT hb95; clear hT hF
            refine Run.go rfl rfl rfl (sem_binI .i64 (i93) (i94) (.bool true) rfl rfl (binI_eql_t hb95) ?_)
            refine Run.region_end ?_
            refine Run.condT rfl ?_
            refine Run.seq ?_
            refine Run.ops0 (idx := [0]) rfl ?_
            refine Run.go rfl rfl rfl (sem_assign ((Value.bool true)) rfl ?_)
            refine Run.region_end ?_
            refine Run.ret ⟨.inr rfl, ?_⟩
            exact hS.imp fun h' hq => ⟨(true), rfl, hq⟩
          · have hS := hF hb95; clear hT hF
            refine Run.go rfl rfl rfl (sem_binI .i64 (i93) (i94) (.bool false) rfl rfl (binI_eql_f hb95) ?_)
            refine Run.region_end ?_
            refine Run.condF rfl ?_
            refine Run.skip ?_
            refine Run.inBlock ?_
            refine Run.ops0 (idx := [0, 1]) rfl ?_
            refine Run.go rfl rfl rfl (sem_binI .i64 (i77) (1) ((Value.int .i64 (IntKind.wrap .i64 ((i77) + (1))))) rfl rfl rfl ?_)
            refine Run.go rfl rfl rfl (sem_move ((Value.int .i64 (IntKind.wrap .i64 ((i77) + (1))))) rfl ?_)
            refine Run.region_end ?_
            exact Run.of_fin (hS.imp fun h' ⟨m', hm, hS⟩ => ih81 ((IntKind.wrap .i64 ((i77) + (1))), m') _ _ ⟨hS, ⟨rfl, rfl, rfl, rfl, rfl, rfl, rfl, rfl, rfl, trivial⟩⟩ hm)
        · have hS := hF hb83; clear hT hF
          refine Run.go rfl rfl rfl (sem_binI .i64 (i77) (((Int.toNat (i61) - Int.toNat (0)) : Nat)) (.bool false) rfl rfl (binI_lss_f hb83) ?_)
          refine Run.region_end ?_
          refine Run.seq ?_
          refine Run.condF rfl ?_
          refine Run.exit rfl ?_
          refine Run.inBlock ?_
          refine Run.ops0 (idx := [0, 1]) rfl ?_
          refine Run.go rfl rfl rfl (sem_binI .i64 (i61) (1) ((Value.int .i64 (IntKind.wrap .i64 ((i61) + (1))))) rfl rfl rfl ?_)
          refine Run.go rfl rfl rfl (sem_move ((Value.int .i64 (IntKind.wrap .i64 ((i61) + (1))))) rfl ?_)
          refine Run.region_end ?_
          exact Run.of_fin (hS.imp fun h' ⟨m', hm, hS⟩ => ih65 ((IntKind.wrap .i64 ((i61) + (1))), m') _ _ ⟨hS, ⟨rfl, rfl, rfl, rfl, rfl, trivial⟩⟩ hm)
      · have hS := hF hb67; clear hT hF
        refine Run.go rfl rfl rfl (sem_binI .i64 (i61) ((n2 : Nat)) (.bool false) rfl rfl (binI_lss_f hb67) ?_)
        refine Run.region_end ?_
        refine Run.seq ?_
        refine Run.condF rfl ?_
        refine Run.exit rfl ?_
        exact Run.of_fin (hS.imp fun h' hS => j10 _ _ ⟨⟨rfl, rfl, trivial⟩, hS⟩)
    refine Run.seq ?_
    refine Run.ops0 (idx := [0, 1, 2, 3, 4, 5, 6, 7, 8, 9, 10, 11]) rfl ?_
    refine Run.go rfl rfl rfl (sem_move ((Value.slice a1 n2 c3)) rfl ?_)
    refine Run.go rfl rfl rfl (sem_callL [(Value.slice a1 n2 c3)] (TF.goes_32) rfl rfl (Spec.mono hS fun v h96 hv => ?_))
    obtain ⟨b97, rfl, hS⟩ := hv
    obtain ⟨hT, hF⟩ := hS
    cases b97
    · have hS := hF rfl; clear hT hF
      refine Run.go rfl rfl rfl (sem_move ((Value.bool false)) rfl ?_)
      refine Run.go rfl rfl rfl (sem_move ((Value.int .i64 (i4))) rfl ?_)
      obtain ⟨hT, hF⟩ := hS
      by_cases hb98 : (i4 : Int) < (0)
      · have hS := hT hb98; clear hT hF
        refine Run.go rfl rfl rfl (sem_binI .i64 (i4) (0) (.bool true) rfl rfl (binI_lss_t hb98) ?_)
        refine Run.go rfl rfl rfl (sem_pick false ((Value.bool true)) rfl rfl ?_)
        refine Run.go rfl rfl rfl (sem_move ((Value.bool true)) rfl ?_)
        refine Run.no rfl rfl rfl ?_
        refine Run.no rfl rfl rfl ?_
        refine Run.no rfl rfl rfl ?_
        refine Run.no rfl rfl rfl ?_
        refine Run.go rfl rfl rfl (sem_pick true ((Value.bool true)) rfl rfl ?_)
        refine Run.region_end ?_
        refine Run.condT rfl ?_
        refine Run.seq ?_
        refine Run.ops0 (idx := [0]) rfl ?_
        refine Run.go rfl rfl rfl (sem_assign ((Value.bool true)) rfl ?_)
        refine Run.region_end ?_
        refine Run.ret ⟨.inr rfl, ?_⟩
        exact hS.imp fun h' hq => ⟨(true), rfl, hq⟩
      · have hS := hF hb98; clear hT hF
        refine Run.go rfl rfl rfl (sem_binI .i64 (i4) (0) (.bool false) rfl rfl (binI_lss_f hb98) ?_)
        refine Run.go rfl rfl rfl (sem_pick false ((Value.bool false)) rfl rfl ?_)
        refine Run.go rfl rfl rfl (sem_move ((Value.bool false)) rfl ?_)
        refine Run.go rfl rfl rfl (sem_move ((Value.int .i64 (i4))) rfl ?_)
        refine Run.go rfl rfl rfl (sem_move ((Value.slice a1 n2 c3)) rfl ?_)
        refine Run.go rfl rfl rfl (sem_lenSl a1 n2 c3 rfl TF.sl_51 ?_)
        obtain ⟨hT, hF⟩ := hS
        by_cases hb99 : (i4 : Int) > ((n2 : Nat))
        · have hS := hT hb99; clear hT hF
          refine Run.go rfl rfl rfl (sem_binI .i64 (i4) ((n2 : Nat)) (.bool true) rfl rfl (binI_gtr_t hb99) ?_)
          refine Run.go rfl rfl rfl (sem_pick false ((Value.bool true)) rfl rfl ?_)
          refine Run.region_end ?_
          refine Run.condT rfl ?_
          refine Run.seq ?_
          refine Run.ops0 (idx := [0]) rfl ?_
          refine Run.go rfl rfl rfl (sem_assign ((Value.bool true)) rfl ?_)
          refine Run.region_end ?_
          refine Run.ret ⟨.inr rfl, ?_⟩
          exact hS.imp fun h' hq => ⟨(true), rfl, hq⟩
        · have hS := hF hb99; clear hT hF
          refine Run.go rfl rfl rfl (sem_binI .i64 (i4) ((n2 : Nat)) (.bool false) rfl rfl (binI_gtr_f hb99) ?_)
          refine Run.go rfl rfl rfl (sem_pick false ((Value.bool false)) rfl rfl ?_)
          refine Run.region_end ?_
          refine Run.condF rfl ?_
          refine Run.skip ?_
          exact Run.of_fin (hS.imp fun h' hS => j8 _ _ ⟨⟨rfl, rfl, trivial⟩, hS⟩)
    · have hS := hT rfl; clear hT hF
      refine Run.go rfl rfl rfl (sem_move ((Value.bool true)) rfl ?_)
      refine Run.no rfl rfl rfl ?_
      refine Run.no rfl rfl rfl ?_
      refine Run.go rfl rfl rfl (sem_pick true ((Value.bool true)) rfl rfl ?_)
      refine Run.go rfl rfl rfl (sem_move ((Value.bool true)) rfl ?_)
      refine Run.no rfl rfl rfl ?_
      refine Run.no rfl rfl rfl ?_
      refine Run.no rfl rfl rfl ?_
      refine Run.no rfl rfl rfl ?_
      refine Run.go rfl rfl rfl (sem_pick true ((Value.bool true)) rfl rfl ?_)
      refine Run.region_end ?_
      refine Run.condT rfl ?_
      refine Run.seq ?_
      refine Run.ops0 (idx := [0]) rfl ?_
      refine Run.go rfl rfl rfl (sem_assign ((Value.bool true)) rfl ?_)
      refine Run.region_end ?_
      refine Run.ret ⟨.inr rfl, ?_⟩
      exact hS.imp fun h' hq => ⟨(true), rfl, hq⟩
set_option maxHeartbeats 4000000 in
theorem C_countermandlaw10_TomeSets.of {B : RO} {a1 : Option Addr} {n2 : Nat} {c3 : Nat} {i4 : Int} {h : Heap} {Q : Bool → Heap → Prop} (hS : S_countermandlaw10_TomeSets B a1 n2 c3 i4 h Q) : C_countermandlaw10_TomeSets B a1 n2 c3 i4 h Q := by
  unfold S_countermandlaw10_TomeSets at hS
  unfold C_countermandlaw10_TomeSets
  refine Spec.of_run Try.func7 (N := 159) (rs := [ResultVar.cell 4 4]) rfl rfl rfl (Nat.le_of_ble_eq_true rfl) ?_
  refine Run.seq ?_
  refine Run.ops0 (idx := [0]) rfl ?_
  refine Run.go rfl rfl rfl (sem_allocN [(Value.bool false)] TF.zero_4 (fun k6 hb1 hb2 h7 hb3 => ?_))
  have hS := hS k6 hb1 hb2 h7 hb3
  refine Run.region_end ?_
  refine Run.seq ?_
  refine Run.seq ?_
  refine Run.ops0 (idx := [0, 1]) rfl ?_
  refine Run.go rfl rfl rfl (sem_callL [] (TF.goes_31) rfl rfl (Spec.mono hS fun v h8 hv => ?_))
  obtain ⟨b9, rfl, hS⟩ := hv
  obtain ⟨hT, hF⟩ := hS
  cases b9
  · have hS := hF rfl; clear hT hF
    refine Run.go rfl rfl rfl (sem_not false rfl ?_)
    refine Run.region_end ?_
    refine Run.condT rfl ?_
    refine Run.seq ?_
    refine Run.ops0 (idx := [0]) rfl ?_
    obtain ⟨h10, hst, hS⟩ := hS
    refine Run.go rfl rfl rfl (sem_store1 ⟨k6, 0, none⟩ ((Value.bool false)) h10 rfl rfl rfl TF.sz_4 hst ?_)
    refine Run.region_end ?_
    obtain ⟨b11, hl0, hS⟩ := hS
    refine Run.ret ⟨.inr rfl, ?_⟩
    exact ⟨⟨k6, 0, none⟩, (Value.bool b11), rfl, loadH1 TF.agg_4 hl0, hS.imp fun h' hq => ⟨(b11), rfl, hq⟩⟩
  · have hS := hT rfl; clear hT hF
    refine Run.go rfl rfl rfl (sem_not true rfl ?_)
    refine Run.region_end ?_
    refine Run.condF rfl ?_
    refine Run.skip ?_
    refine Run.seq ?_
    refine Run.seq ?_
    refine Run.ops0 (idx := [0, 1]) rfl ?_
    refine Run.go rfl rfl rfl (sem_move ((Value.slice a1 n2 c3)) rfl ?_)
    refine Run.go rfl rfl rfl (sem_callL [(Value.slice a1 n2 c3)] (TF.goes_32) rfl rfl (Spec.mono hS fun v h12 hv => ?_))
    obtain ⟨b13, rfl, hS⟩ := hv
    obtain ⟨hT, hF⟩ := hS
    cases b13
    · have hS := hF rfl; clear hT hF
      refine Run.region_end ?_
      refine Run.condF rfl ?_
      refine Run.skip ?_
      refine Run.seq ?_
      refine Run.ops0 (idx := [0, 1, 2, 3, 4, 5]) rfl ?_
      refine Run.go rfl rfl rfl (sem_callL [] (TF.goes_33) rfl rfl (Spec.mono hS fun v h14 hv => ?_))
      obtain ⟨p15, rfl, hS⟩ := hv
      refine Run.go rfl rfl rfl (sem_buildSL [] [(Value.bool false), (Value.string ByteArray.empty), (Value.bool false), (Value.string ByteArray.empty), (Value.bool false), (Value.string ByteArray.empty), (Value.bool false), (Value.string ByteArray.empty), (Value.bool false), (Value.string ByteArray.empty), (Value.bool false), (Value.string ByteArray.empty), (Value.int .i64 (0)), (Value.int .i64 (0)), (Value.int .i64 (0)), (Value.int .i64 (0)), (Value.int .i64 (0)), (Value.int .i64 (0))] TF.zero_67 TF.places_67 rfl rfl ?_)
      refine Run.go rfl rfl rfl (sem_boxNN [(Value.bool false), (Value.string ByteArray.empty), (Value.bool false), (Value.string ByteArray.empty), (Value.bool false), (Value.string ByteArray.empty), (Value.bool false), (Value.string ByteArray.empty), (Value.bool false), (Value.string ByteArray.empty), (Value.bool false), (Value.string ByteArray.empty), (Value.int .i64 (0)), (Value.int .i64 (0)), (Value.int .i64 (0)), (Value.int .i64 (0)), (Value.int .i64 (0)), (Value.int .i64 (0))] rfl (fun k16 hb1 hb2 h17 hb3 => ?_))
      have hS := hS k16 hb1 hb2 h17 hb3
      refine Run.go rfl rfl rfl (sem_allocN [(Value.pointer none)] TF.zero_62 (fun k18 hb1 hb2 h19 hb3 => ?_))
      have hS := hS k18 hb1 hb2 h19 hb3
      refine Run.go rfl rfl rfl (sem_assign ((Value.pointer p15)) rfl ?_)
      obtain ⟨h20, hst, hS⟩ := hS
      refine Run.go rfl rfl rfl (sem_store1 ⟨k18, 0, none⟩ ((Value.pointer (some ⟨k16, 0, none⟩))) h20 rfl rfl rfl TF.sz_62 hst ?_)
      refine Run.region_end ?_
      refine Run.seqJ (fun e h22 => Agree [(1, (Value.int .i64 (i4))), (4, (Value.pointer (some ⟨k6, 0, none⟩))), (5, (Value.pointer p15)), (6, (Value.pointer (some ⟨k18, 0, none⟩)))] e ∧ S_countermandlaw10_TomeSets_J1 B i4 k6 p15 k18 h22 Q) ?_ fun j21 => ?_
      · rintro e h22 ⟨hag, hS⟩
        refine Run.env hag ?_; clear hag
        refine Run.seq ?_
        refine Run.ops0 (idx := [0, 1]) rfl ?_
        refine Run.go rfl rfl rfl (sem_allocN [(Value.int .i64 (0))] TF.zero_3 (fun k23 hb1 hb2 h24 hb3 => ?_))
        have hS := hS k23 hb1 hb2 h24 hb3
        obtain ⟨h25, hst, hS⟩ := hS
        refine Run.go rfl rfl rfl (sem_store1 ⟨k23, 0, none⟩ ((Value.int .i64 ((-1)))) h25 rfl rfl rfl TF.sz_3 hst ?_)
        refine Run.region_end ?_
        refine Run.seqJ (fun e h27 => Agree [(1, (Value.int .i64 (i4))), (4, (Value.pointer (some ⟨k6, 0, none⟩))), (5, (Value.pointer p15)), (6, (Value.pointer (some ⟨k18, 0, none⟩)))] e ∧ S_countermandlaw10_TomeSets_J2 B i4 k6 p15 k18 h27 Q) ?_ fun j26 => ?_
        · rintro e h27 ⟨hag, hS⟩
          refine Run.env hag ?_; clear hag
          refine Run.seq ?_
          refine Run.ops0 (idx := [0, 1, 2, 3, 4, 5, 6, 7, 8]) rfl ?_
          refine Run.go rfl rfl rfl (sem_move ((Value.pointer p15)) rfl ?_)
          refine Run.go rfl rfl rfl (sem_move ((Value.int .i64 (i4))) rfl ?_)
          refine Run.go rfl rfl rfl (sem_callL [(Value.pointer p15), (Value.int .i64 (i4))] (TF.goes_38) rfl rfl (Spec.mono hS fun v h28 hv => ?_))
          obtain ⟨b29, s30, i31, rfl, hS⟩ := hv
          refine Run.go rfl rfl rfl (sem_move ((Value.tuple #[(Value.agg #[(Value.bool b29), (Value.string s30)]), (Value.int .i64 (i31))])) rfl ?_)
          refine Run.go rfl rfl rfl (sem_extract #[(Value.agg #[(Value.bool b29), (Value.string s30)]), (Value.int .i64 (i31))] ((Value.agg #[(Value.bool b29), (Value.string s30)])) rfl rfl ?_)
          refine Run.go rfl rfl rfl (sem_extract #[(Value.agg #[(Value.bool b29), (Value.string s30)]), (Value.int .i64 (i31))] ((Value.int .i64 (i31))) rfl rfl ?_)
          refine Run.go rfl rfl rfl (sem_allocN [(Value.bool false), (Value.string ByteArray.empty)] TF.zero_54 (fun k32 hb1 hb2 h33 hb3 => ?_))
          have hS := hS k32 hb1 hb2 h33 hb3
          obtain ⟨h34, hst, hS⟩ := hS
          refine Run.go rfl rfl rfl (sem_storeN ⟨k32, 0, none⟩ [(Value.bool b29), (Value.string s30)] h34 rfl rfl TF.sz_54 hst ?_)
          refine Run.go rfl rfl rfl (sem_assign ((Value.int .i64 (i31))) rfl ?_)
          refine Run.region_end ?_
          refine Run.seqJ (fun e h36 => Agree [(4, (Value.pointer (some ⟨k6, 0, none⟩))), (5, (Value.pointer p15)), (6, (Value.pointer (some ⟨k18, 0, none⟩))), (16, (Value.pointer (some ⟨k32, 0, none⟩)))] e ∧ S_countermandlaw10_TomeSets_J3 B k6 p15 k18 k32 h36 Q) ?_ fun j35 => ?_
          · rintro e h36 ⟨hag, hS⟩
            refine Run.env hag ?_; clear hag
            refine Run.seq ?_
            refine Run.ops0 (idx := [0]) rfl ?_
            refine Run.go rfl rfl rfl (sem_assign ((Value.pointer none)) rfl ?_)
            refine Run.region_end ?_
            refine Run.seq ?_
            refine Run.ops0 (idx := [0, 1, 2, 3, 4, 5, 6]) rfl ?_
            refine Run.go rfl rfl rfl (sem_move ((Value.pointer none)) rfl ?_)
            refine Run.go rfl rfl rfl (sem_callL [(Value.pointer none), (Value.int .i64 (0))] (TF.goes_38) rfl rfl (Spec.mono hS fun v h37 hv => ?_))
            obtain ⟨b38, s39, i40, rfl, hS⟩ := hv
            refine Run.go rfl rfl rfl (sem_move ((Value.tuple #[(Value.agg #[(Value.bool b38), (Value.string s39)]), (Value.int .i64 (i40))])) rfl ?_)
            refine Run.go rfl rfl rfl (sem_extract #[(Value.agg #[(Value.bool b38), (Value.string s39)]), (Value.int .i64 (i40))] ((Value.agg #[(Value.bool b38), (Value.string s39)])) rfl rfl ?_)
            refine Run.go rfl rfl rfl (sem_extract #[(Value.agg #[(Value.bool b38), (Value.string s39)]), (Value.int .i64 (i40))] ((Value.int .i64 (i40))) rfl rfl ?_)
            obtain ⟨h41, hst, hS⟩ := hS
            refine Run.go rfl rfl rfl (sem_storeN ⟨k32, 0, none⟩ [(Value.bool b38), (Value.string s39)] h41 rfl rfl TF.sz_54 hst ?_)
            refine Run.go rfl rfl rfl (sem_assign ((Value.int .i64 (i40))) rfl ?_)
            refine Run.region_end ?_
            refine Run.seqJ (fun e h43 => Agree [(4, (Value.pointer (some ⟨k6, 0, none⟩))), (5, (Value.pointer p15)), (6, (Value.pointer (some ⟨k18, 0, none⟩))), (16, (Value.pointer (some ⟨k32, 0, none⟩))), (17, (Value.int .i64 (i40))), (18, (Value.pointer none))] e ∧ S_countermandlaw10_TomeSets_J4 B k6 p15 k18 k32 i40 h43 Q) ?_ fun j42 => ?_
            · rintro e h43 ⟨hag, hS⟩
              refine Run.env hag ?_; clear hag
              refine Run.seq ?_
              skip
              obtain ⟨p45, hl, hS⟩ := hS
              have f46 := hl
              obtain ⟨A47, e48, hS⟩ := hS
              skip
              skip
              obtain ⟨l51, hln, hl, hS⟩ := hS
              have f52 := hl
              refine Run.draw (fun h' => cellH B h' ⟨k18, 0, none⟩ = some (Value.pointer p45) ∧ CellsAt B h' A47 0 l51 ∧ True) [28] [.q 0, .q 2, .q 3, .q 4, .q 5, .x 1, .x 6, .q 7, .q 8, .q 9, .x 10, .q 11, .q 12, .q 13, .q 14, .q 15, .q 16, .q 17, .q 18, .q 19, .x 20, .q 21, .q 22, .q 23, .q 24, .x 25, .q 26, .q 27, .x 28] TF.mixed (by kernel_rfl) ⟨f46, f52, trivial⟩ ?_
              refine RunO.quiet rfl rfl rfl (fun h' hC => sem_move ((Value.pointer p15)) rfl ⟨rfl, rfl⟩) ?_
              refine RunO.quiet rfl rfl rfl (fun h' hC => sem_load1 ⟨k18, 0, none⟩ ((Value.pointer p45)) rfl TF.agg_62 hC.1 ⟨rfl, rfl⟩) ?_
              refine RunO.quiet rfl rfl rfl (fun h' hC => sem_nilCheck A47 (congrArg Value.pointer e48) ⟨rfl, rfl⟩) ?_
              refine RunO.quiet rfl rfl rfl (fun h' hC => sem_fieldAddr A47 0 rfl TF.fld_67_0 ⟨rfl, rfl⟩) ?_
              refine RunO.quiet rfl rfl rfl (fun h' hC => sem_loadN A47 l51 rfl TF.agg_64 (TF.sz_64.trans (congrArg some hln.symm)) hC.2.1 ⟨rfl, rfl⟩) ?_
              refine OpH.go rfl rfl rfl (sem_callL [(Value.pointer p15)] (TF.goes_36) rfl rfl (Spec.mono hS fun v h53 hv => ?_))
              obtain ⟨s54, rfl, hS⟩ := hv
              obtain ⟨g55, g56, hS⟩ := hS
              refine ⟨fun _ => ⟨g55, g56, trivial⟩, ?_⟩
              refine OpH.go rfl rfl rfl (sem_callL [(Value.agg (List.toArray l51))] (TF.goes_40) rfl rfl (Spec.mono hS fun v h57 hv => ?_))
              obtain ⟨s58, rfl, hS⟩ := hv
              obtain ⟨g59, g60, hS⟩ := hS
              refine ⟨fun _ => ⟨g59, g60, trivial⟩, ?_⟩
              obtain ⟨hT, hF⟩ := hS
              by_cases hb61 : s54 = s58
              · have hS := hT hb61; clear hT hF
                refine RunO.quiet rfl rfl rfl (fun h' hC => sem_strEqT s54 s58 rfl rfl hb61 ⟨rfl, rfl⟩) ?_
                refine RunO.quiet rfl rfl rfl (fun h' hC => sem_move ((Value.bool true)) rfl ⟨rfl, rfl⟩) ?_
                refine RunO.quiet rfl rfl rfl (fun h' hC => sem_fieldAddr ⟨k32, 0, none⟩ 0 rfl TF.fld_54_0 ⟨rfl, rfl⟩) ?_
                obtain ⟨b62, hl, hS⟩ := hS
                obtain ⟨hT, hF⟩ := hS
                cases b62
                · have hS := hF rfl; clear hT hF
                  refine OpH.go rfl rfl rfl (sem_load1 ⟨k32, 0, none⟩ (.bool false) rfl TF.agg_4 hl ?_)
                  refine ⟨fun _ => ⟨g59, g60, trivial⟩, ?_⟩
                  refine RunO.quiet rfl rfl rfl (fun h' hC => sem_not false rfl ⟨rfl, rfl⟩) ?_
                  refine RunO.quiet rfl rfl rfl (fun h' hC => sem_pick true ((Value.bool true)) rfl rfl ⟨rfl, rfl⟩) ?_
                  refine RunO.quiet rfl rfl rfl (fun h' hC => sem_move ((Value.bool true)) rfl ⟨rfl, rfl⟩) ?_
                  refine RunO.quiet rfl rfl rfl (fun h' hC => sem_move ((Value.int .i64 (i40))) rfl ⟨rfl, rfl⟩) ?_
                  obtain ⟨hT, hF⟩ := hS
                  by_cases hb63 : (i40 : Int) = 0
                  · have hS := hT hb63; clear hT hF
                    refine RunO.quiet rfl rfl rfl (fun h' hC => sem_binI .i64 (i40) (0) (.bool true) rfl rfl (binI_eql_t hb63) ⟨rfl, rfl⟩) ?_
                    refine RunO.quiet rfl rfl rfl (fun h' hC => sem_pick true ((Value.bool true)) rfl rfl ⟨rfl, rfl⟩) ?_
                    refine RunO.quiet rfl rfl rfl (fun h' hC => sem_move ((Value.bool true)) rfl ⟨rfl, rfl⟩) ?_
                    refine RunO.quiet rfl rfl rfl (fun h' hC => sem_move ((Value.pointer none)) rfl ⟨rfl, rfl⟩) ?_
                    refine RunO.quiet rfl rfl rfl (fun h' hC => sem_buildSL [] [(Value.bool false), (Value.string ByteArray.empty)] TF.zero_54 TF.places_54 rfl rfl ⟨rfl, rfl⟩) ?_
                    refine OpH.go rfl rfl rfl (sem_callL [(Value.pointer none), (Value.int .i64 (0)), (Value.agg #[(Value.bool false), (Value.string ByteArray.empty)]), (Value.int .i64 (0))] (TF.goes_34) rfl rfl (Spec.mono hS fun v h64 hv => ?_))
                    obtain ⟨b65, rfl, hS⟩ := hv
                    obtain ⟨hT, hF⟩ := hS
                    cases b65
                    · have hS := hF rfl; clear hT hF
                      obtain ⟨g66, g67, hS⟩ := hS
                      refine ⟨fun _ => ⟨g66, g67, trivial⟩, ?_⟩
                      refine RunO.quiet rfl rfl rfl (fun h' hC => sem_not false rfl ⟨rfl, rfl⟩) ?_
                      refine RunO.quiet rfl rfl rfl (fun h' hC => sem_pick true ((Value.bool true)) rfl rfl ⟨rfl, rfl⟩) ?_
                      refine RunO.quiet rfl rfl rfl (fun h' hC => sem_move ((Value.bool true)) rfl ⟨rfl, rfl⟩) ?_
                      refine RunO.quiet rfl rfl rfl (fun h' hC => sem_move ((Value.pointer none)) rfl ⟨rfl, rfl⟩) ?_
                      refine OpH.go rfl rfl rfl (sem_callL [(Value.pointer none)] (TF.goes_36) rfl rfl (Spec.mono hS fun v h68 hv => ?_))
                      obtain ⟨s69, rfl, hS⟩ := hv
                      obtain ⟨g70, g71, hS⟩ := hS
                      refine ⟨fun _ => ⟨g70, g71, trivial⟩, ?_⟩
                      refine RunO.quiet rfl rfl rfl (fun h' hC => sem_strEq s69 (ByteArray.mk #[]) rfl rfl ⟨rfl, rfl⟩) ?_
                      refine RunO.quiet rfl rfl rfl (fun h' hC => sem_pick true ((Value.bool (decide (s69 = (ByteArray.mk #[]))))) rfl rfl ⟨rfl, rfl⟩) ?_
                      obtain ⟨h72, hst, hS⟩ := hS
                      refine OpH.go rfl rfl rfl (sem_store1 ⟨k6, 0, none⟩ ((Value.bool (decide (s69 = (ByteArray.mk #[]))))) h72 rfl rfl rfl TF.sz_4 hst ?_)
                      refine ⟨fun hz => Bool.noConfusion hz, ?_⟩
                      obtain ⟨b73, hl0, hS⟩ := hS
                      refine Run.ret ⟨.inr rfl, ?_⟩
                      exact ⟨⟨k6, 0, none⟩, (Value.bool b73), rfl, loadH1 TF.agg_4 hl0, hS.imp fun h' hq => ⟨(b73), rfl, hq⟩⟩
                    · have hS := hT rfl; clear hT hF
                      obtain ⟨g74, g75, hS⟩ := hS
                      refine ⟨fun _ => ⟨g74, g75, trivial⟩, ?_⟩
                      refine RunO.quiet rfl rfl rfl (fun h' hC => sem_not true rfl ⟨rfl, rfl⟩) ?_
                      refine RunO.quiet rfl rfl rfl (fun h' hC => sem_pick true ((Value.bool false)) rfl rfl ⟨rfl, rfl⟩) ?_
                      refine RunO.quiet rfl rfl rfl (fun h' hC => sem_move ((Value.bool false)) rfl ⟨rfl, rfl⟩) ?_
                      refine RunO.skip rfl rfl rfl ?_
                      refine OpH.no rfl rfl rfl ⟨fun _ => ⟨g74, g75, trivial⟩, ?_⟩
                      refine RunO.skip rfl rfl rfl ?_
                      refine RunO.quiet rfl rfl rfl (fun h' hC => sem_pick false ((Value.bool false)) rfl rfl ⟨rfl, rfl⟩) ?_
                      obtain ⟨h76, hst, hS⟩ := hS
                      refine OpH.go rfl rfl rfl (sem_store1 ⟨k6, 0, none⟩ ((Value.bool false)) h76 rfl rfl rfl TF.sz_4 hst ?_)
                      refine ⟨fun hz => Bool.noConfusion hz, ?_⟩
                      obtain ⟨b77, hl0, hS⟩ := hS
                      refine Run.ret ⟨.inr rfl, ?_⟩
                      exact ⟨⟨k6, 0, none⟩, (Value.bool b77), rfl, loadH1 TF.agg_4 hl0, hS.imp fun h' hq => ⟨(b77), rfl, hq⟩⟩
                  · have hS := hF hb63; clear hT hF
                    refine RunO.quiet rfl rfl rfl (fun h' hC => sem_binI .i64 (i40) (0) (.bool false) rfl rfl (binI_eql_f hb63) ⟨rfl, rfl⟩) ?_
                    refine RunO.quiet rfl rfl rfl (fun h' hC => sem_pick true ((Value.bool false)) rfl rfl ⟨rfl, rfl⟩) ?_
                    refine RunO.quiet rfl rfl rfl (fun h' hC => sem_move ((Value.bool false)) rfl ⟨rfl, rfl⟩) ?_
                    refine RunO.skip rfl rfl rfl ?_
                    refine RunO.skip rfl rfl rfl ?_
                    refine OpH.no rfl rfl rfl ⟨fun _ => ⟨g59, g60, trivial⟩, ?_⟩
                    refine RunO.skip rfl rfl rfl ?_
                    refine RunO.quiet rfl rfl rfl (fun h' hC => sem_pick false ((Value.bool false)) rfl rfl ⟨rfl, rfl⟩) ?_
                    refine RunO.quiet rfl rfl rfl (fun h' hC => sem_move ((Value.bool false)) rfl ⟨rfl, rfl⟩) ?_
                    refine RunO.skip rfl rfl rfl ?_
                    refine OpH.no rfl rfl rfl ⟨fun _ => ⟨g59, g60, trivial⟩, ?_⟩
                    refine RunO.skip rfl rfl rfl ?_
                    refine RunO.quiet rfl rfl rfl (fun h' hC => sem_pick false ((Value.bool false)) rfl rfl ⟨rfl, rfl⟩) ?_
                    obtain ⟨h78, hst, hS⟩ := hS
                    refine OpH.go rfl rfl rfl (sem_store1 ⟨k6, 0, none⟩ ((Value.bool false)) h78 rfl rfl rfl TF.sz_4 hst ?_)
                    refine ⟨fun hz => Bool.noConfusion hz, ?_⟩
                    obtain ⟨b79, hl0, hS⟩ := hS
                    refine Run.ret ⟨.inr rfl, ?_⟩
                    exact ⟨⟨k6, 0, none⟩, (Value.bool b79), rfl, loadH1 TF.agg_4 hl0, hS.imp fun h' hq => ⟨(b79), rfl, hq⟩⟩
                · have hS := hT rfl; clear hT hF
                  refine OpH.go rfl rfl rfl (sem_load1 ⟨k32, 0, none⟩ (.bool true) rfl TF.agg_4 hl ?_)
                  refine ⟨fun _ => ⟨g59, g60, trivial⟩, ?_⟩
                  refine RunO.quiet rfl rfl rfl (fun h' hC => sem_not true rfl ⟨rfl, rfl⟩) ?_
                  refine RunO.quiet rfl rfl rfl (fun h' hC => sem_pick true ((Value.bool false)) rfl rfl ⟨rfl, rfl⟩) ?_
                  refine RunO.quiet rfl rfl rfl (fun h' hC => sem_move ((Value.bool false)) rfl ⟨rfl, rfl⟩) ?_
                  refine RunO.skip rfl rfl rfl ?_
                  refine RunO.skip rfl rfl rfl ?_
                  refine RunO.quiet rfl rfl rfl (fun h' hC => sem_pick false ((Value.bool false)) rfl rfl ⟨rfl, rfl⟩) ?_
                  refine RunO.quiet rfl rfl rfl (fun h' hC => sem_move ((Value.bool false)) rfl ⟨rfl, rfl⟩) ?_
                  refine RunO.skip rfl rfl rfl ?_
                  refine RunO.skip rfl rfl rfl ?_
                  refine OpH.no rfl rfl rfl ⟨fun _ => ⟨g59, g60, trivial⟩, ?_⟩
                  refine RunO.skip rfl rfl rfl ?_
                  refine RunO.quiet rfl rfl rfl (fun h' hC => sem_pick false ((Value.bool false)) rfl rfl ⟨rfl, rfl⟩) ?_
                  refine RunO.quiet rfl rfl rfl (fun h' hC => sem_move ((Value.bool false)) rfl ⟨rfl, rfl⟩) ?_
                  refine RunO.skip rfl rfl rfl ?_
                  refine OpH.no rfl rfl rfl ⟨fun _ => ⟨g59, g60, trivial⟩, ?_⟩
                  refine RunO.skip rfl rfl rfl ?_
                  refine RunO.quiet rfl rfl rfl (fun h' hC => sem_pick false ((Value.bool false)) rfl rfl ⟨rfl, rfl⟩) ?_
                  obtain ⟨h80, hst, hS⟩ := hS
                  refine OpH.go rfl rfl rfl (sem_store1 ⟨k6, 0, none⟩ ((Value.bool false)) h80 rfl rfl rfl TF.sz_4 hst ?_)
                  refine ⟨fun hz => Bool.noConfusion hz, ?_⟩
                  obtain ⟨b81, hl0, hS⟩ := hS
                  refine Run.ret ⟨.inr rfl, ?_⟩
                  exact ⟨⟨k6, 0, none⟩, (Value.bool b81), rfl, loadH1 TF.agg_4 hl0, hS.imp fun h' hq => ⟨(b81), rfl, hq⟩⟩
              · have hS := hF hb61; clear hT hF
                refine RunO.quiet rfl rfl rfl (fun h' hC => sem_strEqF s54 s58 rfl rfl hb61 ⟨rfl, rfl⟩) ?_
                refine RunO.quiet rfl rfl rfl (fun h' hC => sem_move ((Value.bool false)) rfl ⟨rfl, rfl⟩) ?_
                refine RunO.skip rfl rfl rfl ?_
                refine OpH.no rfl rfl rfl ⟨fun _ => ⟨g59, g60, trivial⟩, ?_⟩
                refine RunO.skip rfl rfl rfl ?_
                refine RunO.quiet rfl rfl rfl (fun h' hC => sem_pick false ((Value.bool false)) rfl rfl ⟨rfl, rfl⟩) ?_
                refine RunO.quiet rfl rfl rfl (fun h' hC => sem_move ((Value.bool false)) rfl ⟨rfl, rfl⟩) ?_
                refine RunO.skip rfl rfl rfl ?_
                refine RunO.skip rfl rfl rfl ?_
                refine RunO.quiet rfl rfl rfl (fun h' hC => sem_pick false ((Value.bool false)) rfl rfl ⟨rfl, rfl⟩) ?_
                refine RunO.quiet rfl rfl rfl (fun h' hC => sem_move ((Value.bool false)) rfl ⟨rfl, rfl⟩) ?_
                refine RunO.skip rfl rfl rfl ?_
                refine RunO.skip rfl rfl rfl ?_
                refine OpH.no rfl rfl rfl ⟨fun _ => ⟨g59, g60, trivial⟩, ?_⟩
                refine RunO.skip rfl rfl rfl ?_
                refine RunO.quiet rfl rfl rfl (fun h' hC => sem_pick false ((Value.bool false)) rfl rfl ⟨rfl, rfl⟩) ?_
                refine RunO.quiet rfl rfl rfl (fun h' hC => sem_move ((Value.bool false)) rfl ⟨rfl, rfl⟩) ?_
                refine RunO.skip rfl rfl rfl ?_
                refine OpH.no rfl rfl rfl ⟨fun _ => ⟨g59, g60, trivial⟩, ?_⟩
                refine RunO.skip rfl rfl rfl ?_
                refine RunO.quiet rfl rfl rfl (fun h' hC => sem_pick false ((Value.bool false)) rfl rfl ⟨rfl, rfl⟩) ?_
                obtain ⟨h82, hst, hS⟩ := hS
                refine OpH.go rfl rfl rfl (sem_store1 ⟨k6, 0, none⟩ ((Value.bool false)) h82 rfl rfl rfl TF.sz_4 hst ?_)
                refine ⟨fun hz => Bool.noConfusion hz, ?_⟩
                obtain ⟨b83, hl0, hS⟩ := hS
                refine Run.ret ⟨.inr rfl, ?_⟩
                exact ⟨⟨k6, 0, none⟩, (Value.bool b83), rfl, loadH1 TF.agg_4 hl0, hS.imp fun h' hq => ⟨(b83), rfl, hq⟩⟩
            refine Run.seq ?_
            refine Run.ops0 (idx := [0, 1]) rfl ?_
            refine Run.go rfl rfl rfl (sem_move ((Value.pointer none)) rfl ?_)
            refine Run.go rfl rfl rfl (sem_callL [(Value.pointer none)] (TF.goes_39) rfl rfl (Spec.mono hS fun v85 h84 hv => ?_))
            obtain ⟨_, rfl, hS⟩ := hv
            refine Run.region_end ?_
            refine Run.block ?_
            obtain ⟨xs93, G89, J92, hit, hins, hG, h0, hS, hR⟩ := hS
            refine Run.of_fin (h0.imp fun h' h0 => ?_)
            refine Run.range (v85) (xs93.map (fun x : Int × Bool × ByteArray => [(Value.int .i64 (x.1)), (Value.agg #[(Value.bool x.2.1), (Value.string x.2.2)])])) G89 J92 rfl hit hins hG h0 rfl (fun a ha => by obtain ⟨x, _, rfl⟩ := List.mem_map.1 ha; rfl) ?_ ?_
            · rintro q91 args h90 ha hJ
              obtain ⟨⟨i86, b87, s88⟩, hx, rfl⟩ := Option.map_eq_some_iff.1 ((List.getElem?_map ..).symm.trans ha)
              have hS := hS q91 h90 i86 b87 s88 hx hJ; clear hJ hx ha
              refine Run.skip ?_
              refine Run.begin ⟨rfl, ?_⟩
              refine Run.block ?_
              refine Run.seq ?_
              refine Run.ops0 (idx := [0]) rfl ?_
              obtain ⟨h94, hst, hS⟩ := hS
              refine Run.go rfl rfl rfl (sem_store1 ⟨k6, 0, none⟩ ((Value.bool false)) h94 rfl rfl rfl TF.sz_4 hst ?_)
              refine Run.region_end ?_
              refine Run.ret (.inr ⟨_, rfl, ?_⟩)
              obtain ⟨b95, hl0, hS⟩ := hS
              refine Run.ret ⟨.inr rfl, ?_⟩
              exact ⟨⟨k6, 0, none⟩, (Value.bool b95), rfl, loadH1 TF.agg_4 hl0, hS.imp fun h' hq => ⟨(b95), rfl, hq⟩⟩
            · intro h90 hJ
              have hS := hR h90 (by simpa using hJ); clear hJ hR
              refine Run.inBlock ?_
              exact Run.of_fin (hS.imp fun h' hS => j42 _ _ ⟨⟨rfl, rfl, rfl, rfl, rfl, rfl, trivial⟩, hS⟩)
          refine Run.seq ?_
          refine Run.ops0 (idx := [0, 1, 2, 3, 4, 5, 6, 7, 8, 9, 10, 11, 12, 13, 14]) rfl ?_
          refine Run.go rfl rfl rfl (sem_move ((Value.int .i64 (i4))) rfl ?_)
          obtain ⟨hT, hF⟩ := hS
          by_cases hb96 : (i4 : Int) < (0)
          · have hS := hT hb96; clear hT hF
            refine Run.go rfl rfl rfl (sem_binI .i64 (i4) (0) (.bool true) rfl rfl (binI_lss_t hb96) ?_)
            refine Run.go rfl rfl rfl (sem_move ((Value.bool true)) rfl ?_)
            refine Run.no rfl rfl rfl ?_
            refine Run.no rfl rfl rfl ?_
            refine Run.go rfl rfl rfl (sem_pick true ((Value.bool true)) rfl rfl ?_)
            refine Run.go rfl rfl rfl (sem_move ((Value.bool true)) rfl ?_)
            obtain ⟨b97, s98, hl, hS⟩ := hS
            refine Run.go rfl rfl rfl (sem_loadN ⟨k32, 0, none⟩ [(Value.bool b97), (Value.string s98)] rfl TF.agg_54 TF.sz_54 hl ?_)
            refine Run.go rfl rfl rfl (sem_buildSL [] [(Value.bool false), (Value.string ByteArray.empty)] TF.zero_54 TF.places_54 rfl rfl ?_)
            obtain ⟨hT, hF⟩ := hS
            by_cases hb99 : eqL [(Value.bool b97), (Value.string s98)] [(Value.bool false), (Value.string ByteArray.empty)] = true
            · have hS := hT hb99; clear hT hF
              refine Run.go rfl rfl rfl (sem_aggEq [(Value.bool b97), (Value.string s98)] [(Value.bool false), (Value.string ByteArray.empty)] _ (false) (.inr rfl) rfl rfl TF.agg_54 TF.flat_54 TF.eqg_54 ⟨⟨_, rfl⟩, ⟨_, rfl⟩, trivial⟩ ⟨⟨_, rfl⟩, ⟨_, rfl⟩, trivial⟩ (eqLT_neq hb99) ?_)
              refine Run.go rfl rfl rfl (sem_move ((Value.bool false)) rfl ?_)
              refine Run.go rfl rfl rfl (sem_move ((Value.int .i64 (i31))) rfl ?_)
              obtain ⟨hT, hF⟩ := hS
              by_cases hb100 : (i31 : Int) = 0
              · have hS := hT hb100; clear hT hF
                refine Run.go rfl rfl rfl (sem_binI .i64 (i31) (0) (.bool false) rfl rfl (binI_neq_t hb100) ?_)
                refine Run.go rfl rfl rfl (sem_pick false ((Value.bool false)) rfl rfl ?_)
                refine Run.go rfl rfl rfl (sem_pick true ((Value.bool false)) rfl rfl ?_)
                refine Run.region_end ?_
                refine Run.condF rfl ?_
                refine Run.skip ?_
                exact Run.of_fin (hS.imp fun h' hS => j35 _ _ ⟨⟨rfl, rfl, rfl, rfl, trivial⟩, hS⟩)
              · have hS := hF hb100; clear hT hF
                refine Run.go rfl rfl rfl (sem_binI .i64 (i31) (0) (.bool true) rfl rfl (binI_neq_f hb100) ?_)
                refine Run.go rfl rfl rfl (sem_pick false ((Value.bool true)) rfl rfl ?_)
                refine Run.go rfl rfl rfl (sem_pick true ((Value.bool true)) rfl rfl ?_)
                refine Run.region_end ?_
                refine Run.condT rfl ?_
                refine Run.seq ?_
                refine Run.ops0 (idx := [0]) rfl ?_
                obtain ⟨h101, hst, hS⟩ := hS
                refine Run.go rfl rfl rfl (sem_store1 ⟨k6, 0, none⟩ ((Value.bool false)) h101 rfl rfl rfl TF.sz_4 hst ?_)
                refine Run.region_end ?_
                obtain ⟨b102, hl0, hS⟩ := hS
                refine Run.ret ⟨.inr rfl, ?_⟩
                exact ⟨⟨k6, 0, none⟩, (Value.bool b102), rfl, loadH1 TF.agg_4 hl0, hS.imp fun h' hq => ⟨(b102), rfl, hq⟩⟩
            · have hS := hF hb99; clear hT hF
              refine Run.go rfl rfl rfl (sem_aggEq [(Value.bool b97), (Value.string s98)] [(Value.bool false), (Value.string ByteArray.empty)] _ (true) (.inr rfl) rfl rfl TF.agg_54 TF.flat_54 TF.eqg_54 ⟨⟨_, rfl⟩, ⟨_, rfl⟩, trivial⟩ ⟨⟨_, rfl⟩, ⟨_, rfl⟩, trivial⟩ (eqLF_neq hb99) ?_)
              refine Run.go rfl rfl rfl (sem_move ((Value.bool true)) rfl ?_)
              refine Run.no rfl rfl rfl ?_
              refine Run.no rfl rfl rfl ?_
              refine Run.go rfl rfl rfl (sem_pick true ((Value.bool true)) rfl rfl ?_)
              refine Run.go rfl rfl rfl (sem_pick true ((Value.bool true)) rfl rfl ?_)
              refine Run.region_end ?_
              refine Run.condT rfl ?_
              refine Run.seq ?_
              refine Run.ops0 (idx := [0]) rfl ?_
              obtain ⟨h103, hst, hS⟩ := hS
              refine Run.go rfl rfl rfl (sem_store1 ⟨k6, 0, none⟩ ((Value.bool false)) h103 rfl rfl rfl TF.sz_4 hst ?_)
              refine Run.region_end ?_
              obtain ⟨b104, hl0, hS⟩ := hS
              refine Run.ret ⟨.inr rfl, ?_⟩
              exact ⟨⟨k6, 0, none⟩, (Value.bool b104), rfl, loadH1 TF.agg_4 hl0, hS.imp fun h' hq => ⟨(b104), rfl, hq⟩⟩
          · have hS := hF hb96; clear hT hF
            refine Run.go rfl rfl rfl (sem_binI .i64 (i4) (0) (.bool false) rfl rfl (binI_lss_f hb96) ?_)
            refine Run.go rfl rfl rfl (sem_move ((Value.bool false)) rfl ?_)
            refine Run.go rfl rfl rfl (sem_move ((Value.int .i64 (i4))) rfl ?_)
            obtain ⟨hT, hF⟩ := hS
            by_cases hb105 : (i4 : Int) > (5)
            · have hS := hT hb105; clear hT hF
              refine Run.go rfl rfl rfl (sem_binI .i64 (i4) (5) (.bool true) rfl rfl (binI_gtr_t hb105) ?_)
              refine Run.go rfl rfl rfl (sem_pick false ((Value.bool true)) rfl rfl ?_)
              refine Run.go rfl rfl rfl (sem_move ((Value.bool true)) rfl ?_)
              obtain ⟨b106, s107, hl, hS⟩ := hS
              refine Run.go rfl rfl rfl (sem_loadN ⟨k32, 0, none⟩ [(Value.bool b106), (Value.string s107)] rfl TF.agg_54 TF.sz_54 hl ?_)
              refine Run.go rfl rfl rfl (sem_buildSL [] [(Value.bool false), (Value.string ByteArray.empty)] TF.zero_54 TF.places_54 rfl rfl ?_)
              obtain ⟨hT, hF⟩ := hS
              by_cases hb108 : eqL [(Value.bool b106), (Value.string s107)] [(Value.bool false), (Value.string ByteArray.empty)] = true
              · have hS := hT hb108; clear hT hF
                refine Run.go rfl rfl rfl (sem_aggEq [(Value.bool b106), (Value.string s107)] [(Value.bool false), (Value.string ByteArray.empty)] _ (false) (.inr rfl) rfl rfl TF.agg_54 TF.flat_54 TF.eqg_54 ⟨⟨_, rfl⟩, ⟨_, rfl⟩, trivial⟩ ⟨⟨_, rfl⟩, ⟨_, rfl⟩, trivial⟩ (eqLT_neq hb108) ?_)
                refine Run.go rfl rfl rfl (sem_move ((Value.bool false)) rfl ?_)
                refine Run.go rfl rfl rfl (sem_move ((Value.int .i64 (i31))) rfl ?_)
                obtain ⟨hT, hF⟩ := hS
                by_cases hb109 : (i31 : Int) = 0
                · have hS := hT hb109; clear hT hF
                  refine Run.go rfl rfl rfl (sem_binI .i64 (i31) (0) (.bool false) rfl rfl (binI_neq_t hb109) ?_)
                  refine Run.go rfl rfl rfl (sem_pick false ((Value.bool false)) rfl rfl ?_)
                  refine Run.go rfl rfl rfl (sem_pick true ((Value.bool false)) rfl rfl ?_)
                  refine Run.region_end ?_
                  refine Run.condF rfl ?_
                  refine Run.skip ?_
                  exact Run.of_fin (hS.imp fun h' hS => j35 _ _ ⟨⟨rfl, rfl, rfl, rfl, trivial⟩, hS⟩)
                · have hS := hF hb109; clear hT hF
                  refine Run.go rfl rfl rfl (sem_binI .i64 (i31) (0) (.bool true) rfl rfl (binI_neq_f hb109) ?_)
                  refine Run.go rfl rfl rfl (sem_pick false ((Value.bool true)) rfl rfl ?_)
                  refine Run.go rfl rfl rfl (sem_pick true ((Value.bool true)) rfl rfl ?_)
                  refine Run.region_end ?_
                  refine Run.condT rfl ?_
                  refine Run.seq ?_
                  refine Run.ops0 (idx := [0]) rfl ?_
                  obtain ⟨h110, hst, hS⟩ := hS
                  refine Run.go rfl rfl rfl (sem_store1 ⟨k6, 0, none⟩ ((Value.bool false)) h110 rfl rfl rfl TF.sz_4 hst ?_)
                  refine Run.region_end ?_
                  obtain ⟨b111, hl0, hS⟩ := hS
                  refine Run.ret ⟨.inr rfl, ?_⟩
                  exact ⟨⟨k6, 0, none⟩, (Value.bool b111), rfl, loadH1 TF.agg_4 hl0, hS.imp fun h' hq => ⟨(b111), rfl, hq⟩⟩
              · have hS := hF hb108; clear hT hF
                refine Run.go rfl rfl rfl (sem_aggEq [(Value.bool b106), (Value.string s107)] [(Value.bool false), (Value.string ByteArray.empty)] _ (true) (.inr rfl) rfl rfl TF.agg_54 TF.flat_54 TF.eqg_54 ⟨⟨_, rfl⟩, ⟨_, rfl⟩, trivial⟩ ⟨⟨_, rfl⟩, ⟨_, rfl⟩, trivial⟩ (eqLF_neq hb108) ?_)
                refine Run.go rfl rfl rfl (sem_move ((Value.bool true)) rfl ?_)
                refine Run.no rfl rfl rfl ?_
                refine Run.no rfl rfl rfl ?_
                refine Run.go rfl rfl rfl (sem_pick true ((Value.bool true)) rfl rfl ?_)
                refine Run.go rfl rfl rfl (sem_pick true ((Value.bool true)) rfl rfl ?_)
                refine Run.region_end ?_
                refine Run.condT rfl ?_
                refine Run.seq ?_
                refine Run.ops0 (idx := [0]) rfl ?_
                obtain ⟨h112, hst, hS⟩ := hS
                refine Run.go rfl rfl rfl (sem_store1 ⟨k6, 0, none⟩ ((Value.bool false)) h112 rfl rfl rfl TF.sz_4 hst ?_)
                refine Run.region_end ?_
                obtain ⟨b113, hl0, hS⟩ := hS
                refine Run.ret ⟨.inr rfl, ?_⟩
                exact ⟨⟨k6, 0, none⟩, (Value.bool b113), rfl, loadH1 TF.agg_4 hl0, hS.imp fun h' hq => ⟨(b113), rfl, hq⟩⟩
            · have hS := hF hb105; clear hT hF
              refine Run.go rfl rfl rfl (sem_binI .i64 (i4) (5) (.bool false) rfl rfl (binI_gtr_f hb105) ?_)
              refine Run.go rfl rfl rfl (sem_pick false ((Value.bool false)) rfl rfl ?_)
              refine Run.go rfl rfl rfl (sem_move ((Value.bool false)) rfl ?_)
              refine Run.no rfl rfl rfl ?_
              refine Run.no rfl rfl rfl ?_
              refine Run.no rfl rfl rfl ?_
              refine Run.no rfl rfl rfl ?_
              refine Run.no rfl rfl rfl ?_
              refine Run.no rfl rfl rfl ?_
              refine Run.no rfl rfl rfl ?_
              refine Run.go rfl rfl rfl (sem_pick false ((Value.bool false)) rfl rfl ?_)
              refine Run.region_end ?_
              refine Run.condF rfl ?_
              refine Run.skip ?_
              exact Run.of_fin (hS.imp fun h' hS => j35 _ _ ⟨⟨rfl, rfl, rfl, rfl, trivial⟩, hS⟩)
        refine Run.seq ?_
        refine Run.ops0 (idx := [0, 1]) rfl ?_
        refine Run.go rfl rfl rfl (sem_move ((Value.pointer p15)) rfl ?_)
        refine Run.go rfl rfl rfl (sem_callL [(Value.pointer p15)] (TF.goes_39) rfl rfl (Spec.mono hS fun v115 h114 hv => ?_))
        obtain ⟨_, rfl, hS⟩ := hv
        refine Run.region_end ?_
        refine Run.block ?_
        obtain ⟨xs123, G119, J122, hit, hins, hG, h0, hS, hR⟩ := hS
        refine Run.of_fin (h0.imp fun h' h0 => ?_)
        refine Run.range (v115) (xs123.map (fun x : Int × Bool × ByteArray => [(Value.int .i64 (x.1)), (Value.agg #[(Value.bool x.2.1), (Value.string x.2.2)])])) G119 J122 rfl hit hins hG h0 rfl (fun a ha => by obtain ⟨x, _, rfl⟩ := List.mem_map.1 ha; rfl) ?_ ?_
        · rintro q121 args h120 ha hJ
          obtain ⟨⟨i116, b117, s118⟩, hx, rfl⟩ := Option.map_eq_some_iff.1 ((List.getElem?_map ..).symm.trans ha)
          have hS := hS q121 h120 i116 b117 s118 hx hJ; clear hJ hx ha
          refine Run.seq ?_
          refine Run.ops0 (idx := [0]) rfl ?_
          refine Run.go rfl rfl rfl (sem_assign ((Value.int .i64 (i116))) rfl ?_)
          refine Run.region_end ?_
          refine Run.ops0 (idx := [0, 1]) rfl ?_
          refine Run.go rfl rfl rfl (sem_allocN [(Value.bool false), (Value.string ByteArray.empty)] TF.zero_54 (fun k124 hb1 hb2 h125 hb3 => ?_))
          have hS := hS k124 hb1 hb2 h125 hb3
          obtain ⟨h126, hst, hS⟩ := hS
          refine Run.go rfl rfl rfl (sem_storeN ⟨k124, 0, none⟩ [(Value.bool b117), (Value.string s118)] h126 rfl rfl TF.sz_54 hst ?_)
          refine Run.region_end ?_
          refine Run.begin ⟨rfl, ?_⟩
          refine Run.block ?_
          refine Run.seq ?_
          refine Run.seq ?_
          refine Run.draw (fun h' => h' = h126) [] [.q 0, .q 1, .q 2, .q 3, .q 4, .q 5, .q 6, .q 7, .q 8, .q 9, .q 10, .q 11, .q 12, .q 13, .q 14, .q 15, .q 16, .q 17] TF.mixed (by kernel_rfl) rfl ?_
          refine RunO.quiet rfl rfl rfl (quiet_eq (sem_move ((Value.int .i64 (i116))) rfl ⟨rfl, rfl⟩)) ?_
          obtain ⟨i127, hl, hS⟩ := hS
          refine RunO.quiet rfl rfl rfl (quiet_eq (sem_load1 ⟨k23, 0, none⟩ ((Value.int .i64 (i127))) rfl TF.agg_3 hl ⟨rfl, rfl⟩)) ?_
          obtain ⟨hT, hF⟩ := hS
          by_cases hb128 : (i116 : Int) ≤ (i127)
          · have hS := hT hb128; clear hT hF
            refine RunO.quiet rfl rfl rfl (quiet_eq (sem_binI .i64 (i116) (i127) (.bool true) rfl rfl (binI_leq_t hb128) ⟨rfl, rfl⟩)) ?_
            refine RunO.quiet rfl rfl rfl (quiet_eq (sem_move ((Value.bool true)) rfl ⟨rfl, rfl⟩)) ?_
            refine RunO.skip rfl rfl rfl ?_
            refine RunO.skip rfl rfl rfl ?_
            refine RunO.skip rfl rfl rfl ?_
            refine RunO.quiet rfl rfl rfl (quiet_eq (sem_pick true ((Value.bool true)) rfl rfl ⟨rfl, rfl⟩)) ?_
            refine RunO.quiet rfl rfl rfl (quiet_eq (sem_move ((Value.bool true)) rfl ⟨rfl, rfl⟩)) ?_
            refine RunO.skip rfl rfl rfl ?_
            refine RunO.skip rfl rfl rfl ?_
            refine RunO.skip rfl rfl rfl ?_
            refine RunO.skip rfl rfl rfl ?_
            refine RunO.skip rfl rfl rfl ?_
            refine RunO.skip rfl rfl rfl ?_
            refine RunO.skip rfl rfl rfl ?_
            refine RunO.skip rfl rfl rfl ?_
            refine RunO.quiet rfl rfl rfl (quiet_eq (sem_pick true ((Value.bool true)) rfl rfl ⟨rfl, rfl⟩)) ?_
            refine Run.condT rfl ?_
            refine Run.seq ?_
            refine Run.ops0 (idx := [0]) rfl ?_
            obtain ⟨h129, hst, hS⟩ := hS
            refine Run.go rfl rfl rfl (sem_store1 ⟨k6, 0, none⟩ ((Value.bool false)) h129 rfl rfl rfl TF.sz_4 hst ?_)
            refine Run.region_end ?_
            refine Run.ret (.inr ⟨_, rfl, ?_⟩)
            obtain ⟨b130, hl0, hS⟩ := hS
            refine Run.ret ⟨.inr rfl, ?_⟩
            exact ⟨⟨k6, 0, none⟩, (Value.bool b130), rfl, loadH1 TF.agg_4 hl0, hS.imp fun h' hq => ⟨(b130), rfl, hq⟩⟩
          · have hS := hF hb128; clear hT hF
            refine RunO.quiet rfl rfl rfl (quiet_eq (sem_binI .i64 (i116) (i127) (.bool false) rfl rfl (binI_leq_f hb128) ⟨rfl, rfl⟩)) ?_
            refine RunO.quiet rfl rfl rfl (quiet_eq (sem_move ((Value.bool false)) rfl ⟨rfl, rfl⟩)) ?_
            refine RunO.quiet rfl rfl rfl (quiet_eq (sem_fieldAddr ⟨k124, 0, none⟩ 0 rfl TF.fld_54_0 ⟨rfl, rfl⟩)) ?_
            obtain ⟨b131, hl, hS⟩ := hS
            obtain ⟨hT, hF⟩ := hS
            cases b131
            · have hS := hF rfl; clear hT hF
              refine RunO.quiet rfl rfl rfl (quiet_eq (sem_load1 ⟨k124, 0, none⟩ (.bool false) rfl TF.agg_4 hl ⟨rfl, rfl⟩)) ?_
              refine RunO.quiet rfl rfl rfl (quiet_eq (sem_not false rfl ⟨rfl, rfl⟩)) ?_
              refine RunO.quiet rfl rfl rfl (quiet_eq (sem_pick false ((Value.bool true)) rfl rfl ⟨rfl, rfl⟩)) ?_
              refine RunO.quiet rfl rfl rfl (quiet_eq (sem_move ((Value.bool true)) rfl ⟨rfl, rfl⟩)) ?_
              refine RunO.skip rfl rfl rfl ?_
              refine RunO.skip rfl rfl rfl ?_
              refine RunO.skip rfl rfl rfl ?_
              refine RunO.skip rfl rfl rfl ?_
              refine RunO.skip rfl rfl rfl ?_
              refine RunO.skip rfl rfl rfl ?_
              refine RunO.skip rfl rfl rfl ?_
              refine RunO.skip rfl rfl rfl ?_
              refine RunO.quiet rfl rfl rfl (quiet_eq (sem_pick true ((Value.bool true)) rfl rfl ⟨rfl, rfl⟩)) ?_
              refine Run.condT rfl ?_
              refine Run.seq ?_
              refine Run.ops0 (idx := [0]) rfl ?_
              obtain ⟨h132, hst, hS⟩ := hS
              refine Run.go rfl rfl rfl (sem_store1 ⟨k6, 0, none⟩ ((Value.bool false)) h132 rfl rfl rfl TF.sz_4 hst ?_)
              refine Run.region_end ?_
              refine Run.ret (.inr ⟨_, rfl, ?_⟩)
              obtain ⟨b133, hl0, hS⟩ := hS
              refine Run.ret ⟨.inr rfl, ?_⟩
              exact ⟨⟨k6, 0, none⟩, (Value.bool b133), rfl, loadH1 TF.agg_4 hl0, hS.imp fun h' hq => ⟨(b133), rfl, hq⟩⟩
            · have hS := hT rfl; clear hT hF
              refine RunO.quiet rfl rfl rfl (quiet_eq (sem_load1 ⟨k124, 0, none⟩ (.bool true) rfl TF.agg_4 hl ⟨rfl, rfl⟩)) ?_
              refine RunO.quiet rfl rfl rfl (quiet_eq (sem_not true rfl ⟨rfl, rfl⟩)) ?_
              refine RunO.quiet rfl rfl rfl (quiet_eq (sem_pick false ((Value.bool false)) rfl rfl ⟨rfl, rfl⟩)) ?_
              refine RunO.quiet rfl rfl rfl (quiet_eq (sem_move ((Value.bool false)) rfl ⟨rfl, rfl⟩)) ?_
              obtain ⟨b134, s135, hl, hS⟩ := hS
              refine RunO.quiet rfl rfl rfl (quiet_eq (sem_loadN ⟨k124, 0, none⟩ [(Value.bool b134), (Value.string s135)] rfl TF.agg_54 TF.sz_54 hl ⟨rfl, rfl⟩)) ?_
              obtain ⟨p136, hl, hS⟩ := hS
              refine RunO.quiet rfl rfl rfl (quiet_eq (sem_load1 ⟨k18, 0, none⟩ ((Value.pointer p136)) rfl TF.agg_62 hl ⟨rfl, rfl⟩)) ?_
              refine RunO.quiet rfl rfl rfl (quiet_eq (sem_move ((Value.int .i64 (i116))) rfl ⟨rfl, rfl⟩)) ?_
              obtain ⟨A137, e138, hS⟩ := hS
              refine RunO.quiet rfl rfl rfl (quiet_eq (sem_nilCheck A137 (congrArg Value.pointer e138) ⟨rfl, rfl⟩)) ?_
              refine RunO.quiet rfl rfl rfl (quiet_eq (sem_fieldAddr A137 0 rfl TF.fld_67_0 ⟨rfl, rfl⟩)) ?_
              obtain ⟨hi0, hi1, hS⟩ := hS
              refine RunO.quiet rfl rfl rfl (quiet_eq (sem_indexAddrA A137 .i64 (i116) rfl rfl TF.arr_64 hi0 hi1 ⟨rfl, rfl⟩)) ?_
              obtain ⟨b139, s140, hl, hS⟩ := hS
              refine RunO.quiet rfl rfl rfl (quiet_eq (sem_loadN (Addr.add A137 (Int.toNat (i116) * 2)) [(Value.bool b139), (Value.string s140)] rfl TF.agg_63 TF.sz_63 hl ⟨rfl, rfl⟩)) ?_
              obtain ⟨hT, hF⟩ := hS
              by_cases hb141 : eqL [(Value.bool b134), (Value.string s135)] [(Value.bool b139), (Value.string s140)] = true
              · have hS := hT hb141; clear hT hF
                refine RunO.quiet rfl rfl rfl (quiet_eq (sem_aggEq [(Value.bool b134), (Value.string s135)] [(Value.bool b139), (Value.string s140)] _ (false) (.inr rfl) rfl rfl TF.agg_63 TF.flat_63 TF.eqg_63 ⟨⟨_, rfl⟩, ⟨_, rfl⟩, trivial⟩ ⟨⟨_, rfl⟩, ⟨_, rfl⟩, trivial⟩ (eqLT_neq hb141) ⟨rfl, rfl⟩)) ?_
                refine RunO.quiet rfl rfl rfl (quiet_eq (sem_pick false ((Value.bool false)) rfl rfl ⟨rfl, rfl⟩)) ?_
                refine Run.condF rfl ?_
                refine Run.skip ?_
                refine Run.ops0 (idx := [0, 1]) rfl ?_
                refine Run.go rfl rfl rfl (sem_move ((Value.int .i64 (i116))) rfl ?_)
                obtain ⟨h142, hst, hS⟩ := hS
                refine Run.go rfl rfl rfl (sem_store1 ⟨k23, 0, none⟩ ((Value.int .i64 (i116))) h142 rfl rfl rfl TF.sz_3 hst ?_)
                refine Run.region_end ?_
                refine Run.inBlock ?_
                refine Run.of_fin (hS.imp fun h' hS => ?_)
                exact Run.fall (.inl ⟨rfl, hS⟩)
              · have hS := hF hb141; clear hT hF
                refine RunO.quiet rfl rfl rfl (quiet_eq (sem_aggEq [(Value.bool b134), (Value.string s135)] [(Value.bool b139), (Value.string s140)] _ (true) (.inr rfl) rfl rfl TF.agg_63 TF.flat_63 TF.eqg_63 ⟨⟨_, rfl⟩, ⟨_, rfl⟩, trivial⟩ ⟨⟨_, rfl⟩, ⟨_, rfl⟩, trivial⟩ (eqLF_neq hb141) ⟨rfl, rfl⟩)) ?_
                refine RunO.quiet rfl rfl rfl (quiet_eq (sem_pick false ((Value.bool true)) rfl rfl ⟨rfl, rfl⟩)) ?_
                refine Run.condT rfl ?_
                refine Run.seq ?_
                refine Run.ops0 (idx := [0]) rfl ?_
                obtain ⟨h143, hst, hS⟩ := hS
                refine Run.go rfl rfl rfl (sem_store1 ⟨k6, 0, none⟩ ((Value.bool false)) h143 rfl rfl rfl TF.sz_4 hst ?_)
                refine Run.region_end ?_
                refine Run.ret (.inr ⟨_, rfl, ?_⟩)
                obtain ⟨b144, hl0, hS⟩ := hS
                refine Run.ret ⟨.inr rfl, ?_⟩
                exact ⟨⟨k6, 0, none⟩, (Value.bool b144), rfl, loadH1 TF.agg_4 hl0, hS.imp fun h' hq => ⟨(b144), rfl, hq⟩⟩
        · intro h120 hJ
          have hS := hR h120 (by simpa using hJ); clear hJ hR
          refine Run.inBlock ?_
          exact Run.of_fin (hS.imp fun h' hS => j26 _ _ ⟨⟨rfl, rfl, rfl, rfl, trivial⟩, hS⟩)
      refine Run.seq ?_
      refine Run.ops0 (idx := [0, 1, 2]) rfl ?_
      refine Run.go rfl rfl rfl (sem_move ((Value.slice a1 n2 c3)) rfl ?_)
      refine Run.go rfl rfl rfl (sem_lenSl a1 n2 c3 rfl TF.sl_51 ?_)
      refine Run.go rfl rfl rfl (sem_move ((Value.int .i64 (0))) rfl ?_)
      refine Run.region_end ?_
      refine Run.block ?_
      obtain ⟨J150, m148, h0, hS⟩ := hS
      refine Run.of_fin (h0.imp fun h' h0 => ?_)
      refine Run.loop (σ := Int × Nat) (fun x e h => J150 x.1 x.2 h ∧ Agree [(1, (Value.int .i64 (i4))), (4, (Value.pointer (some ⟨k6, 0, none⟩))), (5, (Value.pointer p15)), (6, (Value.pointer (some ⟨k18, 0, none⟩))), (26, (Value.slice a1 n2 c3)), (27, (Value.int .i64 ((n2 : Nat)))), (28, (Value.int .i64 (x.1)))] e) (fun x => x.2) ((0), m148) ⟨h0, ⟨rfl, rfl, rfl, rfl, rfl, rfl, rfl, trivial⟩⟩ ?_; clear h0
      rintro ⟨i145, m147⟩ e h146 ⟨hJ, hag⟩ ih149
      have hS := hS i145 m147 h146 hJ; clear hJ
      refine Run.env hag ?_; clear hag
      refine Run.seq ?_
      refine Run.ops0 (idx := [0]) rfl ?_
      obtain ⟨hT, hF⟩ := hS
      by_cases hb151 : (i145 : Int) < ((n2 : Nat))
      · have hS := hT hb151; clear hT hF
        refine Run.go rfl rfl rfl (sem_binI .i64 (i145) ((n2 : Nat)) (.bool true) rfl rfl (binI_lss_t hb151) ?_)
        refine Run.region_end ?_
        refine Run.seq ?_
        refine Run.condT rfl ?_
        refine Run.skip ?_
        refine Run.seq ?_
        refine Run.block ?_
        refine Run.seq ?_
        refine Run.ops0 (idx := [0, 1, 2, 3]) rfl ?_
        obtain ⟨A152, e153, hi0, hi1, hS⟩ := hS
        refine Run.go rfl rfl rfl (sem_indexAddrS A152 n2 c3 .i64 (i145) (congrArg (fun a => Value.slice a n2 c3) e153) rfl TF.slc_51 hi0 hi1 ?_)
        obtain ⟨i154, b155, s156, i157, hl, hS⟩ := hS
        refine Run.go rfl rfl rfl (sem_loadN (Addr.add A152 (Int.toNat (i145) * 4)) [(Value.int .i64 (i154)), (Value.bool b155), (Value.string s156), (Value.int .i64 (i157))] rfl TF.agg_56 TF.sz_56 hl ?_)
        refine Run.go rfl rfl rfl (sem_allocN [(Value.int .i64 (0)), (Value.bool false), (Value.string ByteArray.empty), (Value.int .i64 (0))] TF.zero_56 (fun k158 hb1 hb2 h159 hb3 => ?_))
        have hS := hS k158 hb1 hb2 h159 hb3
        obtain ⟨h160, hst, hS⟩ := hS
        refine Run.go rfl rfl rfl (sem_storeN ⟨k158, 0, none⟩ [(Value.int .i64 (i154)), (Value.bool b155), (Value.string s156), (Value.int .i64 (i157))] h160 rfl rfl TF.sz_56 hst ?_)
        refine Run.region_end ?_
        refine Run.seq ?_
        refine Run.seq ?_
        skip
        skip
        obtain ⟨i163, hl, hS⟩ := hS
        have f164 := hl
        skip
        obtain ⟨b166, s167, hl, hS⟩ := hS
        have f168 := hl
        skip
        obtain ⟨i170, hl, hS⟩ := hS
        have f171 := hl
        obtain ⟨p172, hl, hS⟩ := hS
        have f173 := hl
        skip
        obtain ⟨i175, hl, hS⟩ := hS
        have f176 := hl
        skip
        obtain ⟨b178, s179, hl, hS⟩ := hS
        have f180 := hl
        skip
        obtain ⟨i182, hl, hS⟩ := hS
        have f183 := hl
        refine Run.draw (fun h' => cellH B h' ⟨k158, 0, none⟩ = some (Value.int .i64 (i163)) ∧ CellsAt B h' ⟨k158, 1, none⟩ 0 [(Value.bool b166), (Value.string s167)] ∧ cellH B h' ⟨k158, 3, none⟩ = some (Value.int .i64 (i170)) ∧ cellH B h' ⟨k18, 0, none⟩ = some (Value.pointer p172) ∧ cellH B h' ⟨k158, 0, none⟩ = some (Value.int .i64 (i175)) ∧ CellsAt B h' ⟨k158, 1, none⟩ 0 [(Value.bool b178), (Value.string s179)] ∧ cellH B h' ⟨k158, 3, none⟩ = some (Value.int .i64 (i182)) ∧ True) [] [.q 0, .q 1, .q 2, .q 3, .q 4, .q 5, .q 6, .q 8, .q 9, .q 10, .q 11, .q 12, .q 13, .q 14, .x 7, .x 15, .q 16] TF.mixed (by kernel_rfl) ⟨f164, f168, f171, f173, f176, f180, f183, trivial⟩ ?_
        refine RunO.quiet rfl rfl rfl (fun h' hC => sem_move ((Value.pointer p15)) rfl ⟨rfl, rfl⟩) ?_
        refine RunO.quiet rfl rfl rfl (fun h' hC => sem_fieldAddr ⟨k158, 0, none⟩ 0 rfl TF.fld_56_0 ⟨rfl, rfl⟩) ?_
        refine RunO.quiet rfl rfl rfl (fun h' hC => sem_load1 ⟨k158, 0, none⟩ ((Value.int .i64 (i163))) rfl TF.agg_3 hC.1 ⟨rfl, rfl⟩) ?_
        refine RunO.quiet rfl rfl rfl (fun h' hC => sem_fieldAddr ⟨k158, 0, none⟩ 1 rfl TF.fld_56_1 ⟨rfl, rfl⟩) ?_
        refine RunO.quiet rfl rfl rfl (fun h' hC => sem_loadN ⟨k158, 1, none⟩ [(Value.bool b166), (Value.string s167)] rfl TF.agg_54 TF.sz_54 hC.2.1 ⟨rfl, rfl⟩) ?_
        refine RunO.quiet rfl rfl rfl (fun h' hC => sem_fieldAddr ⟨k158, 0, none⟩ 3 rfl TF.fld_56_2 ⟨rfl, rfl⟩) ?_
        refine RunO.quiet rfl rfl rfl (fun h' hC => sem_load1 ⟨k158, 3, none⟩ ((Value.int .i64 (i170))) rfl TF.agg_3 hC.2.2.1 ⟨rfl, rfl⟩) ?_
        refine RunO.quiet rfl rfl rfl (fun h' hC => sem_load1 ⟨k18, 0, none⟩ ((Value.pointer p172)) rfl TF.agg_62 hC.2.2.2.1 ⟨rfl, rfl⟩) ?_
        refine RunO.quiet rfl rfl rfl (fun h' hC => sem_fieldAddr ⟨k158, 0, none⟩ 0 rfl TF.fld_56_0 ⟨rfl, rfl⟩) ?_
        refine RunO.quiet rfl rfl rfl (fun h' hC => sem_load1 ⟨k158, 0, none⟩ ((Value.int .i64 (i175))) rfl TF.agg_3 hC.2.2.2.2.1 ⟨rfl, rfl⟩) ?_
        refine RunO.quiet rfl rfl rfl (fun h' hC => sem_fieldAddr ⟨k158, 0, none⟩ 1 rfl TF.fld_56_1 ⟨rfl, rfl⟩) ?_
        refine RunO.quiet rfl rfl rfl (fun h' hC => sem_loadN ⟨k158, 1, none⟩ [(Value.bool b178), (Value.string s179)] rfl TF.agg_54 TF.sz_54 hC.2.2.2.2.2.1 ⟨rfl, rfl⟩) ?_
        refine RunO.quiet rfl rfl rfl (fun h' hC => sem_fieldAddr ⟨k158, 0, none⟩ 3 rfl TF.fld_56_2 ⟨rfl, rfl⟩) ?_
        refine RunO.quiet rfl rfl rfl (fun h' hC => sem_load1 ⟨k158, 3, none⟩ ((Value.int .i64 (i182))) rfl TF.agg_3 hC.2.2.2.2.2.2.1 ⟨rfl, rfl⟩) ?_
        refine OpH.go rfl rfl rfl (sem_callL [(Value.pointer p15), (Value.int .i64 (i163)), (Value.agg #[(Value.bool b166), (Value.string s167)]), (Value.int .i64 (i170))] (TF.goes_34) rfl rfl (Spec.mono hS fun v h184 hv => ?_))
        obtain ⟨b185, rfl, hS⟩ := hv
        obtain ⟨g186, g187, g188, g189, g190, g191, g192, hS⟩ := hS
        refine ⟨fun _ => ⟨g186, g187, g188, g189, g190, g191, g192, trivial⟩, ?_⟩
        refine OpH.go rfl rfl rfl (sem_callL [(Value.pointer p172), (Value.int .i64 (i175)), (Value.agg #[(Value.bool b178), (Value.string s179)]), (Value.int .i64 (i182))] (TF.goes_37) rfl rfl (Spec.mono hS fun v h193 hv => ?_))
        obtain ⟨b194, rfl, hS⟩ := hv
        obtain ⟨g195, g196, g197, g198, g199, g200, g201, hS⟩ := hS
        refine ⟨fun _ => ⟨g195, g196, g197, g198, g199, g200, g201, trivial⟩, ?_⟩
        obtain ⟨hT, hF⟩ := hS
        by_cases hb202 : b185 = b194
        · have hS := hT hb202; clear hT hF
          refine RunO.quiet rfl rfl rfl (fun h' hC => sem_boolEqT b185 b194 (.inr rfl) false rfl rfl TF.bool_4 hb202 rfl ⟨rfl, rfl⟩) ?_
          refine Run.condF rfl ?_
          refine Run.skip ?_
          refine Run.seq ?_
          refine Run.ops0 (idx := [0, 1, 2, 3, 4]) rfl ?_
          obtain ⟨p203, hl, hS⟩ := hS
          refine Run.go rfl rfl rfl (sem_load1 ⟨k18, 0, none⟩ ((Value.pointer p203)) rfl TF.agg_62 hl ?_)
          obtain ⟨A204, e205, hS⟩ := hS
          refine Run.go rfl rfl rfl (sem_nilCheck A204 (congrArg Value.pointer e205) ?_)
          refine Run.go rfl rfl rfl (sem_fieldAddr A204 0 rfl TF.fld_67_0 ?_)
          obtain ⟨l206, hln, hl, hS⟩ := hS
          refine Run.go rfl rfl rfl (sem_loadN A204 l206 rfl TF.agg_64 (TF.sz_64.trans (congrArg some hln.symm)) hl ?_)
          refine Run.go rfl rfl rfl (sem_move ((Value.int .i64 (0))) rfl ?_)
          refine Run.region_end ?_
          refine Run.block ?_
          obtain ⟨J212, m210, h0, hS⟩ := hS
          refine Run.of_fin (h0.imp fun h' h0 => ?_)
          refine Run.loop (σ := Int × Nat) (fun x e h => J212 x.1 x.2 h ∧ Agree [(1, (Value.int .i64 (i4))), (4, (Value.pointer (some ⟨k6, 0, none⟩))), (5, (Value.pointer p15)), (6, (Value.pointer (some ⟨k18, 0, none⟩))), (26, (Value.slice a1 n2 c3)), (27, (Value.int .i64 ((n2 : Nat)))), (28, (Value.int .i64 (i145))), (52, (Value.agg (List.toArray l206))), (53, (Value.int .i64 (x.1)))] e) (fun x => x.2) ((0), m210) ⟨h0, ⟨rfl, rfl, rfl, rfl, rfl, rfl, rfl, rfl, rfl, trivial⟩⟩ ?_; clear h0
          rintro ⟨i207, m209⟩ e h208 ⟨hJ, hag⟩ ih211
          have hS := hS i207 m209 h208 hJ; clear hJ
          refine Run.env hag ?_; clear hag
          refine Run.seq ?_
          refine Run.ops0 (idx := [0]) rfl ?_
          obtain ⟨hT, hF⟩ := hS
          by_cases hb213 : (i207 : Int) < (6)
          · have hS := hT hb213; clear hT hF
            refine Run.go rfl rfl rfl (sem_binI .i64 (i207) (6) (.bool true) rfl rfl (binI_lss_t hb213) ?_)
            refine Run.region_end ?_
            refine Run.seq ?_
            refine Run.condT rfl ?_
            refine Run.skip ?_
            refine Run.seq ?_
            refine Run.block ?_
            refine Run.seq ?_
            refine Run.ops0 (idx := [0, 1, 2, 3, 4]) rfl ?_
            refine Run.go rfl rfl rfl (sem_move ((Value.int .i64 (i207))) rfl ?_)
            obtain ⟨hi0, hi1, b214, s215, hix, hS⟩ := hS
            refine Run.go rfl rfl rfl (sem_indexArr (List.toArray l206) (Value.agg #[(Value.bool b214), (Value.string s215)]) .i64 (i207) rfl rfl TF.arr_64 hi0 hi1 (congrArg (fun a => some (Value.agg a)) hix) ?_)
            refine Run.go rfl rfl rfl (sem_allocN [(Value.bool false), (Value.string ByteArray.empty)] TF.zero_63 (fun k216 hb1 hb2 h217 hb3 => ?_))
            have hS := hS k216 hb1 hb2 h217 hb3
            refine Run.go rfl rfl rfl (sem_assign ((Value.int .i64 (i207))) rfl ?_)
            obtain ⟨h218, hst, hS⟩ := hS
            refine Run.go rfl rfl rfl (sem_storeN ⟨k216, 0, none⟩ [(Value.bool b214), (Value.string s215)] h218 rfl rfl TF.sz_63 hst ?_)
            refine Run.region_end ?_
            refine Run.seq ?_
            refine Run.ops0 (idx := [0, 1, 2, 3, 4, 5, 6, 7, 8]) rfl ?_
            refine Run.go rfl rfl rfl (sem_move ((Value.pointer p15)) rfl ?_)
            refine Run.go rfl rfl rfl (sem_move ((Value.int .i64 (i207))) rfl ?_)
            refine Run.go rfl rfl rfl (sem_callL [(Value.pointer p15), (Value.int .i64 (i207))] (TF.goes_38) rfl rfl (Spec.mono hS fun v h219 hv => ?_))
            obtain ⟨b220, s221, i222, rfl, hS⟩ := hv
            refine Run.go rfl rfl rfl (sem_move ((Value.tuple #[(Value.agg #[(Value.bool b220), (Value.string s221)]), (Value.int .i64 (i222))])) rfl ?_)
            refine Run.go rfl rfl rfl (sem_extract #[(Value.agg #[(Value.bool b220), (Value.string s221)]), (Value.int .i64 (i222))] ((Value.agg #[(Value.bool b220), (Value.string s221)])) rfl rfl ?_)
            refine Run.go rfl rfl rfl (sem_extract #[(Value.agg #[(Value.bool b220), (Value.string s221)]), (Value.int .i64 (i222))] ((Value.int .i64 (i222))) rfl rfl ?_)
            refine Run.go rfl rfl rfl (sem_allocN [(Value.bool false), (Value.string ByteArray.empty)] TF.zero_54 (fun k223 hb1 hb2 h224 hb3 => ?_))
            have hS := hS k223 hb1 hb2 h224 hb3
            obtain ⟨h225, hst, hS⟩ := hS
            refine Run.go rfl rfl rfl (sem_storeN ⟨k223, 0, none⟩ [(Value.bool b220), (Value.string s221)] h225 rfl rfl TF.sz_54 hst ?_)
            refine Run.go rfl rfl rfl (sem_assign ((Value.int .i64 (i222))) rfl ?_)
            refine Run.region_end ?_
            refine Run.seq ?_
            refine Run.ops0 (idx := [0, 1, 2, 3, 4, 5, 6, 7, 8, 9, 10, 11, 12]) rfl ?_
            obtain ⟨b226, s227, hl, hS⟩ := hS
            refine Run.go rfl rfl rfl (sem_loadN ⟨k223, 0, none⟩ [(Value.bool b226), (Value.string s227)] rfl TF.agg_54 TF.sz_54 hl ?_)
            obtain ⟨b228, s229, hl, hS⟩ := hS
            refine Run.go rfl rfl rfl (sem_loadN ⟨k216, 0, none⟩ [(Value.bool b228), (Value.string s229)] rfl TF.agg_63 TF.sz_63 hl ?_)
            obtain ⟨hT, hF⟩ := hS
            by_cases hb230 : eqL [(Value.bool b226), (Value.string s227)] [(Value.bool b228), (Value.string s229)] = true
            · have hS := hT hb230; clear hT hF
              refine Run.go rfl rfl rfl (sem_aggEq [(Value.bool b226), (Value.string s227)] [(Value.bool b228), (Value.string s229)] _ (false) (.inr rfl) rfl rfl TF.agg_63 TF.flat_63 TF.eqg_63 ⟨⟨_, rfl⟩, ⟨_, rfl⟩, trivial⟩ ⟨⟨_, rfl⟩, ⟨_, rfl⟩, trivial⟩ (eqLT_neq hb230) ?_)
              refine Run.go rfl rfl rfl (sem_move ((Value.bool false)) rfl ?_)
              refine Run.go rfl rfl rfl (sem_move ((Value.int .i64 (i222))) rfl ?_)
              obtain ⟨p231, hl, hS⟩ := hS
              refine Run.go rfl rfl rfl (sem_load1 ⟨k18, 0, none⟩ ((Value.pointer p231)) rfl TF.agg_62 hl ?_)
              refine Run.go rfl rfl rfl (sem_move ((Value.int .i64 (i207))) rfl ?_)
              obtain ⟨A232, e233, hS⟩ := hS
              refine Run.go rfl rfl rfl (sem_nilCheck A232 (congrArg Value.pointer e233) ?_)
              refine Run.go rfl rfl rfl (sem_fieldAddr A232 12 rfl TF.fld_67_1 ?_)
              obtain ⟨hi0, hi1, hS⟩ := hS
              refine Run.go rfl rfl rfl (sem_indexAddrA (Addr.add A232 12) .i64 (i207) rfl rfl TF.arr_65 hi0 hi1 ?_)
              obtain ⟨i234, hl, hS⟩ := hS
              refine Run.go rfl rfl rfl (sem_load1 (Addr.add (Addr.add A232 12) (Int.toNat (i207) * 1)) ((Value.int .i64 (i234))) rfl TF.agg_3 hl ?_)
              obtain ⟨hT, hF⟩ := hS
              by_cases hb235 : (i222 : Int) = i234
              · have hS := hT hb235; clear hT hF
                refine Run.go rfl rfl rfl (sem_binI .i64 (i222) (i234) (.bool false) rfl rfl (binI_neq_t hb235) ?_)
                refine Run.go rfl rfl rfl (sem_pick false ((Value.bool false)) rfl rfl ?_)
                refine Run.region_end ?_
                refine Run.condF rfl ?_
                refine Run.skip ?_
                refine Run.inBlock ?_
                refine Run.ops0 (idx := [0, 1]) rfl ?_
                refine Run.go rfl rfl rfl (sem_binI .i64 (i207) (1) ((Value.int .i64 (IntKind.wrap .i64 ((i207) + (1))))) rfl rfl rfl ?_)
                refine Run.go rfl rfl rfl (sem_move ((Value.int .i64 (IntKind.wrap .i64 ((i207) + (1))))) rfl ?_)
                refine Run.region_end ?_
                exact Run.of_fin (hS.imp fun h' ⟨m', hm, hS⟩ => ih211 ((IntKind.wrap .i64 ((i207) + (1))), m') _ _ ⟨hS, ⟨rfl, rfl, rfl, rfl, rfl, rfl, rfl, rfl, rfl, trivial⟩⟩ hm)
              · have hS := hF hb235; clear hT hF
                refine Run.go rfl rfl rfl (sem_binI .i64 (i222) (i234) (.bool true) rfl rfl (binI_neq_f hb235) ?_)
                refine Run.go rfl rfl rfl (sem_pick false ((Value.bool true)) rfl rfl ?_)
                refine Run.region_end ?_
                refine Run.condT rfl ?_
                refine Run.seq ?_
                refine Run.ops0 (idx := [0]) rfl ?_
                obtain ⟨h236, hst, hS⟩ := hS
                refine Run.go rfl rfl rfl (sem_store1 ⟨k6, 0, none⟩ ((Value.bool false)) h236 rfl rfl rfl TF.sz_4 hst ?_)
                refine Run.region_end ?_
                obtain ⟨b237, hl0, hS⟩ := hS
                refine Run.ret ⟨.inr rfl, ?_⟩
                exact ⟨⟨k6, 0, none⟩, (Value.bool b237), rfl, loadH1 TF.agg_4 hl0, hS.imp fun h' hq => ⟨(b237), rfl, hq⟩⟩
            · have hS := hF hb230; clear hT hF
              refine Run.go rfl rfl rfl (sem_aggEq [(Value.bool b226), (Value.string s227)] [(Value.bool b228), (Value.string s229)] _ (true) (.inr rfl) rfl rfl TF.agg_63 TF.flat_63 TF.eqg_63 ⟨⟨_, rfl⟩, ⟨_, rfl⟩, trivial⟩ ⟨⟨_, rfl⟩, ⟨_, rfl⟩, trivial⟩ (eqLF_neq hb230) ?_)
              refine Run.go rfl rfl rfl (sem_move ((Value.bool true)) rfl ?_)
              refine Run.no rfl rfl rfl ?_
              refine Run.no rfl rfl rfl ?_
              refine Run.no rfl rfl rfl ?_
              refine Run.no rfl rfl rfl ?_
              refine Run.no rfl rfl rfl ?_
              refine Run.no rfl rfl rfl ?_
              refine Run.no rfl rfl rfl ?_
              refine Run.no rfl rfl rfl ?_
              refine Run.go rfl rfl rfl (sem_pick true ((Value.bool true)) rfl rfl ?_)
              refine Run.region_end ?_
              refine Run.condT rfl ?_
              refine Run.seq ?_
              refine Run.ops0 (idx := [0]) rfl ?_
              obtain ⟨h238, hst, hS⟩ := hS
              refine Run.go rfl rfl rfl (sem_store1 ⟨k6, 0, none⟩ ((Value.bool false)) h238 rfl rfl rfl TF.sz_4 hst ?_)
              refine Run.region_end ?_
              obtain ⟨b239, hl0, hS⟩ := hS
              refine Run.ret ⟨.inr rfl, ?_⟩
              exact ⟨⟨k6, 0, none⟩, (Value.bool b239), rfl, loadH1 TF.agg_4 hl0, hS.imp fun h' hq => ⟨(b239), rfl, hq⟩⟩
          · have hS := hF hb213; clear hT hF
            refine Run.go rfl rfl rfl (sem_binI .i64 (i207) (6) (.bool false) rfl rfl (binI_lss_f hb213) ?_)
            refine Run.region_end ?_
            refine Run.seq ?_
            refine Run.condF rfl ?_
            refine Run.exit rfl ?_
            refine Run.inBlock ?_
            refine Run.ops0 (idx := [0, 1]) rfl ?_
            refine Run.go rfl rfl rfl (sem_binI .i64 (i145) (1) ((Value.int .i64 (IntKind.wrap .i64 ((i145) + (1))))) rfl rfl rfl ?_)
            refine Run.go rfl rfl rfl (sem_move ((Value.int .i64 (IntKind.wrap .i64 ((i145) + (1))))) rfl ?_)
            refine Run.region_end ?_
            exact Run.of_fin (hS.imp fun h' ⟨m', hm, hS⟩ => ih149 ((IntKind.wrap .i64 ((i145) + (1))), m') _ _ ⟨hS, ⟨rfl, rfl, rfl, rfl, rfl, rfl, rfl, trivial⟩⟩ hm)
        · have hS := hF hb202; clear hT hF
          refine RunO.quiet rfl rfl rfl (fun h' hC => sem_boolEqF b185 b194 (.inr rfl) true rfl rfl TF.bool_4 hb202 rfl ⟨rfl, rfl⟩) ?_
          refine Run.condT rfl ?_
          refine Run.seq ?_
          refine Run.ops0 (idx := [0]) rfl ?_
          obtain ⟨h240, hst, hS⟩ := hS
          refine Run.go rfl rfl rfl (sem_store1 ⟨k6, 0, none⟩ ((Value.bool false)) h240 rfl rfl rfl TF.sz_4 hst ?_)
          refine Run.region_end ?_
          obtain ⟨b241, hl0, hS⟩ := hS
          refine Run.ret ⟨.inr rfl, ?_⟩
          exact ⟨⟨k6, 0, none⟩, (Value.bool b241), rfl, loadH1 TF.agg_4 hl0, hS.imp fun h' hq => ⟨(b241), rfl, hq⟩⟩
      · have hS := hF hb151; clear hT hF
        refine Run.go rfl rfl rfl (sem_binI .i64 (i145) ((n2 : Nat)) (.bool false) rfl rfl (binI_lss_f hb151) ?_)
        refine Run.region_end ?_
        refine Run.seq ?_
        refine Run.condF rfl ?_
        refine Run.exit rfl ?_
        exact Run.of_fin (hS.imp fun h' hS => j21 _ _ ⟨⟨rfl, rfl, rfl, rfl, trivial⟩, hS⟩)
    · have hS := hT rfl; clear hT hF
      refine Run.region_end ?_
      refine Run.condT rfl ?_
      refine Run.seq ?_
      refine Run.ops0 (idx := [0]) rfl ?_
      obtain ⟨h242, hst, hS⟩ := hS
      refine Run.go rfl rfl rfl (sem_store1 ⟨k6, 0, none⟩ ((Value.bool true)) h242 rfl rfl rfl TF.sz_4 hst ?_)
      refine Run.region_end ?_
      obtain ⟨b243, hl0, hS⟩ := hS
      refine Run.ret ⟨.inr rfl, ?_⟩
      exact ⟨⟨k6, 0, none⟩, (Value.bool b243), rfl, loadH1 TF.agg_4 hl0, hS.imp fun h' hq => ⟨(b243), rfl, hq⟩⟩
set_option maxHeartbeats 4000000 in
theorem C_countermandlaw10_TomeReturns.of {B : RO} {a1 : Option Addr} {n2 : Nat} {c3 : Nat} {a4 : Option Addr} {n5 : Nat} {c6 : Nat} {h : Heap} {Q : Bool → Heap → Prop} (hS : S_countermandlaw10_TomeReturns B a1 n2 c3 a4 n5 c6 h Q) : C_countermandlaw10_TomeReturns B a1 n2 c3 a4 n5 c6 h Q := by
  unfold S_countermandlaw10_TomeReturns at hS
  unfold C_countermandlaw10_TomeReturns
  refine Spec.of_run Try.func8 (N := 96) (rs := [ResultVar.tmp 4]) rfl rfl rfl (Nat.le_of_ble_eq_true rfl) ?_
  refine Run.seq ?_
  refine Run.ops0 (idx := [0]) rfl ?_
  refine Run.go rfl rfl rfl (sem_assign ((Value.bool false)) rfl ?_)
  refine Run.region_end ?_
  refine Run.seq ?_
  refine Run.seq ?_
  refine Run.ops0 (idx := [0, 1]) rfl ?_
  refine Run.go rfl rfl rfl (sem_callL [] (TF.goes_31) rfl rfl (Spec.mono hS fun v h8 hv => ?_))
  obtain ⟨b9, rfl, hS⟩ := hv
  obtain ⟨hT, hF⟩ := hS
  cases b9
  · have hS := hF rfl; clear hT hF
    refine Run.go rfl rfl rfl (sem_not false rfl ?_)
    refine Run.region_end ?_
    refine Run.condT rfl ?_
    refine Run.seq ?_
    refine Run.ops0 (idx := [0]) rfl ?_
    refine Run.go rfl rfl rfl (sem_assign ((Value.bool false)) rfl ?_)
    refine Run.region_end ?_
    refine Run.ret ⟨.inr rfl, ?_⟩
    exact hS.imp fun h' hq => ⟨(false), rfl, hq⟩
  · have hS := hT rfl; clear hT hF
    refine Run.go rfl rfl rfl (sem_not true rfl ?_)
    refine Run.region_end ?_
    refine Run.condF rfl ?_
    refine Run.skip ?_
    refine Run.seqJ (fun e h11 => Agree [(0, (Value.slice a1 n2 c3)), (1, (Value.slice a4 n5 c6))] e ∧ S_countermandlaw10_TomeReturns_J1 B a1 n2 c3 a4 n5 c6 h11 Q) ?_ fun j10 => ?_
    · rintro e h11 ⟨hag, hS⟩
      refine Run.env hag ?_; clear hag
      refine Run.seq ?_
      refine Run.ops0 (idx := [0, 1, 2, 3]) rfl ?_
      refine Run.go rfl rfl rfl (sem_callL [] (TF.goes_33) rfl rfl (Spec.mono hS fun v h12 hv => ?_))
      obtain ⟨p13, rfl, hS⟩ := hv
      refine Run.go rfl rfl rfl (sem_callL [] (TF.goes_33) rfl rfl (Spec.mono hS fun v h14 hv => ?_))
      obtain ⟨p15, rfl, hS⟩ := hv
      refine Run.go rfl rfl rfl (sem_assign ((Value.pointer p13)) rfl ?_)
      refine Run.go rfl rfl rfl (sem_assign ((Value.pointer p15)) rfl ?_)
      refine Run.region_end ?_
      refine Run.seq ?_
      refine Run.ops0 (idx := [0, 1, 2, 3, 4, 5]) rfl ?_
      refine Run.go rfl rfl rfl (sem_buildSL [] [(Value.bool false), (Value.string ByteArray.empty), (Value.bool false), (Value.string ByteArray.empty), (Value.bool false), (Value.string ByteArray.empty), (Value.bool false), (Value.string ByteArray.empty), (Value.bool false), (Value.string ByteArray.empty), (Value.bool false), (Value.string ByteArray.empty), (Value.int .i64 (0)), (Value.int .i64 (0)), (Value.int .i64 (0)), (Value.int .i64 (0)), (Value.int .i64 (0)), (Value.int .i64 (0))] TF.zero_67 TF.places_67 rfl rfl ?_)
      refine Run.go rfl rfl rfl (sem_boxNN [(Value.bool false), (Value.string ByteArray.empty), (Value.bool false), (Value.string ByteArray.empty), (Value.bool false), (Value.string ByteArray.empty), (Value.bool false), (Value.string ByteArray.empty), (Value.bool false), (Value.string ByteArray.empty), (Value.bool false), (Value.string ByteArray.empty), (Value.int .i64 (0)), (Value.int .i64 (0)), (Value.int .i64 (0)), (Value.int .i64 (0)), (Value.int .i64 (0)), (Value.int .i64 (0))] rfl (fun k16 hb1 hb2 h17 hb3 => ?_))
      have hS := hS k16 hb1 hb2 h17 hb3
      refine Run.go rfl rfl rfl (sem_buildSL [] [(Value.bool false), (Value.string ByteArray.empty), (Value.bool false), (Value.string ByteArray.empty), (Value.bool false), (Value.string ByteArray.empty), (Value.bool false), (Value.string ByteArray.empty), (Value.bool false), (Value.string ByteArray.empty), (Value.bool false), (Value.string ByteArray.empty), (Value.int .i64 (0)), (Value.int .i64 (0)), (Value.int .i64 (0)), (Value.int .i64 (0)), (Value.int .i64 (0)), (Value.int .i64 (0))] TF.zero_67 TF.places_67 rfl rfl ?_)
      refine Run.go rfl rfl rfl (sem_boxNN [(Value.bool false), (Value.string ByteArray.empty), (Value.bool false), (Value.string ByteArray.empty), (Value.bool false), (Value.string ByteArray.empty), (Value.bool false), (Value.string ByteArray.empty), (Value.bool false), (Value.string ByteArray.empty), (Value.bool false), (Value.string ByteArray.empty), (Value.int .i64 (0)), (Value.int .i64 (0)), (Value.int .i64 (0)), (Value.int .i64 (0)), (Value.int .i64 (0)), (Value.int .i64 (0))] rfl (fun k18 hb1 hb2 h19 hb3 => ?_))
      have hS := hS k18 hb1 hb2 h19 hb3
      refine Run.go rfl rfl rfl (sem_assign ((Value.pointer (some ⟨k16, 0, none⟩))) rfl ?_)
      refine Run.go rfl rfl rfl (sem_assign ((Value.pointer (some ⟨k18, 0, none⟩))) rfl ?_)
      refine Run.region_end ?_
      refine Run.seqJ (fun e h21 => Agree [(1, (Value.slice a4 n5 c6)), (5, (Value.pointer p13)), (6, (Value.pointer p15)), (7, (Value.pointer (some ⟨k16, 0, none⟩))), (8, (Value.pointer (some ⟨k18, 0, none⟩)))] e ∧ S_countermandlaw10_TomeReturns_J2 B a4 n5 c6 p13 p15 k16 k18 h21 Q) ?_ fun j20 => ?_
      · rintro e h21 ⟨hag, hS⟩
        refine Run.env hag ?_; clear hag
        refine Run.seqJ (fun e h23 => Agree [(5, (Value.pointer p13)), (6, (Value.pointer p15)), (7, (Value.pointer (some ⟨k16, 0, none⟩))), (8, (Value.pointer (some ⟨k18, 0, none⟩)))] e ∧ S_countermandlaw10_TomeReturns_J3 B p13 p15 k16 k18 h23 Q) ?_ fun j22 => ?_
        · rintro e h23 ⟨hag, hS⟩
          refine Run.env hag ?_; clear hag
          refine Run.seq ?_
          refine Run.ops0 (idx := [0, 1, 2, 3, 4, 5, 6, 7]) rfl ?_
          refine Run.go rfl rfl rfl (sem_move ((Value.pointer p13)) rfl ?_)
          refine Run.go rfl rfl rfl (sem_callL [(Value.pointer p13)] (TF.goes_36) rfl rfl (Spec.mono hS fun v h24 hv => ?_))
          obtain ⟨s25, rfl, hS⟩ := hv
          refine Run.go rfl rfl rfl (sem_callL [(Value.string s25)] (TF.goes_41) rfl rfl (Spec.mono hS fun v h26 hv => ?_))
          obtain ⟨p27, b28, rfl, hS⟩ := hv
          refine Run.go rfl rfl rfl (sem_move ((Value.tuple #[(Value.pointer p27), (Value.bool b28)])) rfl ?_)
          refine Run.go rfl rfl rfl (sem_extract #[(Value.pointer p27), (Value.bool b28)] ((Value.pointer p27)) rfl rfl ?_)
          obtain ⟨hT, hF⟩ := hS
          cases b28
          · have hS := hF rfl; clear hT hF
            refine Run.go rfl rfl rfl (sem_extract #[(Value.pointer p27), (Value.bool false)] (.bool false) rfl rfl ?_)
            refine Run.go rfl rfl rfl (sem_assign ((Value.pointer p27)) rfl ?_)
            refine Run.go rfl rfl rfl (sem_assign ((Value.bool false)) rfl ?_)
            refine Run.region_end ?_
            refine Run.seq ?_
            skip
            skip
            refine Run.drawT (fun h' => True) [] (.q 0 (.q 1 (.q 2 (.q 3 (.x 4 (.q 5 (.q 6 (.q 7 (.q 8 (.q 10 (.q 11 (.q 12 (.q 14 (.q 15 (.q 16 (.x 9 (.x 13 (.x 17 (.q 18 (.q 19 (.q 20 (.q 21 .nil)))) .no) (.x 17 (.x 13 (.q 18 (.q 19 (.q 20 (.q 21 .nil)))) .no) .no)) (.x 13 (.x 9 (.x 17 (.q 18 (.q 19 (.q 20 (.q 21 .nil)))) .no) (.x 17 (.q 18 (.x 9 (.q 19 (.q 20 (.q 21 .nil))) .no)) .no)) (.x 17 (.x 9 (.x 13 (.q 18 (.q 19 (.q 20 (.q 21 .nil)))) .no) (.x 13 (.q 18 (.x 9 (.q 19 (.q 20 (.q 21 .nil))) .no)) .no)) .no))))))))))))) .no))))) TF.mixed (by kernel_rfl) trivial ?_
            refine RunT.quiet rfl rfl rfl (fun h' hC => sem_move ((Value.bool false)) rfl ⟨rfl, rfl⟩) ?_
            refine RunT.quiet rfl rfl rfl (fun h' hC => sem_move ((Value.bool false)) rfl ⟨rfl, rfl⟩) ?_
            refine RunT.skip rfl rfl rfl ?_
            refine RunT.skip rfl rfl rfl ?_
            refine ⟨?_, trivial⟩
            refine OpH.no rfl rfl rfl ⟨fun _ => trivial, ?_⟩
            refine RunT.quiet rfl rfl rfl (fun h' hC => sem_pick false ((Value.bool false)) rfl rfl ⟨rfl, rfl⟩) ?_
            refine RunT.quiet rfl rfl rfl (fun h' hC => sem_move ((Value.bool false)) rfl ⟨rfl, rfl⟩) ?_
            refine RunT.skip rfl rfl rfl ?_
            refine RunT.skip rfl rfl rfl ?_
            refine RunT.skip rfl rfl rfl ?_
            refine RunT.skip rfl rfl rfl ?_
            refine RunT.skip rfl rfl rfl ?_
            refine RunT.skip rfl rfl rfl ?_
            refine RunT.skip rfl rfl rfl ?_
            refine RunT.skip rfl rfl rfl ?_
            refine ⟨?_, ?_, ?_, trivial⟩
            · have hS := hS.1
              refine OpH.no rfl rfl rfl ⟨fun _ => trivial, ?_⟩
              refine ⟨?_, ?_, trivial⟩
              · have hS := hS.1
                refine OpH.no rfl rfl rfl ⟨fun _ => trivial, ?_⟩
                refine ⟨?_, trivial⟩
                refine OpH.no rfl rfl rfl ⟨fun _ => trivial, ?_⟩
                refine RunT.skip rfl rfl rfl ?_
                refine RunT.skip rfl rfl rfl ?_
                refine RunT.quiet rfl rfl rfl (fun h' hC => sem_pick false ((Value.bool false)) rfl rfl ⟨rfl, rfl⟩) ?_
                refine RunT.quiet rfl rfl rfl (fun h' hC => sem_assign ((Value.bool false)) rfl ⟨rfl, rfl⟩) ?_
                refine Run.ret ⟨.inr rfl, ?_⟩
                exact hS.imp fun h' hq => ⟨(false), rfl, hq⟩
              · have hS := hS.2
                refine OpH.no rfl rfl rfl ⟨fun _ => trivial, ?_⟩
                refine ⟨?_, trivial⟩
                refine OpH.no rfl rfl rfl ⟨fun _ => trivial, ?_⟩
                refine RunT.skip rfl rfl rfl ?_
                refine RunT.skip rfl rfl rfl ?_
                refine RunT.quiet rfl rfl rfl (fun h' hC => sem_pick false ((Value.bool false)) rfl rfl ⟨rfl, rfl⟩) ?_
                refine RunT.quiet rfl rfl rfl (fun h' hC => sem_assign ((Value.bool false)) rfl ⟨rfl, rfl⟩) ?_
                refine Run.ret ⟨.inr rfl, ?_⟩
                exact hS.imp fun h' hq => ⟨(false), rfl, hq⟩
            · have hS := hS.2.1
              refine OpH.no rfl rfl rfl ⟨fun _ => trivial, ?_⟩
              refine ⟨?_, ?_, trivial⟩
              · have hS := hS.1
                refine OpH.no rfl rfl rfl ⟨fun _ => trivial, ?_⟩
                refine ⟨?_, trivial⟩
                refine OpH.no rfl rfl rfl ⟨fun _ => trivial, ?_⟩
                refine RunT.skip rfl rfl rfl ?_
                refine RunT.skip rfl rfl rfl ?_
                refine RunT.quiet rfl rfl rfl (fun h' hC => sem_pick false ((Value.bool false)) rfl rfl ⟨rfl, rfl⟩) ?_
                refine RunT.quiet rfl rfl rfl (fun h' hC => sem_assign ((Value.bool false)) rfl ⟨rfl, rfl⟩) ?_
                refine Run.ret ⟨.inr rfl, ?_⟩
                exact hS.imp fun h' hq => ⟨(false), rfl, hq⟩
              · have hS := hS.2
                refine OpH.no rfl rfl rfl ⟨fun _ => trivial, ?_⟩
                refine RunT.skip rfl rfl rfl ?_
                refine ⟨?_, trivial⟩
                refine OpH.no rfl rfl rfl ⟨fun _ => trivial, ?_⟩
                refine RunT.skip rfl rfl rfl ?_
                refine RunT.quiet rfl rfl rfl (fun h' hC => sem_pick false ((Value.bool false)) rfl rfl ⟨rfl, rfl⟩) ?_
                refine RunT.quiet rfl rfl rfl (fun h' hC => sem_assign ((Value.bool false)) rfl ⟨rfl, rfl⟩) ?_
                refine Run.ret ⟨.inr rfl, ?_⟩
                exact hS.imp fun h' hq => ⟨(false), rfl, hq⟩
            · have hS := hS.2.2
              refine OpH.no rfl rfl rfl ⟨fun _ => trivial, ?_⟩
              refine ⟨?_, ?_, trivial⟩
              · have hS := hS.1
                refine OpH.no rfl rfl rfl ⟨fun _ => trivial, ?_⟩
                refine ⟨?_, trivial⟩
                refine OpH.no rfl rfl rfl ⟨fun _ => trivial, ?_⟩
                refine RunT.skip rfl rfl rfl ?_
                refine RunT.skip rfl rfl rfl ?_
                refine RunT.quiet rfl rfl rfl (fun h' hC => sem_pick false ((Value.bool false)) rfl rfl ⟨rfl, rfl⟩) ?_
                refine RunT.quiet rfl rfl rfl (fun h' hC => sem_assign ((Value.bool false)) rfl ⟨rfl, rfl⟩) ?_
                refine Run.ret ⟨.inr rfl, ?_⟩
                exact hS.imp fun h' hq => ⟨(false), rfl, hq⟩
              · have hS := hS.2
                refine OpH.no rfl rfl rfl ⟨fun _ => trivial, ?_⟩
                refine RunT.skip rfl rfl rfl ?_
                refine ⟨?_, trivial⟩
                refine OpH.no rfl rfl rfl ⟨fun _ => trivial, ?_⟩
                refine RunT.skip rfl rfl rfl ?_
                refine RunT.quiet rfl rfl rfl (fun h' hC => sem_pick false ((Value.bool false)) rfl rfl ⟨rfl, rfl⟩) ?_
                refine RunT.quiet rfl rfl rfl (fun h' hC => sem_assign ((Value.bool false)) rfl ⟨rfl, rfl⟩) ?_
                refine Run.ret ⟨.inr rfl, ?_⟩
                exact hS.imp fun h' hq => ⟨(false), rfl, hq⟩
          · have hS := hT rfl; clear hT hF
            refine Run.go rfl rfl rfl (sem_extract #[(Value.pointer p27), (Value.bool true)] (.bool true) rfl rfl ?_)
            refine Run.go rfl rfl rfl (sem_assign ((Value.pointer p27)) rfl ?_)
            refine Run.go rfl rfl rfl (sem_assign ((Value.bool true)) rfl ?_)
            refine Run.region_end ?_
            refine Run.seq ?_
            skip
            skip
            skip
            skip
            refine Run.drawT (fun h' => True) [] (.q 0 (.q 1 (.q 2 (.q 3 (.x 4 (.q 5 (.q 6 (.q 7 (.q 8 (.q 10 (.q 11 (.q 12 (.q 14 (.q 15 (.q 16 (.x 9 (.x 13 (.x 17 (.q 18 (.q 19 (.q 20 (.q 21 .nil)))) .no) (.x 17 (.x 13 (.q 18 (.q 19 (.q 20 (.q 21 .nil)))) .no) .no)) (.x 13 (.x 9 (.x 17 (.q 18 (.q 19 (.q 20 (.q 21 .nil)))) .no) (.x 17 (.q 18 (.x 9 (.q 19 (.q 20 (.q 21 .nil))) .no)) .no)) (.x 17 (.x 9 (.x 13 (.q 18 (.q 19 (.q 20 (.q 21 .nil)))) .no) (.x 13 (.q 18 (.x 9 (.q 19 (.q 20 (.q 21 .nil))) .no)) .no)) .no))))))))))))) .no))))) TF.mixed (by kernel_rfl) trivial ?_
            refine RunT.quiet rfl rfl rfl (fun h' hC => sem_move ((Value.bool true)) rfl ⟨rfl, rfl⟩) ?_
            refine RunT.quiet rfl rfl rfl (fun h' hC => sem_move ((Value.bool true)) rfl ⟨rfl, rfl⟩) ?_
            refine RunT.quiet rfl rfl rfl (fun h' hC => sem_move ((Value.pointer p13)) rfl ⟨rfl, rfl⟩) ?_
            refine RunT.quiet rfl rfl rfl (fun h' hC => sem_move ((Value.pointer p27)) rfl ⟨rfl, rfl⟩) ?_
            refine ⟨?_, trivial⟩
            refine OpH.go rfl rfl rfl (sem_callL [(Value.pointer p13), (Value.pointer p27)] (TF.goes_35) rfl rfl (Spec.mono hS fun v h35 hv => ?_))
            obtain ⟨b36, rfl, hS⟩ := hv
            obtain ⟨hT, hF⟩ := hS
            cases b36
            · have hS := hF rfl; clear hT hF
              refine ⟨fun _ => trivial, ?_⟩
              refine RunT.quiet rfl rfl rfl (fun h' hC => sem_pick true ((Value.bool false)) rfl rfl ⟨rfl, rfl⟩) ?_
              refine RunT.quiet rfl rfl rfl (fun h' hC => sem_move ((Value.bool false)) rfl ⟨rfl, rfl⟩) ?_
              refine RunT.skip rfl rfl rfl ?_
              refine RunT.skip rfl rfl rfl ?_
              refine RunT.skip rfl rfl rfl ?_
              refine RunT.skip rfl rfl rfl ?_
              refine RunT.skip rfl rfl rfl ?_
              refine RunT.skip rfl rfl rfl ?_
              refine RunT.skip rfl rfl rfl ?_
              refine RunT.skip rfl rfl rfl ?_
              refine ⟨?_, ?_, ?_, trivial⟩
              · have hS := hS.1
                refine OpH.no rfl rfl rfl ⟨fun _ => trivial, ?_⟩
                refine ⟨?_, ?_, trivial⟩
                · have hS := hS.1
                  refine OpH.no rfl rfl rfl ⟨fun _ => trivial, ?_⟩
                  refine ⟨?_, trivial⟩
                  refine OpH.no rfl rfl rfl ⟨fun _ => trivial, ?_⟩
                  refine RunT.skip rfl rfl rfl ?_
                  refine RunT.skip rfl rfl rfl ?_
                  refine RunT.quiet rfl rfl rfl (fun h' hC => sem_pick false ((Value.bool false)) rfl rfl ⟨rfl, rfl⟩) ?_
                  refine RunT.quiet rfl rfl rfl (fun h' hC => sem_assign ((Value.bool false)) rfl ⟨rfl, rfl⟩) ?_
                  refine Run.ret ⟨.inr rfl, ?_⟩
                  exact hS.imp fun h' hq => ⟨(false), rfl, hq⟩
                · have hS := hS.2
                  refine OpH.no rfl rfl rfl ⟨fun _ => trivial, ?_⟩
                  refine ⟨?_, trivial⟩
                  refine OpH.no rfl rfl rfl ⟨fun _ => trivial, ?_⟩
                  refine RunT.skip rfl rfl rfl ?_
                  refine RunT.skip rfl rfl rfl ?_
                  refine RunT.quiet rfl rfl rfl (fun h' hC => sem_pick false ((Value.bool false)) rfl rfl ⟨rfl, rfl⟩) ?_
                  refine RunT.quiet rfl rfl rfl (fun h' hC => sem_assign ((Value.bool false)) rfl ⟨rfl, rfl⟩) ?_
                  refine Run.ret ⟨.inr rfl, ?_⟩
                  exact hS.imp fun h' hq => ⟨(false), rfl, hq⟩
              · have hS := hS.2.1
                refine OpH.no rfl rfl rfl ⟨fun _ => trivial, ?_⟩
                refine ⟨?_, ?_, trivial⟩
                · have hS := hS.1
                  refine OpH.no rfl rfl rfl ⟨fun _ => trivial, ?_⟩
                  refine ⟨?_, trivial⟩
                  refine OpH.no rfl rfl rfl ⟨fun _ => trivial, ?_⟩
                  refine RunT.skip rfl rfl rfl ?_
                  refine RunT.skip rfl rfl rfl ?_
                  refine RunT.quiet rfl rfl rfl (fun h' hC => sem_pick false ((Value.bool false)) rfl rfl ⟨rfl, rfl⟩) ?_
                  refine RunT.quiet rfl rfl rfl (fun h' hC => sem_assign ((Value.bool false)) rfl ⟨rfl, rfl⟩) ?_
                  refine Run.ret ⟨.inr rfl, ?_⟩
                  exact hS.imp fun h' hq => ⟨(false), rfl, hq⟩
                · have hS := hS.2
                  refine OpH.no rfl rfl rfl ⟨fun _ => trivial, ?_⟩
                  refine RunT.skip rfl rfl rfl ?_
                  refine ⟨?_, trivial⟩
                  refine OpH.no rfl rfl rfl ⟨fun _ => trivial, ?_⟩
                  refine RunT.skip rfl rfl rfl ?_
                  refine RunT.quiet rfl rfl rfl (fun h' hC => sem_pick false ((Value.bool false)) rfl rfl ⟨rfl, rfl⟩) ?_
                  refine RunT.quiet rfl rfl rfl (fun h' hC => sem_assign ((Value.bool false)) rfl ⟨rfl, rfl⟩) ?_
                  refine Run.ret ⟨.inr rfl, ?_⟩
                  exact hS.imp fun h' hq => ⟨(false), rfl, hq⟩
              · have hS := hS.2.2
                refine OpH.no rfl rfl rfl ⟨fun _ => trivial, ?_⟩
                refine ⟨?_, ?_, trivial⟩
                · have hS := hS.1
                  refine OpH.no rfl rfl rfl ⟨fun _ => trivial, ?_⟩
                  refine ⟨?_, trivial⟩
                  refine OpH.no rfl rfl rfl ⟨fun _ => trivial, ?_⟩
                  refine RunT.skip rfl rfl rfl ?_
                  refine RunT.skip rfl rfl rfl ?_
                  refine RunT.quiet rfl rfl rfl (fun h' hC => sem_pick false ((Value.bool false)) rfl rfl ⟨rfl, rfl⟩) ?_
                  refine RunT.quiet rfl rfl rfl (fun h' hC => sem_assign ((Value.bool false)) rfl ⟨rfl, rfl⟩) ?_
                  refine Run.ret ⟨.inr rfl, ?_⟩
                  exact hS.imp fun h' hq => ⟨(false), rfl, hq⟩
                · have hS := hS.2
                  refine OpH.no rfl rfl rfl ⟨fun _ => trivial, ?_⟩
                  refine RunT.skip rfl rfl rfl ?_
                  refine ⟨?_, trivial⟩
                  refine OpH.no rfl rfl rfl ⟨fun _ => trivial, ?_⟩
                  refine RunT.skip rfl rfl rfl ?_
                  refine RunT.quiet rfl rfl rfl (fun h' hC => sem_pick false ((Value.bool false)) rfl rfl ⟨rfl, rfl⟩) ?_
                  refine RunT.quiet rfl rfl rfl (fun h' hC => sem_assign ((Value.bool false)) rfl ⟨rfl, rfl⟩) ?_
                  refine Run.ret ⟨.inr rfl, ?_⟩
                  exact hS.imp fun h' hq => ⟨(false), rfl, hq⟩
            · have hS := hT rfl; clear hT hF
              refine ⟨fun _ => trivial, ?_⟩
              refine RunT.quiet rfl rfl rfl (fun h' hC => sem_pick true ((Value.bool true)) rfl rfl ⟨rfl, rfl⟩) ?_
              refine RunT.quiet rfl rfl rfl (fun h' hC => sem_move ((Value.bool true)) rfl ⟨rfl, rfl⟩) ?_
              refine RunT.quiet rfl rfl rfl (fun h' hC => sem_move ((Value.pointer p13)) rfl ⟨rfl, rfl⟩) ?_
              refine RunT.quiet rfl rfl rfl (fun h' hC => sem_move ((Value.pointer p15)) rfl ⟨rfl, rfl⟩) ?_
              refine RunT.quiet rfl rfl rfl (fun h' hC => sem_move ((Value.pointer (some ⟨k16, 0, none⟩))) rfl ⟨rfl, rfl⟩) ?_
              refine RunT.quiet rfl rfl rfl (fun h' hC => sem_nilCheck ⟨k16, 0, none⟩ rfl ⟨rfl, rfl⟩) ?_
              refine RunT.quiet rfl rfl rfl (fun h' hC => sem_fieldAddr ⟨k16, 0, none⟩ 0 rfl TF.fld_67_0 ⟨rfl, rfl⟩) ?_
              refine RunT.quiet rfl rfl rfl (fun h' hC => sem_move ((Value.pointer (some ⟨k18, 0, none⟩))) rfl ⟨rfl, rfl⟩) ?_
              refine RunT.quiet rfl rfl rfl (fun h' hC => sem_nilCheck ⟨k18, 0, none⟩ rfl ⟨rfl, rfl⟩) ?_
              refine RunT.quiet rfl rfl rfl (fun h' hC => sem_fieldAddr ⟨k18, 0, none⟩ 0 rfl TF.fld_67_0 ⟨rfl, rfl⟩) ?_
              refine ⟨?_, ?_, ?_, trivial⟩
              · have hS := hS.1
                refine OpH.go rfl rfl rfl (sem_callL [(Value.pointer p13), (Value.pointer p15)] (TF.goes_35) rfl rfl (Spec.mono hS fun v h37 hv => ?_))
                obtain ⟨b38, rfl, hS⟩ := hv
                refine ⟨fun _ => trivial, ?_⟩
                refine ⟨?_, ?_, trivial⟩
                · have hS := hS.1
                  obtain ⟨l39, hln, hl, hS⟩ := hS
                  refine OpH.go rfl rfl rfl (sem_loadN ⟨k16, 0, none⟩ l39 rfl TF.agg_64 (TF.sz_64.trans (congrArg some hln.symm)) hl ?_)
                  refine ⟨fun _ => trivial, ?_⟩
                  refine ⟨?_, trivial⟩
                  obtain ⟨l40, hln, hl, hS⟩ := hS
                  refine OpH.go rfl rfl rfl (sem_loadN ⟨k18, 0, none⟩ l40 rfl TF.agg_64 (TF.sz_64.trans (congrArg some hln.symm)) hl ?_)
                  refine ⟨fun _ => trivial, ?_⟩
                  obtain ⟨hi0, hi1, hS⟩ := hS
                  refine RunT.quiet rfl rfl rfl (fun h' hC => sem_aggEq l39 l40 _ ((decide (eqL l39 l40 = true))) (.inl rfl) rfl rfl TF.agg_64 TF.flat_64 TF.eqg_64 hi0 hi1 eqLV_eql ⟨rfl, rfl⟩) ?_
                  refine RunT.quiet rfl rfl rfl (fun h' hC => sem_boolEqV b38 (decide (eqL l39 l40 = true)) (.inl rfl) ((decide (b38 = (decide (eqL l39 l40 = true))))) rfl rfl TF.bool_4 (boolEqV_eql _ _) ⟨rfl, rfl⟩) ?_
                  refine RunT.quiet rfl rfl rfl (fun h' hC => sem_pick true ((Value.bool (decide (b38 = (decide (eqL l39 l40 = true)))))) rfl rfl ⟨rfl, rfl⟩) ?_
                  refine RunT.quiet rfl rfl rfl (fun h' hC => sem_assign ((Value.bool (decide (b38 = (decide (eqL l39 l40 = true)))))) rfl ⟨rfl, rfl⟩) ?_
                  refine Run.ret ⟨.inr rfl, ?_⟩
                  exact hS.imp fun h' hq => ⟨((decide (b38 = (decide (eqL l39 l40 = true))))), rfl, hq⟩
                · have hS := hS.2
                  obtain ⟨l41, hln, hl, hS⟩ := hS
                  refine OpH.go rfl rfl rfl (sem_loadN ⟨k18, 0, none⟩ l41 rfl TF.agg_64 (TF.sz_64.trans (congrArg some hln.symm)) hl ?_)
                  refine ⟨fun _ => trivial, ?_⟩
                  refine ⟨?_, trivial⟩
                  obtain ⟨l42, hln, hl, hS⟩ := hS
                  refine OpH.go rfl rfl rfl (sem_loadN ⟨k16, 0, none⟩ l42 rfl TF.agg_64 (TF.sz_64.trans (congrArg some hln.symm)) hl ?_)
                  refine ⟨fun _ => trivial, ?_⟩
                  obtain ⟨hi0, hi1, hS⟩ := hS
                  refine RunT.quiet rfl rfl rfl (fun h' hC => sem_aggEq l42 l41 _ ((decide (eqL l42 l41 = true))) (.inl rfl) rfl rfl TF.agg_64 TF.flat_64 TF.eqg_64 hi0 hi1 eqLV_eql ⟨rfl, rfl⟩) ?_
                  refine RunT.quiet rfl rfl rfl (fun h' hC => sem_boolEqV b38 (decide (eqL l42 l41 = true)) (.inl rfl) ((decide (b38 = (decide (eqL l42 l41 = true))))) rfl rfl TF.bool_4 (boolEqV_eql _ _) ⟨rfl, rfl⟩) ?_
                  refine RunT.quiet rfl rfl rfl (fun h' hC => sem_pick true ((Value.bool (decide (b38 = (decide (eqL l42 l41 = true)))))) rfl rfl ⟨rfl, rfl⟩) ?_
                  refine RunT.quiet rfl rfl rfl (fun h' hC => sem_assign ((Value.bool (decide (b38 = (decide (eqL l42 l41 = true)))))) rfl ⟨rfl, rfl⟩) ?_
                  refine Run.ret ⟨.inr rfl, ?_⟩
                  exact hS.imp fun h' hq => ⟨((decide (b38 = (decide (eqL l42 l41 = true))))), rfl, hq⟩
              · have hS := hS.2.1
                obtain ⟨l43, hln, hl, hS⟩ := hS
                refine OpH.go rfl rfl rfl (sem_loadN ⟨k16, 0, none⟩ l43 rfl TF.agg_64 (TF.sz_64.trans (congrArg some hln.symm)) hl ?_)
                refine ⟨fun _ => trivial, ?_⟩
                refine ⟨?_, ?_, trivial⟩
                · have hS := hS.1
                  refine OpH.go rfl rfl rfl (sem_callL [(Value.pointer p13), (Value.pointer p15)] (TF.goes_35) rfl rfl (Spec.mono hS fun v h44 hv => ?_))
                  obtain ⟨b45, rfl, hS⟩ := hv
                  refine ⟨fun _ => trivial, ?_⟩
                  refine ⟨?_, trivial⟩
                  obtain ⟨l46, hln, hl, hS⟩ := hS
                  refine OpH.go rfl rfl rfl (sem_loadN ⟨k18, 0, none⟩ l46 rfl TF.agg_64 (TF.sz_64.trans (congrArg some hln.symm)) hl ?_)
                  refine ⟨fun _ => trivial, ?_⟩
                  obtain ⟨hi0, hi1, hS⟩ := hS
                  refine RunT.quiet rfl rfl rfl (fun h' hC => sem_aggEq l43 l46 _ ((decide (eqL l43 l46 = true))) (.inl rfl) rfl rfl TF.agg_64 TF.flat_64 TF.eqg_64 hi0 hi1 eqLV_eql ⟨rfl, rfl⟩) ?_
                  refine RunT.quiet rfl rfl rfl (fun h' hC => sem_boolEqV b45 (decide (eqL l43 l46 = true)) (.inl rfl) ((decide (b45 = (decide (eqL l43 l46 = true))))) rfl rfl TF.bool_4 (boolEqV_eql _ _) ⟨rfl, rfl⟩) ?_
                  refine RunT.quiet rfl rfl rfl (fun h' hC => sem_pick true ((Value.bool (decide (b45 = (decide (eqL l43 l46 = true)))))) rfl rfl ⟨rfl, rfl⟩) ?_
                  refine RunT.quiet rfl rfl rfl (fun h' hC => sem_assign ((Value.bool (decide (b45 = (decide (eqL l43 l46 = true)))))) rfl ⟨rfl, rfl⟩) ?_
                  refine Run.ret ⟨.inr rfl, ?_⟩
                  exact hS.imp fun h' hq => ⟨((decide (b45 = (decide (eqL l43 l46 = true))))), rfl, hq⟩
                · have hS := hS.2
                  obtain ⟨l47, hln, hl, hS⟩ := hS
                  refine OpH.go rfl rfl rfl (sem_loadN ⟨k18, 0, none⟩ l47 rfl TF.agg_64 (TF.sz_64.trans (congrArg some hln.symm)) hl ?_)
                  refine ⟨fun _ => trivial, ?_⟩
                  obtain ⟨hi0, hi1, hS⟩ := hS
                  refine RunT.quiet rfl rfl rfl (fun h' hC => sem_aggEq l43 l47 _ ((decide (eqL l43 l47 = true))) (.inl rfl) rfl rfl TF.agg_64 TF.flat_64 TF.eqg_64 hi0 hi1 eqLV_eql ⟨rfl, rfl⟩) ?_
                  refine ⟨?_, trivial⟩
                  refine OpH.go rfl rfl rfl (sem_callL [(Value.pointer p13), (Value.pointer p15)] (TF.goes_35) rfl rfl (Spec.mono hS fun v h48 hv => ?_))
                  obtain ⟨b49, rfl, hS⟩ := hv
                  refine ⟨fun _ => trivial, ?_⟩
                  refine RunT.quiet rfl rfl rfl (fun h' hC => sem_boolEqV b49 (decide (eqL l43 l47 = true)) (.inl rfl) ((decide (b49 = (decide (eqL l43 l47 = true))))) rfl rfl TF.bool_4 (boolEqV_eql _ _) ⟨rfl, rfl⟩) ?_
                  refine RunT.quiet rfl rfl rfl (fun h' hC => sem_pick true ((Value.bool (decide (b49 = (decide (eqL l43 l47 = true)))))) rfl rfl ⟨rfl, rfl⟩) ?_
                  refine RunT.quiet rfl rfl rfl (fun h' hC => sem_assign ((Value.bool (decide (b49 = (decide (eqL l43 l47 = true)))))) rfl ⟨rfl, rfl⟩) ?_
                  refine Run.ret ⟨.inr rfl, ?_⟩
                  exact hS.imp fun h' hq => ⟨((decide (b49 = (decide (eqL l43 l47 = true))))), rfl, hq⟩
              · have hS := hS.2.2
                obtain ⟨l50, hln, hl, hS⟩ := hS
                refine OpH.go rfl rfl rfl (sem_loadN ⟨k18, 0, none⟩ l50 rfl TF.agg_64 (TF.sz_64.trans (congrArg some hln.symm)) hl ?_)
                refine ⟨fun _ => trivial, ?_⟩
                refine ⟨?_, ?_, trivial⟩
                · have hS := hS.1
                  refine OpH.go rfl rfl rfl (sem_callL [(Value.pointer p13), (Value.pointer p15)] (TF.goes_35) rfl rfl (Spec.mono hS fun v h51 hv => ?_))
                  obtain ⟨b52, rfl, hS⟩ := hv
                  refine ⟨fun _ => trivial, ?_⟩
                  refine ⟨?_, trivial⟩
                  obtain ⟨l53, hln, hl, hS⟩ := hS
                  refine OpH.go rfl rfl rfl (sem_loadN ⟨k16, 0, none⟩ l53 rfl TF.agg_64 (TF.sz_64.trans (congrArg some hln.symm)) hl ?_)
                  refine ⟨fun _ => trivial, ?_⟩
                  obtain ⟨hi0, hi1, hS⟩ := hS
                  refine RunT.quiet rfl rfl rfl (fun h' hC => sem_aggEq l53 l50 _ ((decide (eqL l53 l50 = true))) (.inl rfl) rfl rfl TF.agg_64 TF.flat_64 TF.eqg_64 hi0 hi1 eqLV_eql ⟨rfl, rfl⟩) ?_
                  refine RunT.quiet rfl rfl rfl (fun h' hC => sem_boolEqV b52 (decide (eqL l53 l50 = true)) (.inl rfl) ((decide (b52 = (decide (eqL l53 l50 = true))))) rfl rfl TF.bool_4 (boolEqV_eql _ _) ⟨rfl, rfl⟩) ?_
                  refine RunT.quiet rfl rfl rfl (fun h' hC => sem_pick true ((Value.bool (decide (b52 = (decide (eqL l53 l50 = true)))))) rfl rfl ⟨rfl, rfl⟩) ?_
                  refine RunT.quiet rfl rfl rfl (fun h' hC => sem_assign ((Value.bool (decide (b52 = (decide (eqL l53 l50 = true)))))) rfl ⟨rfl, rfl⟩) ?_
                  refine Run.ret ⟨.inr rfl, ?_⟩
                  exact hS.imp fun h' hq => ⟨((decide (b52 = (decide (eqL l53 l50 = true))))), rfl, hq⟩
                · have hS := hS.2
                  obtain ⟨l54, hln, hl, hS⟩ := hS
                  refine OpH.go rfl rfl rfl (sem_loadN ⟨k16, 0, none⟩ l54 rfl TF.agg_64 (TF.sz_64.trans (congrArg some hln.symm)) hl ?_)
                  refine ⟨fun _ => trivial, ?_⟩
                  obtain ⟨hi0, hi1, hS⟩ := hS
                  refine RunT.quiet rfl rfl rfl (fun h' hC => sem_aggEq l54 l50 _ ((decide (eqL l54 l50 = true))) (.inl rfl) rfl rfl TF.agg_64 TF.flat_64 TF.eqg_64 hi0 hi1 eqLV_eql ⟨rfl, rfl⟩) ?_
                  refine ⟨?_, trivial⟩
                  refine OpH.go rfl rfl rfl (sem_callL [(Value.pointer p13), (Value.pointer p15)] (TF.goes_35) rfl rfl (Spec.mono hS fun v h55 hv => ?_))
                  obtain ⟨b56, rfl, hS⟩ := hv
                  refine ⟨fun _ => trivial, ?_⟩
                  refine RunT.quiet rfl rfl rfl (fun h' hC => sem_boolEqV b56 (decide (eqL l54 l50 = true)) (.inl rfl) ((decide (b56 = (decide (eqL l54 l50 = true))))) rfl rfl TF.bool_4 (boolEqV_eql _ _) ⟨rfl, rfl⟩) ?_
                  refine RunT.quiet rfl rfl rfl (fun h' hC => sem_pick true ((Value.bool (decide (b56 = (decide (eqL l54 l50 = true)))))) rfl rfl ⟨rfl, rfl⟩) ?_
                  refine RunT.quiet rfl rfl rfl (fun h' hC => sem_assign ((Value.bool (decide (b56 = (decide (eqL l54 l50 = true)))))) rfl ⟨rfl, rfl⟩) ?_
                  refine Run.ret ⟨.inr rfl, ?_⟩
                  exact hS.imp fun h' hq => ⟨((decide (b56 = (decide (eqL l54 l50 = true))))), rfl, hq⟩
        refine Run.seq ?_
        refine Run.ops0 (idx := [0, 1, 2]) rfl ?_
        refine Run.go rfl rfl rfl (sem_move ((Value.slice a4 n5 c6)) rfl ?_)
        refine Run.go rfl rfl rfl (sem_lenSl a4 n5 c6 rfl TF.sl_51 ?_)
        refine Run.go rfl rfl rfl (sem_move ((Value.int .i64 (0))) rfl ?_)
        refine Run.region_end ?_
        refine Run.block ?_
        obtain ⟨J62, m60, h0, hS⟩ := hS
        refine Run.of_fin (h0.imp fun h' h0 => ?_)
        refine Run.loop (σ := Int × Nat) (fun x e h => J62 x.1 x.2 h ∧ Agree [(5, (Value.pointer p13)), (6, (Value.pointer p15)), (7, (Value.pointer (some ⟨k16, 0, none⟩))), (8, (Value.pointer (some ⟨k18, 0, none⟩))), (50, (Value.slice a4 n5 c6)), (51, (Value.int .i64 ((n5 : Nat)))), (52, (Value.int .i64 (x.1)))] e) (fun x => x.2) ((0), m60) ⟨h0, ⟨rfl, rfl, rfl, rfl, rfl, rfl, rfl, trivial⟩⟩ ?_; clear h0
        rintro ⟨i57, m59⟩ e h58 ⟨hJ, hag⟩ ih61
        have hS := hS i57 m59 h58 hJ; clear hJ
        refine Run.env hag ?_; clear hag
        refine Run.seq ?_
        refine Run.ops0 (idx := [0]) rfl ?_
        obtain ⟨hT, hF⟩ := hS
        by_cases hb63 : (i57 : Int) < ((n5 : Nat))
        · have hS := hT hb63; clear hT hF
          refine Run.go rfl rfl rfl (sem_binI .i64 (i57) ((n5 : Nat)) (.bool true) rfl rfl (binI_lss_t hb63) ?_)
          refine Run.region_end ?_
          refine Run.seq ?_
          refine Run.condT rfl ?_
          refine Run.skip ?_
          refine Run.seq ?_
          refine Run.block ?_
          refine Run.seq ?_
          refine Run.ops0 (idx := [0, 1, 2, 3]) rfl ?_
          obtain ⟨A64, e65, hi0, hi1, hS⟩ := hS
          refine Run.go rfl rfl rfl (sem_indexAddrS A64 n5 c6 .i64 (i57) (congrArg (fun a => Value.slice a n5 c6) e65) rfl TF.slc_51 hi0 hi1 ?_)
          obtain ⟨i66, b67, s68, i69, hl, hS⟩ := hS
          refine Run.go rfl rfl rfl (sem_loadN (Addr.add A64 (Int.toNat (i57) * 4)) [(Value.int .i64 (i66)), (Value.bool b67), (Value.string s68), (Value.int .i64 (i69))] rfl TF.agg_56 TF.sz_56 hl ?_)
          refine Run.go rfl rfl rfl (sem_allocN [(Value.int .i64 (0)), (Value.bool false), (Value.string ByteArray.empty), (Value.int .i64 (0))] TF.zero_56 (fun k70 hb1 hb2 h71 hb3 => ?_))
          have hS := hS k70 hb1 hb2 h71 hb3
          obtain ⟨h72, hst, hS⟩ := hS
          refine Run.go rfl rfl rfl (sem_storeN ⟨k70, 0, none⟩ [(Value.int .i64 (i66)), (Value.bool b67), (Value.string s68), (Value.int .i64 (i69))] h72 rfl rfl TF.sz_56 hst ?_)
          refine Run.region_end ?_
          refine Run.seq ?_
          refine Run.ops0 (idx := [0, 1, 2, 3, 4, 5]) rfl ?_
          refine Run.go rfl rfl rfl (sem_move ((Value.pointer p15)) rfl ?_)
          refine Run.go rfl rfl rfl (sem_fieldAddr ⟨k70, 0, none⟩ 0 rfl TF.fld_56_0 ?_)
          obtain ⟨i73, hl, hS⟩ := hS
          refine Run.go rfl rfl rfl (sem_load1 ⟨k70, 0, none⟩ ((Value.int .i64 (i73))) rfl TF.agg_3 hl ?_)
          refine Run.go rfl rfl rfl (sem_fieldAddr ⟨k70, 0, none⟩ 1 rfl TF.fld_56_1 ?_)
          obtain ⟨b74, s75, hl, hS⟩ := hS
          refine Run.go rfl rfl rfl (sem_loadN ⟨k70, 1, none⟩ [(Value.bool b74), (Value.string s75)] rfl TF.agg_54 TF.sz_54 hl ?_)
          refine Run.go rfl rfl rfl (sem_callL [(Value.pointer p15), (Value.int .i64 (i73)), (Value.agg #[(Value.bool b74), (Value.string s75)]), (Value.int .i64 (1))] (TF.goes_34) rfl rfl (Spec.mono hS fun v h76 hv => ?_))
          obtain ⟨b77, rfl, hS⟩ := hv
          refine Run.region_end ?_
          refine Run.ops0 (idx := [0, 1, 2, 3, 4, 5]) rfl ?_
          refine Run.go rfl rfl rfl (sem_move ((Value.pointer (some ⟨k18, 0, none⟩))) rfl ?_)
          refine Run.go rfl rfl rfl (sem_fieldAddr ⟨k70, 0, none⟩ 0 rfl TF.fld_56_0 ?_)
          obtain ⟨i78, hl, hS⟩ := hS
          refine Run.go rfl rfl rfl (sem_load1 ⟨k70, 0, none⟩ ((Value.int .i64 (i78))) rfl TF.agg_3 hl ?_)
          refine Run.go rfl rfl rfl (sem_fieldAddr ⟨k70, 0, none⟩ 1 rfl TF.fld_56_1 ?_)
          obtain ⟨b79, s80, hl, hS⟩ := hS
          refine Run.go rfl rfl rfl (sem_loadN ⟨k70, 1, none⟩ [(Value.bool b79), (Value.string s80)] rfl TF.agg_54 TF.sz_54 hl ?_)
          refine Run.go rfl rfl rfl (sem_callL [(Value.pointer (some ⟨k18, 0, none⟩)), (Value.int .i64 (i78)), (Value.agg #[(Value.bool b79), (Value.string s80)]), (Value.int .i64 (0))] (TF.goes_37) rfl rfl (Spec.mono hS fun v h81 hv => ?_))
          obtain ⟨b82, rfl, hS⟩ := hv
          refine Run.region_end ?_
          refine Run.inBlock ?_
          refine Run.ops0 (idx := [0, 1]) rfl ?_
          refine Run.go rfl rfl rfl (sem_binI .i64 (i57) (1) ((Value.int .i64 (IntKind.wrap .i64 ((i57) + (1))))) rfl rfl rfl ?_)
          refine Run.go rfl rfl rfl (sem_move ((Value.int .i64 (IntKind.wrap .i64 ((i57) + (1))))) rfl ?_)
          refine Run.region_end ?_
          exact Run.of_fin (hS.imp fun h' ⟨m', hm, hS⟩ => ih61 ((IntKind.wrap .i64 ((i57) + (1))), m') _ _ ⟨hS, ⟨rfl, rfl, rfl, rfl, rfl, rfl, rfl, trivial⟩⟩ hm)
        · have hS := hF hb63; clear hT hF
          refine Run.go rfl rfl rfl (sem_binI .i64 (i57) ((n5 : Nat)) (.bool false) rfl rfl (binI_lss_f hb63) ?_)
          refine Run.region_end ?_
          refine Run.seq ?_
          refine Run.condF rfl ?_
          refine Run.exit rfl ?_
          exact Run.of_fin (hS.imp fun h' hS => j22 _ _ ⟨⟨rfl, rfl, rfl, rfl, trivial⟩, hS⟩)
      refine Run.seq ?_
      refine Run.ops0 (idx := [0, 1, 2]) rfl ?_
      refine Run.go rfl rfl rfl (sem_move ((Value.slice a1 n2 c3)) rfl ?_)
      refine Run.go rfl rfl rfl (sem_lenSl a1 n2 c3 rfl TF.sl_51 ?_)
      refine Run.go rfl rfl rfl (sem_move ((Value.int .i64 (0))) rfl ?_)
      refine Run.region_end ?_
      refine Run.block ?_
      obtain ⟨J88, m86, h0, hS⟩ := hS
      refine Run.of_fin (h0.imp fun h' h0 => ?_)
      refine Run.loop (σ := Int × Nat) (fun x e h => J88 x.1 x.2 h ∧ Agree [(1, (Value.slice a4 n5 c6)), (5, (Value.pointer p13)), (6, (Value.pointer p15)), (7, (Value.pointer (some ⟨k16, 0, none⟩))), (8, (Value.pointer (some ⟨k18, 0, none⟩))), (29, (Value.slice a1 n2 c3)), (30, (Value.int .i64 ((n2 : Nat)))), (31, (Value.int .i64 (x.1)))] e) (fun x => x.2) ((0), m86) ⟨h0, ⟨rfl, rfl, rfl, rfl, rfl, rfl, rfl, rfl, trivial⟩⟩ ?_; clear h0
      rintro ⟨i83, m85⟩ e h84 ⟨hJ, hag⟩ ih87
      have hS := hS i83 m85 h84 hJ; clear hJ
      refine Run.env hag ?_; clear hag
      refine Run.seq ?_
      refine Run.ops0 (idx := [0]) rfl ?_
      obtain ⟨hT, hF⟩ := hS
      by_cases hb89 : (i83 : Int) < ((n2 : Nat))
      · have hS := hT hb89; clear hT hF
        refine Run.go rfl rfl rfl (sem_binI .i64 (i83) ((n2 : Nat)) (.bool true) rfl rfl (binI_lss_t hb89) ?_)
        refine Run.region_end ?_
        refine Run.seq ?_
        refine Run.condT rfl ?_
        refine Run.skip ?_
        refine Run.seq ?_
        refine Run.block ?_
        refine Run.seq ?_
        refine Run.ops0 (idx := [0, 1, 2, 3]) rfl ?_
        obtain ⟨A90, e91, hi0, hi1, hS⟩ := hS
        refine Run.go rfl rfl rfl (sem_indexAddrS A90 n2 c3 .i64 (i83) (congrArg (fun a => Value.slice a n2 c3) e91) rfl TF.slc_51 hi0 hi1 ?_)
        obtain ⟨i92, b93, s94, i95, hl, hS⟩ := hS
        refine Run.go rfl rfl rfl (sem_loadN (Addr.add A90 (Int.toNat (i83) * 4)) [(Value.int .i64 (i92)), (Value.bool b93), (Value.string s94), (Value.int .i64 (i95))] rfl TF.agg_56 TF.sz_56 hl ?_)
        refine Run.go rfl rfl rfl (sem_allocN [(Value.int .i64 (0)), (Value.bool false), (Value.string ByteArray.empty), (Value.int .i64 (0))] TF.zero_56 (fun k96 hb1 hb2 h97 hb3 => ?_))
        have hS := hS k96 hb1 hb2 h97 hb3
        obtain ⟨h98, hst, hS⟩ := hS
        refine Run.go rfl rfl rfl (sem_storeN ⟨k96, 0, none⟩ [(Value.int .i64 (i92)), (Value.bool b93), (Value.string s94), (Value.int .i64 (i95))] h98 rfl rfl TF.sz_56 hst ?_)
        refine Run.region_end ?_
        refine Run.seq ?_
        refine Run.ops0 (idx := [0, 1, 2, 3, 4, 5, 6, 7]) rfl ?_
        refine Run.go rfl rfl rfl (sem_move ((Value.pointer p13)) rfl ?_)
        refine Run.go rfl rfl rfl (sem_fieldAddr ⟨k96, 0, none⟩ 0 rfl TF.fld_56_0 ?_)
        obtain ⟨i99, hl, hS⟩ := hS
        refine Run.go rfl rfl rfl (sem_load1 ⟨k96, 0, none⟩ ((Value.int .i64 (i99))) rfl TF.agg_3 hl ?_)
        refine Run.go rfl rfl rfl (sem_fieldAddr ⟨k96, 0, none⟩ 1 rfl TF.fld_56_1 ?_)
        obtain ⟨b100, s101, hl, hS⟩ := hS
        refine Run.go rfl rfl rfl (sem_loadN ⟨k96, 1, none⟩ [(Value.bool b100), (Value.string s101)] rfl TF.agg_54 TF.sz_54 hl ?_)
        refine Run.go rfl rfl rfl (sem_fieldAddr ⟨k96, 0, none⟩ 3 rfl TF.fld_56_2 ?_)
        obtain ⟨i102, hl, hS⟩ := hS
        refine Run.go rfl rfl rfl (sem_load1 ⟨k96, 3, none⟩ ((Value.int .i64 (i102))) rfl TF.agg_3 hl ?_)
        refine Run.go rfl rfl rfl (sem_callL [(Value.pointer p13), (Value.int .i64 (i99)), (Value.agg #[(Value.bool b100), (Value.string s101)]), (Value.int .i64 (i102))] (TF.goes_34) rfl rfl (Spec.mono hS fun v h103 hv => ?_))
        obtain ⟨b104, rfl, hS⟩ := hv
        refine Run.region_end ?_
        refine Run.ops0 (idx := [0, 1, 2, 3, 4, 5]) rfl ?_
        refine Run.go rfl rfl rfl (sem_move ((Value.pointer (some ⟨k16, 0, none⟩))) rfl ?_)
        refine Run.go rfl rfl rfl (sem_fieldAddr ⟨k96, 0, none⟩ 0 rfl TF.fld_56_0 ?_)
        obtain ⟨i105, hl, hS⟩ := hS
        refine Run.go rfl rfl rfl (sem_load1 ⟨k96, 0, none⟩ ((Value.int .i64 (i105))) rfl TF.agg_3 hl ?_)
        refine Run.go rfl rfl rfl (sem_fieldAddr ⟨k96, 0, none⟩ 1 rfl TF.fld_56_1 ?_)
        obtain ⟨b106, s107, hl, hS⟩ := hS
        refine Run.go rfl rfl rfl (sem_loadN ⟨k96, 1, none⟩ [(Value.bool b106), (Value.string s107)] rfl TF.agg_54 TF.sz_54 hl ?_)
        refine Run.go rfl rfl rfl (sem_callL [(Value.pointer (some ⟨k16, 0, none⟩)), (Value.int .i64 (i105)), (Value.agg #[(Value.bool b106), (Value.string s107)]), (Value.int .i64 (0))] (TF.goes_37) rfl rfl (Spec.mono hS fun v h108 hv => ?_))
        obtain ⟨b109, rfl, hS⟩ := hv
        refine Run.region_end ?_
        refine Run.inBlock ?_
        refine Run.ops0 (idx := [0, 1]) rfl ?_
        refine Run.go rfl rfl rfl (sem_binI .i64 (i83) (1) ((Value.int .i64 (IntKind.wrap .i64 ((i83) + (1))))) rfl rfl rfl ?_)
        refine Run.go rfl rfl rfl (sem_move ((Value.int .i64 (IntKind.wrap .i64 ((i83) + (1))))) rfl ?_)
        refine Run.region_end ?_
        exact Run.of_fin (hS.imp fun h' ⟨m', hm, hS⟩ => ih87 ((IntKind.wrap .i64 ((i83) + (1))), m') _ _ ⟨hS, ⟨rfl, rfl, rfl, rfl, rfl, rfl, rfl, rfl, trivial⟩⟩ hm)
      · have hS := hF hb89; clear hT hF
        refine Run.go rfl rfl rfl (sem_binI .i64 (i83) ((n2 : Nat)) (.bool false) rfl rfl (binI_lss_f hb89) ?_)
        refine Run.region_end ?_
        refine Run.seq ?_
        refine Run.condF rfl ?_
        refine Run.exit rfl ?_
        exact Run.of_fin (hS.imp fun h' hS => j20 _ _ ⟨⟨rfl, rfl, rfl, rfl, rfl, trivial⟩, hS⟩)
    refine Run.seq ?_
    refine Run.ops0 (idx := [0, 1, 2, 3, 4, 5]) rfl ?_
    refine Run.go rfl rfl rfl (sem_move ((Value.slice a1 n2 c3)) rfl ?_)
    refine Run.go rfl rfl rfl (sem_callL [(Value.slice a1 n2 c3)] (TF.goes_32) rfl rfl (Spec.mono hS fun v h110 hv => ?_))
    obtain ⟨b111, rfl, hS⟩ := hv
    obtain ⟨hT, hF⟩ := hS
    cases b111
    · have hS := hF rfl; clear hT hF
      refine Run.go rfl rfl rfl (sem_move ((Value.bool false)) rfl ?_)
      refine Run.go rfl rfl rfl (sem_move ((Value.slice a4 n5 c6)) rfl ?_)
      refine Run.go rfl rfl rfl (sem_callL [(Value.slice a4 n5 c6)] (TF.goes_32) rfl rfl (Spec.mono hS fun v h112 hv => ?_))
      obtain ⟨b113, rfl, hS⟩ := hv
      obtain ⟨hT, hF⟩ := hS
      cases b113
      · have hS := hF rfl; clear hT hF
        refine Run.go rfl rfl rfl (sem_pick false ((Value.bool false)) rfl rfl ?_)
        refine Run.region_end ?_
        refine Run.condF rfl ?_
        refine Run.skip ?_
        exact Run.of_fin (hS.imp fun h' hS => j10 _ _ ⟨⟨rfl, rfl, trivial⟩, hS⟩)
      · have hS := hT rfl; clear hT hF
        refine Run.go rfl rfl rfl (sem_pick false ((Value.bool true)) rfl rfl ?_)
        refine Run.region_end ?_
        refine Run.condT rfl ?_
        refine Run.seq ?_
        refine Run.ops0 (idx := [0]) rfl ?_
        refine Run.go rfl rfl rfl (sem_assign ((Value.bool true)) rfl ?_)
        refine Run.region_end ?_
        refine Run.ret ⟨.inr rfl, ?_⟩
        exact hS.imp fun h' hq => ⟨(true), rfl, hq⟩
    · have hS := hT rfl; clear hT hF
      refine Run.go rfl rfl rfl (sem_move ((Value.bool true)) rfl ?_)
      refine Run.no rfl rfl rfl ?_
      refine Run.no rfl rfl rfl ?_
      refine Run.go rfl rfl rfl (sem_pick true ((Value.bool true)) rfl rfl ?_)
      refine Run.region_end ?_
      refine Run.condT rfl ?_
      refine Run.seq ?_
      refine Run.ops0 (idx := [0]) rfl ?_
      refine Run.go rfl rfl rfl (sem_assign ((Value.bool true)) rfl ?_)
      refine Run.region_end ?_
      refine Run.ret ⟨.inr rfl, ?_⟩
      exact hS.imp fun h' hq => ⟨(true), rfl, hq⟩
set_option maxHeartbeats 4000000 in
theorem C_countermandlaw10_TomeReads.of {B : RO} {s1 : ByteArray} {h : Heap} {Q : Bool → Heap → Prop} (hS : S_countermandlaw10_TomeReads B s1 h Q) : C_countermandlaw10_TomeReads B s1 h Q := by
  unfold S_countermandlaw10_TomeReads at hS
  unfold C_countermandlaw10_TomeReads
  refine Spec.of_run Try.func9 (N := 61) (rs := [ResultVar.tmp 2]) rfl rfl rfl (Nat.le_of_ble_eq_true rfl) ?_
  refine Run.seq ?_
  refine Run.ops0 (idx := [0]) rfl ?_
  refine Run.go rfl rfl rfl (sem_assign ((Value.bool false)) rfl ?_)
  refine Run.region_end ?_
  refine Run.seq ?_
  refine Run.seq ?_
  refine Run.ops0 (idx := [0, 1]) rfl ?_
  refine Run.go rfl rfl rfl (sem_callL [] (TF.goes_31) rfl rfl (Spec.mono hS fun v h3 hv => ?_))
  obtain ⟨b4, rfl, hS⟩ := hv
  obtain ⟨hT, hF⟩ := hS
  cases b4
  · have hS := hF rfl; clear hT hF
    refine Run.go rfl rfl rfl (sem_not false rfl ?_)
    refine Run.region_end ?_
    refine Run.condT rfl ?_
    refine Run.seq ?_
    refine Run.ops0 (idx := [0]) rfl ?_
    refine Run.go rfl rfl rfl (sem_assign ((Value.bool false)) rfl ?_)
    refine Run.region_end ?_
    refine Run.ret ⟨.inr rfl, ?_⟩
    exact hS.imp fun h' hq => ⟨(false), rfl, hq⟩
  · have hS := hT rfl; clear hT hF
    refine Run.go rfl rfl rfl (sem_not true rfl ?_)
    refine Run.region_end ?_
    refine Run.condF rfl ?_
    refine Run.skip ?_
    refine Run.seq ?_
    refine Run.seq ?_
    refine Run.ops0 (idx := [0, 1, 2]) rfl ?_
    refine Run.go rfl rfl rfl (sem_move ((Value.string s1)) rfl ?_)
    refine Run.go rfl rfl rfl (sem_lenStr s1 rfl TF.isStr_9 ?_)
    obtain ⟨hT, hF⟩ := hS
    by_cases hb5 : ((ByteArray.size s1 : Nat) : Int) > (300)
    · have hS := hT hb5; clear hT hF
      refine Run.go rfl rfl rfl (sem_binI .i64 ((ByteArray.size s1 : Nat)) (300) (.bool true) rfl rfl (binI_gtr_t hb5) ?_)
      refine Run.region_end ?_
      refine Run.condT rfl ?_
      refine Run.seq ?_
      refine Run.ops0 (idx := [0]) rfl ?_
      refine Run.go rfl rfl rfl (sem_assign ((Value.bool true)) rfl ?_)
      refine Run.region_end ?_
      refine Run.ret ⟨.inr rfl, ?_⟩
      exact hS.imp fun h' hq => ⟨(true), rfl, hq⟩
    · have hS := hF hb5; clear hT hF
      refine Run.go rfl rfl rfl (sem_binI .i64 ((ByteArray.size s1 : Nat)) (300) (.bool false) rfl rfl (binI_gtr_f hb5) ?_)
      refine Run.region_end ?_
      refine Run.condF rfl ?_
      refine Run.skip ?_
      refine Run.seq ?_
      refine Run.ops0 (idx := [0, 1, 2, 3, 4, 5, 6]) rfl ?_
      refine Run.go rfl rfl rfl (sem_move ((Value.string s1)) rfl ?_)
      refine Run.go rfl rfl rfl (sem_callL [(Value.string s1)] (TF.goes_41) rfl rfl (Spec.mono hS fun v h6 hv => ?_))
      obtain ⟨p7, b8, rfl, hS⟩ := hv
      refine Run.go rfl rfl rfl (sem_move ((Value.tuple #[(Value.pointer p7), (Value.bool b8)])) rfl ?_)
      refine Run.go rfl rfl rfl (sem_extract #[(Value.pointer p7), (Value.bool b8)] ((Value.pointer p7)) rfl rfl ?_)
      obtain ⟨hT, hF⟩ := hS
      cases b8
      · have hS := hF rfl; clear hT hF
        refine Run.go rfl rfl rfl (sem_extract #[(Value.pointer p7), (Value.bool false)] (.bool false) rfl rfl ?_)
        refine Run.go rfl rfl rfl (sem_assign ((Value.pointer p7)) rfl ?_)
        refine Run.go rfl rfl rfl (sem_assign ((Value.bool false)) rfl ?_)
        refine Run.region_end ?_
        refine Run.seq ?_
        refine Run.ops0 (idx := [0, 1, 2, 3, 4, 5, 6, 7]) rfl ?_
        refine Run.go rfl rfl rfl (sem_move ((Value.string s1)) rfl ?_)
        refine Run.go rfl rfl rfl (sem_callL [(Value.string s1)] (TF.goes_42) rfl rfl (Spec.mono hS fun v h9 hv => ?_))
        obtain ⟨l10, b11, rfl, hS⟩ := hv
        refine Run.go rfl rfl rfl (sem_move ((Value.tuple #[(Value.agg (List.toArray l10)), (Value.bool b11)])) rfl ?_)
        refine Run.go rfl rfl rfl (sem_extract #[(Value.agg (List.toArray l10)), (Value.bool b11)] ((Value.agg (List.toArray l10))) rfl rfl ?_)
        obtain ⟨hT, hF⟩ := hS
        cases b11
        · have hS := hF rfl; clear hT hF
          refine Run.go rfl rfl rfl (sem_extract #[(Value.agg (List.toArray l10)), (Value.bool false)] (.bool false) rfl rfl ?_)
          refine Run.go rfl rfl rfl (sem_allocN [(Value.bool false), (Value.string ByteArray.empty), (Value.bool false), (Value.string ByteArray.empty), (Value.bool false), (Value.string ByteArray.empty), (Value.bool false), (Value.string ByteArray.empty), (Value.bool false), (Value.string ByteArray.empty), (Value.bool false), (Value.string ByteArray.empty)] TF.zero_64 (fun k12 hb1 hb2 h13 hb3 => ?_))
          have hS := hS k12 hb1 hb2 h13 hb3
          obtain ⟨hln, h14, hst, hS⟩ := hS
          refine Run.go rfl rfl rfl (sem_storeN ⟨k12, 0, none⟩ l10 h14 rfl rfl (TF.sz_64.trans (congrArg some hln.symm)) hst ?_)
          refine Run.go rfl rfl rfl (sem_assign ((Value.bool false)) rfl ?_)
          refine Run.region_end ?_
          refine Run.seq ?_
          refine Run.seq ?_
          refine Run.ops0 (idx := [0, 1]) rfl ?_
          refine Run.go rfl rfl rfl (sem_move ((Value.bool false)) rfl ?_)
          refine Run.go rfl rfl rfl (sem_not false rfl ?_)
          refine Run.region_end ?_
          refine Run.condT rfl ?_
          refine Run.seq ?_
          refine Run.ops0 (idx := [0, 1, 2, 3, 4, 5, 6]) rfl ?_
          refine Run.go rfl rfl rfl (sem_move ((Value.bool false)) rfl ?_)
          refine Run.go rfl rfl rfl (sem_not false rfl ?_)
          refine Run.go rfl rfl rfl (sem_move ((Value.bool true)) rfl ?_)
          refine Run.go rfl rfl rfl (sem_move ((Value.pointer p7)) rfl ?_)
          refine Run.go rfl rfl rfl (sem_ptrNilV p7 (.inl rfl) ((decide (p7 = none))) rfl rfl TF.ptr_57 (by cases p7 <;> rfl) ?_)
          refine Run.go rfl rfl rfl (sem_pick true ((Value.bool (decide (p7 = none)))) rfl rfl ?_)
          refine Run.go rfl rfl rfl (sem_assign ((Value.bool (decide (p7 = none)))) rfl ?_)
          refine Run.region_end ?_
          refine Run.ret ⟨.inr rfl, ?_⟩
          exact hS.imp fun h' hq => ⟨((decide (p7 = none))), rfl, hq⟩
        · have hS := hT rfl; clear hT hF
          refine Run.go rfl rfl rfl (sem_extract #[(Value.agg (List.toArray l10)), (Value.bool true)] (.bool true) rfl rfl ?_)
          refine Run.go rfl rfl rfl (sem_allocN [(Value.bool false), (Value.string ByteArray.empty), (Value.bool false), (Value.string ByteArray.empty), (Value.bool false), (Value.string ByteArray.empty), (Value.bool false), (Value.string ByteArray.empty), (Value.bool false), (Value.string ByteArray.empty), (Value.bool false), (Value.string ByteArray.empty)] TF.zero_64 (fun k15 hb1 hb2 h16 hb3 => ?_))
          have hS := hS k15 hb1 hb2 h16 hb3
          obtain ⟨hln, h17, hst, hS⟩ := hS
          refine Run.go rfl rfl rfl (sem_storeN ⟨k15, 0, none⟩ l10 h17 rfl rfl (TF.sz_64.trans (congrArg some hln.symm)) hst ?_)
          refine Run.go rfl rfl rfl (sem_assign ((Value.bool true)) rfl ?_)
          refine Run.region_end ?_
          refine Run.seq ?_
          refine Run.seq ?_
          refine Run.ops0 (idx := [0, 1]) rfl ?_
          refine Run.go rfl rfl rfl (sem_move ((Value.bool true)) rfl ?_)
          refine Run.go rfl rfl rfl (sem_not true rfl ?_)
          refine Run.region_end ?_
          refine Run.condF rfl ?_
          refine Run.skip ?_
          refine Run.seqJ (fun e h19 => Agree [(3, (Value.pointer p7)), (5, (Value.pointer (some ⟨k15, 0, none⟩)))] e ∧ S_countermandlaw10_TomeReads_J1 B p7 k15 h19 Q) ?_ fun j18 => ?_
          · rintro e h19 ⟨hag, hS⟩
            refine Run.env hag ?_; clear hag
            refine Run.seq ?_
            refine Run.seq ?_
            refine Run.ops0 (idx := [0, 1]) rfl ?_
            obtain ⟨l20, hln, hl, hS⟩ := hS
            refine Run.go rfl rfl rfl (sem_loadN ⟨k15, 0, none⟩ l20 rfl TF.agg_64 (TF.sz_64.trans (congrArg some hln.symm)) hl ?_)
            refine Run.go rfl rfl rfl (sem_move ((Value.int .i64 (0))) rfl ?_)
            refine Run.region_end ?_
            refine Run.block ?_
            obtain ⟨J26, m24, h0, hS⟩ := hS
            refine Run.of_fin (h0.imp fun h' h0 => ?_)
            refine Run.loop (σ := Int × Nat) (fun x e h => J26 x.1 x.2 h ∧ Agree [(3, (Value.pointer p7)), (42, (Value.agg (List.toArray l20))), (43, (Value.int .i64 (x.1)))] e) (fun x => x.2) ((0), m24) ⟨h0, ⟨rfl, rfl, rfl, trivial⟩⟩ ?_; clear h0
            rintro ⟨i21, m23⟩ e h22 ⟨hJ, hag⟩ ih25
            have hS := hS i21 m23 h22 hJ; clear hJ
            refine Run.env hag ?_; clear hag
            refine Run.seq ?_
            refine Run.ops0 (idx := [0]) rfl ?_
            obtain ⟨hT, hF⟩ := hS
            by_cases hb27 : (i21 : Int) < (6)
            · have hS := hT hb27; clear hT hF
              refine Run.go rfl rfl rfl (sem_binI .i64 (i21) (6) (.bool true) rfl rfl (binI_lss_t hb27) ?_)
              refine Run.region_end ?_
              refine Run.seq ?_
              refine Run.condT rfl ?_
              refine Run.skip ?_
              refine Run.seq ?_
              refine Run.block ?_
              refine Run.seq ?_
              refine Run.ops0 (idx := [0, 1, 2, 3, 4]) rfl ?_
              refine Run.go rfl rfl rfl (sem_move ((Value.int .i64 (i21))) rfl ?_)
              obtain ⟨hi0, hi1, b28, s29, hix, hS⟩ := hS
              refine Run.go rfl rfl rfl (sem_indexArr (List.toArray l20) (Value.agg #[(Value.bool b28), (Value.string s29)]) .i64 (i21) rfl rfl TF.arr_64 hi0 hi1 (congrArg (fun a => some (Value.agg a)) hix) ?_)
              refine Run.go rfl rfl rfl (sem_allocN [(Value.bool false), (Value.string ByteArray.empty)] TF.zero_63 (fun k30 hb1 hb2 h31 hb3 => ?_))
              have hS := hS k30 hb1 hb2 h31 hb3
              refine Run.go rfl rfl rfl (sem_assign ((Value.int .i64 (i21))) rfl ?_)
              obtain ⟨h32, hst, hS⟩ := hS
              refine Run.go rfl rfl rfl (sem_storeN ⟨k30, 0, none⟩ [(Value.bool b28), (Value.string s29)] h32 rfl rfl TF.sz_63 hst ?_)
              refine Run.region_end ?_
              refine Run.seq ?_
              refine Run.ops0 (idx := [0, 1, 2, 3, 4, 5, 6, 7, 8]) rfl ?_
              refine Run.go rfl rfl rfl (sem_move ((Value.pointer p7)) rfl ?_)
              refine Run.go rfl rfl rfl (sem_move ((Value.int .i64 (i21))) rfl ?_)
              refine Run.go rfl rfl rfl (sem_callL [(Value.pointer p7), (Value.int .i64 (i21))] (TF.goes_38) rfl rfl (Spec.mono hS fun v h33 hv => ?_))
              obtain ⟨b34, s35, i36, rfl, hS⟩ := hv
              refine Run.go rfl rfl rfl (sem_move ((Value.tuple #[(Value.agg #[(Value.bool b34), (Value.string s35)]), (Value.int .i64 (i36))])) rfl ?_)
              refine Run.go rfl rfl rfl (sem_extract #[(Value.agg #[(Value.bool b34), (Value.string s35)]), (Value.int .i64 (i36))] ((Value.agg #[(Value.bool b34), (Value.string s35)])) rfl rfl ?_)
              refine Run.go rfl rfl rfl (sem_extract #[(Value.agg #[(Value.bool b34), (Value.string s35)]), (Value.int .i64 (i36))] ((Value.int .i64 (i36))) rfl rfl ?_)
              refine Run.go rfl rfl rfl (sem_allocN [(Value.bool false), (Value.string ByteArray.empty)] TF.zero_54 (fun k37 hb1 hb2 h38 hb3 => ?_))
              have hS := hS k37 hb1 hb2 h38 hb3
              obtain ⟨h39, hst, hS⟩ := hS
              refine Run.go rfl rfl rfl (sem_storeN ⟨k37, 0, none⟩ [(Value.bool b34), (Value.string s35)] h39 rfl rfl TF.sz_54 hst ?_)
              refine Run.go rfl rfl rfl (sem_assign ((Value.int .i64 (i36))) rfl ?_)
              refine Run.region_end ?_
              refine Run.seq ?_
              refine Run.ops0 (idx := [0, 1, 2, 3, 4, 5, 6]) rfl ?_
              obtain ⟨b40, s41, hl, hS⟩ := hS
              refine Run.go rfl rfl rfl (sem_loadN ⟨k37, 0, none⟩ [(Value.bool b40), (Value.string s41)] rfl TF.agg_54 TF.sz_54 hl ?_)
              obtain ⟨b42, s43, hl, hS⟩ := hS
              refine Run.go rfl rfl rfl (sem_loadN ⟨k30, 0, none⟩ [(Value.bool b42), (Value.string s43)] rfl TF.agg_63 TF.sz_63 hl ?_)
              obtain ⟨hT, hF⟩ := hS
              by_cases hb44 : eqL [(Value.bool b40), (Value.string s41)] [(Value.bool b42), (Value.string s43)] = true
              · have hS := hT hb44; clear hT hF
                refine Run.go rfl rfl rfl (sem_aggEq [(Value.bool b40), (Value.string s41)] [(Value.bool b42), (Value.string s43)] _ (false) (.inr rfl) rfl rfl TF.agg_63 TF.flat_63 TF.eqg_63 ⟨⟨_, rfl⟩, ⟨_, rfl⟩, trivial⟩ ⟨⟨_, rfl⟩, ⟨_, rfl⟩, trivial⟩ (eqLT_neq hb44) ?_)
                refine Run.go rfl rfl rfl (sem_move ((Value.bool false)) rfl ?_)
                refine Run.go rfl rfl rfl (sem_move ((Value.int .i64 (i36))) rfl ?_)
                obtain ⟨hT, hF⟩ := hS
                by_cases hb45 : (i36 : Int) = 0
                · have hS := hT hb45; clear hT hF
                  refine Run.go rfl rfl rfl (sem_binI .i64 (i36) (0) (.bool false) rfl rfl (binI_neq_t hb45) ?_)
                  refine Run.go rfl rfl rfl (sem_pick false ((Value.bool false)) rfl rfl ?_)
                  refine Run.region_end ?_
                  refine Run.condF rfl ?_
                  refine Run.skip ?_
                  refine Run.inBlock ?_
                  refine Run.ops0 (idx := [0, 1]) rfl ?_
                  refine Run.go rfl rfl rfl (sem_binI .i64 (i21) (1) ((Value.int .i64 (IntKind.wrap .i64 ((i21) + (1))))) rfl rfl rfl ?_)
                  refine Run.go rfl rfl rfl (sem_move ((Value.int .i64 (IntKind.wrap .i64 ((i21) + (1))))) rfl ?_)
                  refine Run.region_end ?_
                  exact Run.of_fin (hS.imp fun h' ⟨m', hm, hS⟩ => ih25 ((IntKind.wrap .i64 ((i21) + (1))), m') _ _ ⟨hS, ⟨rfl, rfl, rfl, trivial⟩⟩ hm)
                · have hS := hF hb45; clear hT hF
                  refine Run.go rfl rfl rfl (sem_binI .i64 (i36) (0) (.bool true) rfl rfl (binI_neq_f hb45) ?_)
                  refine Run.go rfl rfl rfl (sem_pick false ((Value.bool true)) rfl rfl ?_)
                  refine Run.region_end ?_
                  refine Run.condT rfl ?_
                  refine Run.seq ?_
                  refine Run.ops0 (idx := [0]) rfl ?_
                  refine Run.go rfl rfl rfl (sem_assign ((Value.bool false)) rfl ?_)
                  refine Run.region_end ?_
                  refine Run.ret ⟨.inr rfl, ?_⟩
                  exact hS.imp fun h' hq => ⟨(false), rfl, hq⟩
              · have hS := hF hb44; clear hT hF
                refine Run.go rfl rfl rfl (sem_aggEq [(Value.bool b40), (Value.string s41)] [(Value.bool b42), (Value.string s43)] _ (true) (.inr rfl) rfl rfl TF.agg_63 TF.flat_63 TF.eqg_63 ⟨⟨_, rfl⟩, ⟨_, rfl⟩, trivial⟩ ⟨⟨_, rfl⟩, ⟨_, rfl⟩, trivial⟩ (eqLF_neq hb44) ?_)
                refine Run.go rfl rfl rfl (sem_move ((Value.bool true)) rfl ?_)
                refine Run.no rfl rfl rfl ?_
                refine Run.no rfl rfl rfl ?_
                refine Run.go rfl rfl rfl (sem_pick true ((Value.bool true)) rfl rfl ?_)
                refine Run.region_end ?_
                refine Run.condT rfl ?_
                refine Run.seq ?_
                refine Run.ops0 (idx := [0]) rfl ?_
                refine Run.go rfl rfl rfl (sem_assign ((Value.bool false)) rfl ?_)
                refine Run.region_end ?_
                refine Run.ret ⟨.inr rfl, ?_⟩
                exact hS.imp fun h' hq => ⟨(false), rfl, hq⟩
            · have hS := hF hb27; clear hT hF
              refine Run.go rfl rfl rfl (sem_binI .i64 (i21) (6) (.bool false) rfl rfl (binI_lss_f hb27) ?_)
              refine Run.region_end ?_
              refine Run.seq ?_
              refine Run.condF rfl ?_
              refine Run.exit rfl ?_
              refine Run.seq ?_
              refine Run.ops0 (idx := [0]) rfl ?_
              refine Run.go rfl rfl rfl (sem_assign ((Value.bool true)) rfl ?_)
              refine Run.region_end ?_
              refine Run.ret ⟨.inr rfl, ?_⟩
              exact hS.imp fun h' hq => ⟨(true), rfl, hq⟩
          refine Run.seq ?_
          refine Run.ops0 (idx := [0, 1, 2, 3, 4, 5, 6, 7]) rfl ?_
          refine Run.go rfl rfl rfl (sem_move ((Value.bool false)) rfl ?_)
          refine Run.go rfl rfl rfl (sem_not false rfl ?_)
          refine Run.go rfl rfl rfl (sem_move ((Value.bool true)) rfl ?_)
          refine Run.no rfl rfl rfl ?_
          refine Run.no rfl rfl rfl ?_
          refine Run.no rfl rfl rfl ?_
          refine Run.no rfl rfl rfl ?_
          refine Run.go rfl rfl rfl (sem_pick true ((Value.bool true)) rfl rfl ?_)
          refine Run.region_end ?_
          refine Run.condT rfl ?_
          refine Run.seq ?_
          refine Run.ops0 (idx := [0]) rfl ?_
          refine Run.go rfl rfl rfl (sem_assign ((Value.bool false)) rfl ?_)
          refine Run.region_end ?_
          refine Run.ret ⟨.inr rfl, ?_⟩
          exact hS.imp fun h' hq => ⟨(false), rfl, hq⟩
      · have hS := hT rfl; clear hT hF
        refine Run.go rfl rfl rfl (sem_extract #[(Value.pointer p7), (Value.bool true)] (.bool true) rfl rfl ?_)
        refine Run.go rfl rfl rfl (sem_assign ((Value.pointer p7)) rfl ?_)
        refine Run.go rfl rfl rfl (sem_assign ((Value.bool true)) rfl ?_)
        refine Run.region_end ?_
        refine Run.seq ?_
        refine Run.ops0 (idx := [0, 1, 2, 3, 4, 5, 6, 7]) rfl ?_
        refine Run.go rfl rfl rfl (sem_move ((Value.string s1)) rfl ?_)
        refine Run.go rfl rfl rfl (sem_callL [(Value.string s1)] (TF.goes_42) rfl rfl (Spec.mono hS fun v h46 hv => ?_))
        obtain ⟨l47, b48, rfl, hS⟩ := hv
        refine Run.go rfl rfl rfl (sem_move ((Value.tuple #[(Value.agg (List.toArray l47)), (Value.bool b48)])) rfl ?_)
        refine Run.go rfl rfl rfl (sem_extract #[(Value.agg (List.toArray l47)), (Value.bool b48)] ((Value.agg (List.toArray l47))) rfl rfl ?_)
        obtain ⟨hT, hF⟩ := hS
        cases b48
        · have hS := hF rfl; clear hT hF
          refine Run.go rfl rfl rfl (sem_extract #[(Value.agg (List.toArray l47)), (Value.bool false)] (.bool false) rfl rfl ?_)
          refine Run.go rfl rfl rfl (sem_allocN [(Value.bool false), (Value.string ByteArray.empty), (Value.bool false), (Value.string ByteArray.empty), (Value.bool false), (Value.string ByteArray.empty), (Value.bool false), (Value.string ByteArray.empty), (Value.bool false), (Value.string ByteArray.empty), (Value.bool false), (Value.string ByteArray.empty)] TF.zero_64 (fun k49 hb1 hb2 h50 hb3 => ?_))
          have hS := hS k49 hb1 hb2 h50 hb3
          obtain ⟨hln, h51, hst, hS⟩ := hS
          refine Run.go rfl rfl rfl (sem_storeN ⟨k49, 0, none⟩ l47 h51 rfl rfl (TF.sz_64.trans (congrArg some hln.symm)) hst ?_)
          refine Run.go rfl rfl rfl (sem_assign ((Value.bool false)) rfl ?_)
          refine Run.region_end ?_
          refine Run.seq ?_
          refine Run.seq ?_
          refine Run.ops0 (idx := [0, 1]) rfl ?_
          refine Run.go rfl rfl rfl (sem_move ((Value.bool false)) rfl ?_)
          refine Run.go rfl rfl rfl (sem_not false rfl ?_)
          refine Run.region_end ?_
          refine Run.condT rfl ?_
          refine Run.seq ?_
          refine Run.ops0 (idx := [0, 1, 2, 3, 4, 5, 6]) rfl ?_
          refine Run.go rfl rfl rfl (sem_move ((Value.bool true)) rfl ?_)
          refine Run.go rfl rfl rfl (sem_not true rfl ?_)
          refine Run.go rfl rfl rfl (sem_move ((Value.bool false)) rfl ?_)
          refine Run.no rfl rfl rfl ?_
          refine Run.no rfl rfl rfl ?_
          refine Run.go rfl rfl rfl (sem_pick false ((Value.bool false)) rfl rfl ?_)
          refine Run.go rfl rfl rfl (sem_assign ((Value.bool false)) rfl ?_)
          refine Run.region_end ?_
          refine Run.ret ⟨.inr rfl, ?_⟩
          exact hS.imp fun h' hq => ⟨(false), rfl, hq⟩
        · have hS := hT rfl; clear hT hF
          refine Run.go rfl rfl rfl (sem_extract #[(Value.agg (List.toArray l47)), (Value.bool true)] (.bool true) rfl rfl ?_)
          refine Run.go rfl rfl rfl (sem_allocN [(Value.bool false), (Value.string ByteArray.empty), (Value.bool false), (Value.string ByteArray.empty), (Value.bool false), (Value.string ByteArray.empty), (Value.bool false), (Value.string ByteArray.empty), (Value.bool false), (Value.string ByteArray.empty), (Value.bool false), (Value.string ByteArray.empty)] TF.zero_64 (fun k52 hb1 hb2 h53 hb3 => ?_))
          have hS := hS k52 hb1 hb2 h53 hb3
          obtain ⟨hln, h54, hst, hS⟩ := hS
          refine Run.go rfl rfl rfl (sem_storeN ⟨k52, 0, none⟩ l47 h54 rfl rfl (TF.sz_64.trans (congrArg some hln.symm)) hst ?_)
          refine Run.go rfl rfl rfl (sem_assign ((Value.bool true)) rfl ?_)
          refine Run.region_end ?_
          refine Run.seq ?_
          refine Run.seq ?_
          refine Run.ops0 (idx := [0, 1]) rfl ?_
          refine Run.go rfl rfl rfl (sem_move ((Value.bool true)) rfl ?_)
          refine Run.go rfl rfl rfl (sem_not true rfl ?_)
          refine Run.region_end ?_
          refine Run.condF rfl ?_
          refine Run.skip ?_
          refine Run.seqJ (fun e h56 => Agree [(3, (Value.pointer p7)), (5, (Value.pointer (some ⟨k52, 0, none⟩)))] e ∧ S_countermandlaw10_TomeReads_J2 B p7 k52 h56 Q) ?_ fun j55 => ?_
          · rintro e h56 ⟨hag, hS⟩
            refine Run.env hag ?_; clear hag
            refine Run.seq ?_
            refine Run.seq ?_
            refine Run.ops0 (idx := [0, 1]) rfl ?_
            obtain ⟨l57, hln, hl, hS⟩ := hS
            refine Run.go rfl rfl rfl (sem_loadN ⟨k52, 0, none⟩ l57 rfl TF.agg_64 (TF.sz_64.trans (congrArg some hln.symm)) hl ?_)
            refine Run.go rfl rfl rfl (sem_move ((Value.int .i64 (0))) rfl ?_)
            refine Run.region_end ?_
            refine Run.block ?_
            obtain ⟨J63, m61, h0, hS⟩ := hS
            refine Run.of_fin (h0.imp fun h' h0 => ?_)
            refine Run.loop (σ := Int × Nat) (fun x e h => J63 x.1 x.2 h ∧ Agree [(3, (Value.pointer p7)), (42, (Value.agg (List.toArray l57))), (43, (Value.int .i64 (x.1)))] e) (fun x => x.2) ((0), m61) ⟨h0, ⟨rfl, rfl, rfl, trivial⟩⟩ ?_; clear h0
            rintro ⟨i58, m60⟩ e h59 ⟨hJ, hag⟩ ih62
            have hS := hS i58 m60 h59 hJ; clear hJ
            refine Run.env hag ?_; clear hag
            refine Run.seq ?_
            refine Run.ops0 (idx := [0]) rfl ?_
            obtain ⟨hT, hF⟩ := hS
            by_cases hb64 : (i58 : Int) < (6)
            · have hS := hT hb64; clear hT hF
              refine Run.go rfl rfl rfl (sem_binI .i64 (i58) (6) (.bool true) rfl rfl (binI_lss_t hb64) ?_)
              refine Run.region_end ?_
              refine Run.seq ?_
              refine Run.condT rfl ?_
              refine Run.skip ?_
              refine Run.seq ?_
              refine Run.block ?_
              refine Run.seq ?_
              refine Run.ops0 (idx := [0, 1, 2, 3, 4]) rfl ?_
              refine Run.go rfl rfl rfl (sem_move ((Value.int .i64 (i58))) rfl ?_)
              obtain ⟨hi0, hi1, b65, s66, hix, hS⟩ := hS
              refine Run.go rfl rfl rfl (sem_indexArr (List.toArray l57) (Value.agg #[(Value.bool b65), (Value.string s66)]) .i64 (i58) rfl rfl TF.arr_64 hi0 hi1 (congrArg (fun a => some (Value.agg a)) hix) ?_)
              refine Run.go rfl rfl rfl (sem_allocN [(Value.bool false), (Value.string ByteArray.empty)] TF.zero_63 (fun k67 hb1 hb2 h68 hb3 => ?_))
              have hS := hS k67 hb1 hb2 h68 hb3
              refine Run.go rfl rfl rfl (sem_assign ((Value.int .i64 (i58))) rfl ?_)
              obtain ⟨h69, hst, hS⟩ := hS
              refine Run.go rfl rfl rfl (sem_storeN ⟨k67, 0, none⟩ [(Value.bool b65), (Value.string s66)] h69 rfl rfl TF.sz_63 hst ?_)
              refine Run.region_end ?_
              refine Run.seq ?_
              refine Run.ops0 (idx := [0, 1, 2, 3, 4, 5, 6, 7, 8]) rfl ?_
              refine Run.go rfl rfl rfl (sem_move ((Value.pointer p7)) rfl ?_)
              refine Run.go rfl rfl rfl (sem_move ((Value.int .i64 (i58))) rfl ?_)
              refine Run.go rfl rfl rfl (sem_callL [(Value.pointer p7), (Value.int .i64 (i58))] (TF.goes_38) rfl rfl (Spec.mono hS fun v h70 hv => ?_))
              obtain ⟨b71, s72, i73, rfl, hS⟩ := hv
              refine Run.go rfl rfl rfl (sem_move ((Value.tuple #[(Value.agg #[(Value.bool b71), (Value.string s72)]), (Value.int .i64 (i73))])) rfl ?_)
              refine Run.go rfl rfl rfl (sem_extract #[(Value.agg #[(Value.bool b71), (Value.string s72)]), (Value.int .i64 (i73))] ((Value.agg #[(Value.bool b71), (Value.string s72)])) rfl rfl ?_)
              refine Run.go rfl rfl rfl (sem_extract #[(Value.agg #[(Value.bool b71), (Value.string s72)]), (Value.int .i64 (i73))] ((Value.int .i64 (i73))) rfl rfl ?_)
              refine Run.go rfl rfl rfl (sem_allocN [(Value.bool false), (Value.string ByteArray.empty)] TF.zero_54 (fun k74 hb1 hb2 h75 hb3 => ?_))
              have hS := hS k74 hb1 hb2 h75 hb3
              obtain ⟨h76, hst, hS⟩ := hS
              refine Run.go rfl rfl rfl (sem_storeN ⟨k74, 0, none⟩ [(Value.bool b71), (Value.string s72)] h76 rfl rfl TF.sz_54 hst ?_)
              refine Run.go rfl rfl rfl (sem_assign ((Value.int .i64 (i73))) rfl ?_)
              refine Run.region_end ?_
              refine Run.seq ?_
              refine Run.ops0 (idx := [0, 1, 2, 3, 4, 5, 6]) rfl ?_
              obtain ⟨b77, s78, hl, hS⟩ := hS
              refine Run.go rfl rfl rfl (sem_loadN ⟨k74, 0, none⟩ [(Value.bool b77), (Value.string s78)] rfl TF.agg_54 TF.sz_54 hl ?_)
              obtain ⟨b79, s80, hl, hS⟩ := hS
              refine Run.go rfl rfl rfl (sem_loadN ⟨k67, 0, none⟩ [(Value.bool b79), (Value.string s80)] rfl TF.agg_63 TF.sz_63 hl ?_)
              obtain ⟨hT, hF⟩ := hS
              by_cases hb81 : eqL [(Value.bool b77), (Value.string s78)] [(Value.bool b79), (Value.string s80)] = true
              · have hS := hT hb81; clear hT hF
                refine Run.go rfl rfl rfl (sem_aggEq [(Value.bool b77), (Value.string s78)] [(Value.bool b79), (Value.string s80)] _ (false) (.inr rfl) rfl rfl TF.agg_63 TF.flat_63 TF.eqg_63 ⟨⟨_, rfl⟩, ⟨_, rfl⟩, trivial⟩ ⟨⟨_, rfl⟩, ⟨_, rfl⟩, trivial⟩ (eqLT_neq hb81) ?_)
                refine Run.go rfl rfl rfl (sem_move ((Value.bool false)) rfl ?_)
                refine Run.go rfl rfl rfl (sem_move ((Value.int .i64 (i73))) rfl ?_)
                obtain ⟨hT, hF⟩ := hS
                by_cases hb82 : (i73 : Int) = 0
                · have hS := hT hb82; clear hT hF
                  refine Run.go rfl rfl rfl (sem_binI .i64 (i73) (0) (.bool false) rfl rfl (binI_neq_t hb82) ?_)
                  refine Run.go rfl rfl rfl (sem_pick false ((Value.bool false)) rfl rfl ?_)
                  refine Run.region_end ?_
                  refine Run.condF rfl ?_
                  refine Run.skip ?_
                  refine Run.inBlock ?_
                  refine Run.ops0 (idx := [0, 1]) rfl ?_
                  refine Run.go rfl rfl rfl (sem_binI .i64 (i58) (1) ((Value.int .i64 (IntKind.wrap .i64 ((i58) + (1))))) rfl rfl rfl ?_)
                  refine Run.go rfl rfl rfl (sem_move ((Value.int .i64 (IntKind.wrap .i64 ((i58) + (1))))) rfl ?_)
                  refine Run.region_end ?_
                  exact Run.of_fin (hS.imp fun h' ⟨m', hm, hS⟩ => ih62 ((IntKind.wrap .i64 ((i58) + (1))), m') _ _ ⟨hS, ⟨rfl, rfl, rfl, trivial⟩⟩ hm)
                · have hS := hF hb82; clear hT hF
                  refine Run.go rfl rfl rfl (sem_binI .i64 (i73) (0) (.bool true) rfl rfl (binI_neq_f hb82) ?_)
                  refine Run.go rfl rfl rfl (sem_pick false ((Value.bool true)) rfl rfl ?_)
                  refine Run.region_end ?_
                  refine Run.condT rfl ?_
                  refine Run.seq ?_
                  refine Run.ops0 (idx := [0]) rfl ?_
                  refine Run.go rfl rfl rfl (sem_assign ((Value.bool false)) rfl ?_)
                  refine Run.region_end ?_
                  refine Run.ret ⟨.inr rfl, ?_⟩
                  exact hS.imp fun h' hq => ⟨(false), rfl, hq⟩
              · have hS := hF hb81; clear hT hF
                refine Run.go rfl rfl rfl (sem_aggEq [(Value.bool b77), (Value.string s78)] [(Value.bool b79), (Value.string s80)] _ (true) (.inr rfl) rfl rfl TF.agg_63 TF.flat_63 TF.eqg_63 ⟨⟨_, rfl⟩, ⟨_, rfl⟩, trivial⟩ ⟨⟨_, rfl⟩, ⟨_, rfl⟩, trivial⟩ (eqLF_neq hb81) ?_)
                refine Run.go rfl rfl rfl (sem_move ((Value.bool true)) rfl ?_)
                refine Run.no rfl rfl rfl ?_
                refine Run.no rfl rfl rfl ?_
                refine Run.go rfl rfl rfl (sem_pick true ((Value.bool true)) rfl rfl ?_)
                refine Run.region_end ?_
                refine Run.condT rfl ?_
                refine Run.seq ?_
                refine Run.ops0 (idx := [0]) rfl ?_
                refine Run.go rfl rfl rfl (sem_assign ((Value.bool false)) rfl ?_)
                refine Run.region_end ?_
                refine Run.ret ⟨.inr rfl, ?_⟩
                exact hS.imp fun h' hq => ⟨(false), rfl, hq⟩
            · have hS := hF hb64; clear hT hF
              refine Run.go rfl rfl rfl (sem_binI .i64 (i58) (6) (.bool false) rfl rfl (binI_lss_f hb64) ?_)
              refine Run.region_end ?_
              refine Run.seq ?_
              refine Run.condF rfl ?_
              refine Run.exit rfl ?_
              refine Run.seq ?_
              refine Run.ops0 (idx := [0]) rfl ?_
              refine Run.go rfl rfl rfl (sem_assign ((Value.bool true)) rfl ?_)
              refine Run.region_end ?_
              refine Run.ret ⟨.inr rfl, ?_⟩
              exact hS.imp fun h' hq => ⟨(true), rfl, hq⟩
          refine Run.seq ?_
          refine Run.ops0 (idx := [0, 1, 2, 3, 4, 5, 6, 7]) rfl ?_
          refine Run.go rfl rfl rfl (sem_move ((Value.bool true)) rfl ?_)
          refine Run.go rfl rfl rfl (sem_not true rfl ?_)
          refine Run.go rfl rfl rfl (sem_move ((Value.bool false)) rfl ?_)
          refine Run.go rfl rfl rfl (sem_move ((Value.pointer p7)) rfl ?_)
          refine Run.go rfl rfl rfl (sem_callL [(Value.pointer p7)] (TF.goes_36) rfl rfl (Spec.mono hS fun v h83 hv => ?_))
          obtain ⟨s84, rfl, hS⟩ := hv
          refine Run.go rfl rfl rfl (sem_move ((Value.string s1)) rfl ?_)
          obtain ⟨hT, hF⟩ := hS
          by_cases hb85 : s84 = s1
          · have hS := hT hb85; clear hT hF
            refine Run.go rfl rfl rfl (sem_strNeT s84 s1 rfl rfl hb85 ?_)
            refine Run.go rfl rfl rfl (sem_pick false ((Value.bool false)) rfl rfl ?_)
            refine Run.region_end ?_
            refine Run.condF rfl ?_
            refine Run.skip ?_
            exact Run.of_fin (hS.imp fun h' hS => j55 _ _ ⟨⟨rfl, rfl, trivial⟩, hS⟩)
          · have hS := hF hb85; clear hT hF
            refine Run.go rfl rfl rfl (sem_strNeF s84 s1 rfl rfl hb85 ?_)
            refine Run.go rfl rfl rfl (sem_pick false ((Value.bool true)) rfl rfl ?_)
            refine Run.region_end ?_
            refine Run.condT rfl ?_
            refine Run.seq ?_
            refine Run.ops0 (idx := [0]) rfl ?_
            refine Run.go rfl rfl rfl (sem_assign ((Value.bool false)) rfl ?_)
            refine Run.region_end ?_
            refine Run.ret ⟨.inr rfl, ?_⟩
            exact hS.imp fun h' hq => ⟨(false), rfl, hq⟩
set_option maxHeartbeats 4000000 in
theorem C_stylus_Of.of {B : RO} {s1 : ByteArray} {h : Heap} {Q : Option Addr → Heap → Prop} (hS : S_stylus_Of B s1 h Q) : C_stylus_Of B s1 h Q := by
  unfold S_stylus_Of at hS
  unfold C_stylus_Of
  refine Spec.of_run Try.func16 (N := 6) (rs := [ResultVar.tmp 2]) rfl rfl rfl (Nat.le_of_ble_eq_true rfl) ?_
  refine Run.seq ?_
  refine Run.ops0 (idx := [0]) rfl ?_
  refine Run.go rfl rfl rfl (sem_assign ((Value.pointer none)) rfl ?_)
  refine Run.region_end ?_
  refine Run.seq ?_
  refine Run.ops0 (idx := [0, 1, 2, 3]) rfl ?_
  refine Run.go rfl rfl rfl (sem_move ((Value.string s1)) rfl ?_)
  refine Run.go rfl rfl rfl (sem_buildSL [(0, (Value.string s1))] [(Value.string s1), (Value.bool false)] TF.zero_137 TF.places_137 rfl rfl ?_)
  refine Run.go rfl rfl rfl (sem_boxNN [(Value.string s1), (Value.bool false)] rfl (fun k3 hb1 hb2 h4 hb3 => ?_))
  have hS := hS k3 hb1 hb2 h4 hb3
  refine Run.go rfl rfl rfl (sem_assign ((Value.pointer (some ⟨k3, 0, none⟩))) rfl ?_)
  refine Run.region_end ?_
  refine Run.ret ⟨.inr rfl, ?_⟩
  exact hS.imp fun h' hq => ⟨(some ⟨k3, 0, none⟩), rfl, hq⟩
end Go.Proofs.Ytoajfmmomgpjcaa.H
