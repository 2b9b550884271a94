/- The functions do what they ask for. No condition. -/
import Derived.Test.YthlnibaechobmaaXeS
namespace Go.Proofs.Ythlnibaechobmaa.H
open Go
set_option linter.unusedVariables false
set_option maxRecDepth 100000

set_option maxHeartbeats 4000000 in
theorem C_countermandlaw11_FeedDoes.of {B : RO} {a1 : Option Addr} {n2 : Nat} {c3 : Nat} {i4 : Int} {h : Heap} {Q : Bool → Heap → Prop} (hS : S_countermandlaw11_FeedDoes B a1 n2 c3 i4 h Q) : C_countermandlaw11_FeedDoes B a1 n2 c3 i4 h Q := by
  unfold S_countermandlaw11_FeedDoes at hS
  unfold C_countermandlaw11_FeedDoes
  refine Spec.of_run Try.func10 (N := 212) (rs := [ResultVar.tmp 4]) rfl rfl rfl (Nat.le_of_ble_eq_true rfl) ?_
  refine Run.seq ?_
  refine Run.ops0 (idx := [0]) rfl ?_
  refine Run.go rfl rfl rfl (sem_assign ((Value.bool false)) rfl ?_)
  refine Run.region_end ?_
  refine Run.seq ?_
  refine Run.seq ?_
  refine Run.ops0 (idx := [0, 1]) rfl ?_
  refine Run.go rfl rfl rfl (sem_callL [] (TF.goes_40) rfl rfl (Spec.mono hS fun v h6 hv => ?_))
  obtain ⟨b7, rfl, hS⟩ := hv
  obtain ⟨hT, hF⟩ := hS
  cases b7
  · have hS := hF rfl; clear hT hF
    refine Run.go rfl rfl rfl (sem_not false rfl ?_)
    refine Run.region_end ?_
    refine Run.condT rfl ?_
    refine Run.seq ?_
    refine Run.ops0 (idx := [0]) rfl ?_
    refine Run.go rfl rfl rfl (sem_assign ((Value.bool false)) rfl ?_)
    refine Run.region_end ?_
    refine Run.ret ⟨.inr rfl, ?_⟩
    exact hS.imp fun h' hq => ⟨(false), rfl, hq⟩
  · have hS := hT rfl; clear hT hF
    refine Run.go rfl rfl rfl (sem_not true rfl ?_)
    refine Run.region_end ?_
    refine Run.condF rfl ?_
    refine Run.skip ?_
    refine Run.seq ?_
    refine Run.seq ?_
    refine Run.ops0 (idx := [0, 1, 2]) rfl ?_
    refine Run.go rfl rfl rfl (sem_move ((Value.slice a1 n2 c3)) rfl ?_)
    refine Run.go rfl rfl rfl (sem_lenSl a1 n2 c3 rfl TF.sl_78 ?_)
    obtain ⟨hT, hF⟩ := hS
    by_cases hb8 : ((n2 : Nat) : Int) > (60)
    · have hS := hT hb8; clear hT hF
      refine Run.go rfl rfl rfl (sem_binI .i64 ((n2 : Nat)) (60) (.bool true) rfl rfl (binI_gtr_t hb8) ?_)
      refine Run.region_end ?_
      refine Run.condT rfl ?_
      refine Run.seq ?_
      refine Run.ops0 (idx := [0]) rfl ?_
      refine Run.go rfl rfl rfl (sem_assign ((Value.bool true)) rfl ?_)
      refine Run.region_end ?_
      refine Run.ret ⟨.inr rfl, ?_⟩
      exact hS.imp fun h' hq => ⟨(true), rfl, hq⟩
    · have hS := hF hb8; clear hT hF
      refine Run.go rfl rfl rfl (sem_binI .i64 ((n2 : Nat)) (60) (.bool false) rfl rfl (binI_gtr_f hb8) ?_)
      refine Run.region_end ?_
      refine Run.condF rfl ?_
      refine Run.skip ?_
      refine Run.seq ?_
      refine Run.ops0 (idx := [0, 1, 2, 3, 4]) rfl ?_
      refine Run.go rfl rfl rfl (sem_callL [] (TF.goes_41) rfl rfl (Spec.mono hS fun v h9 hv => ?_))
      obtain ⟨p10, rfl, hS⟩ := hv
      refine Run.go rfl rfl rfl (sem_buildSL [] [(Value.string ByteArray.empty), (Value.string ByteArray.empty), (Value.string ByteArray.empty), (Value.int .i64 (0)), (Value.int .i64 (0)), (Value.int .i64 (0)), (Value.int .i64 (0)), (Value.int .i64 (0)), (Value.int .i64 (0))] TF.zero_85 TF.places_85 rfl rfl ?_)
      refine Run.go rfl rfl rfl (sem_boxNN [(Value.string ByteArray.empty), (Value.string ByteArray.empty), (Value.string ByteArray.empty), (Value.int .i64 (0)), (Value.int .i64 (0)), (Value.int .i64 (0)), (Value.int .i64 (0)), (Value.int .i64 (0)), (Value.int .i64 (0))] rfl (fun k11 hb1 hb2 h12 hb3 => ?_))
      have hS := hS k11 hb1 hb2 h12 hb3
      refine Run.go rfl rfl rfl (sem_assign ((Value.pointer p10)) rfl ?_)
      refine Run.go rfl rfl rfl (sem_assign ((Value.pointer (some ⟨k11, 0, none⟩))) rfl ?_)
      refine Run.region_end ?_
      refine Run.seqJ (fun e h14 => Agree [] e ∧ S_countermandlaw11_FeedDoes_J1 B h14 Q) ?_ fun j13 => ?_
      · rintro e h14 ⟨hag, hS⟩
        refine Run.env hag ?_; clear hag
        refine Run.seq ?_
        refine Run.ops0 (idx := [0]) rfl ?_
        refine Run.go rfl rfl rfl (sem_assign ((Value.pointer none)) rfl ?_)
        refine Run.region_end ?_
        refine Run.seq ?_
        refine Run.ops0 (idx := [0, 1, 2, 3, 4, 5, 6]) rfl ?_
        refine Run.go rfl rfl rfl (sem_move ((Value.pointer none)) rfl ?_)
        refine Run.go rfl rfl rfl (sem_callL [(Value.pointer none), (Value.int .i64 (0))] (TF.goes_50) rfl rfl (Spec.mono hS fun v h15 hv => ?_))
        obtain ⟨i16, i17, rfl, hS⟩ := hv
        refine Run.go rfl rfl rfl (sem_move ((Value.tuple #[(Value.int .i64 (i16)), (Value.int .i64 (i17))])) rfl ?_)
        refine Run.go rfl rfl rfl (sem_extract #[(Value.int .i64 (i16)), (Value.int .i64 (i17))] ((Value.int .i64 (i16))) rfl rfl ?_)
        refine Run.go rfl rfl rfl (sem_extract #[(Value.int .i64 (i16)), (Value.int .i64 (i17))] ((Value.int .i64 (i17))) rfl rfl ?_)
        refine Run.go rfl rfl rfl (sem_assign ((Value.int .i64 (i16))) rfl ?_)
        refine Run.go rfl rfl rfl (sem_assign ((Value.int .i64 (i17))) rfl ?_)
        refine Run.region_end ?_
        refine Run.seq ?_
        refine Run.ops0 (idx := [0, 1, 2, 3, 4, 5, 6, 7, 8, 9, 10, 11, 12, 13, 14, 15, 16, 17, 18, 19, 20, 21, 22, 23, 24, 25, 26, 27]) rfl ?_
        refine Run.go rfl rfl rfl (sem_move ((Value.pointer none)) rfl ?_)
        refine Run.go rfl rfl rfl (sem_callL [(Value.pointer none), (Value.int .i64 (0)), (Value.string (ByteArray.mk #[]))] (TF.goes_42) rfl rfl (Spec.mono hS fun v h18 hv => ?_))
        obtain ⟨i19, rfl, hS⟩ := hv
        obtain ⟨hT, hF⟩ := hS
        by_cases hb20 : (i19 : Int) = 2
        · have hS := hT hb20; clear hT hF
          refine Run.go rfl rfl rfl (sem_binI .i64 (i19) (2) (.bool true) rfl rfl (binI_eql_t hb20) ?_)
          refine Run.go rfl rfl rfl (sem_move ((Value.bool true)) rfl ?_)
          refine Run.go rfl rfl rfl (sem_move ((Value.pointer none)) rfl ?_)
          refine Run.go rfl rfl rfl (sem_callL [(Value.pointer none), (Value.int .i64 (0)), (Value.int .i64 (0))] (TF.goes_49) rfl rfl (Spec.mono hS fun v h21 hv => ?_))
          obtain ⟨i22, rfl, hS⟩ := hv
          obtain ⟨hT, hF⟩ := hS
          by_cases hb23 : (i22 : Int) = (-1)
          · have hS := hT hb23; clear hT hF
            refine Run.go rfl rfl rfl (sem_binI .i64 (i22) ((-1)) (.bool true) rfl rfl (binI_eql_t hb23) ?_)
            refine Run.go rfl rfl rfl (sem_pick true ((Value.bool true)) rfl rfl ?_)
            refine Run.go rfl rfl rfl (sem_move ((Value.bool true)) rfl ?_)
            refine Run.go rfl rfl rfl (sem_move ((Value.int .i64 (i16))) rfl ?_)
            refine Run.go rfl rfl rfl (sem_move ((Value.int .i64 (i17))) rfl ?_)
            refine Run.go rfl rfl rfl (sem_binI .i64 (i16) (i17) ((Value.int .i64 (IntKind.wrap .i64 ((i16) + (i17))))) rfl rfl rfl ?_)
            obtain ⟨hT, hF⟩ := hS
            by_cases hb24 : (IntKind.wrap .i64 ((i16) + (i17)) : Int) = 0
            · have hS := hT hb24; clear hT hF
              refine Run.go rfl rfl rfl (sem_binI .i64 (IntKind.wrap .i64 ((i16) + (i17))) (0) (.bool true) rfl rfl (binI_eql_t hb24) ?_)
              refine Run.go rfl rfl rfl (sem_pick true ((Value.bool true)) rfl rfl ?_)
              refine Run.go rfl rfl rfl (sem_move ((Value.bool true)) rfl ?_)
              refine Run.go rfl rfl rfl (sem_move ((Value.pointer none)) rfl ?_)
              refine Run.go rfl rfl rfl (sem_callL [(Value.pointer none), (Value.int .i64 (0)), (Value.int .i64 (0)), (Value.int .i64 (0))] (TF.goes_44) rfl rfl (Spec.mono hS fun v h25 hv => ?_))
              obtain ⟨b26, rfl, hS⟩ := hv
              obtain ⟨hT, hF⟩ := hS
              cases b26
              · have hS := hF rfl; clear hT hF
                refine Run.go rfl rfl rfl (sem_not false rfl ?_)
                refine Run.go rfl rfl rfl (sem_pick true ((Value.bool true)) rfl rfl ?_)
                refine Run.go rfl rfl rfl (sem_move ((Value.bool true)) rfl ?_)
                refine Run.go rfl rfl rfl (sem_move ((Value.pointer none)) rfl ?_)
                refine Run.go rfl rfl rfl (sem_callL [(Value.pointer none), (Value.int .i64 (0))] (TF.goes_47) rfl rfl (Spec.mono hS fun v h27 hv => ?_))
                obtain ⟨s28, rfl, hS⟩ := hv
                refine Run.go rfl rfl rfl (sem_move ((Value.pointer none)) rfl ?_)
                refine Run.go rfl rfl rfl (sem_callL [(Value.pointer none), (Value.int .i64 (0))] (TF.goes_48) rfl rfl (Spec.mono hS fun v h29 hv => ?_))
                obtain ⟨s30, rfl, hS⟩ := hv
                obtain ⟨hi0, hS⟩ := hS
                refine Run.go rfl rfl rfl (sem_strAdd s28 s30 rfl rfl hi0 ?_)
                refine Run.go rfl rfl rfl (sem_strEq (s28 ++ s30) (ByteArray.mk #[]) rfl rfl ?_)
                refine Run.go rfl rfl rfl (sem_pick true ((Value.bool (decide ((s28 ++ s30) = (ByteArray.mk #[]))))) rfl rfl ?_)
                refine Run.go rfl rfl rfl (sem_assign ((Value.bool (decide ((s28 ++ s30) = (ByteArray.mk #[]))))) rfl ?_)
                refine Run.region_end ?_
                refine Run.ret ⟨.inr rfl, ?_⟩
                exact hS.imp fun h' hq => ⟨((decide ((s28 ++ s30) = (ByteArray.mk #[])))), rfl, hq⟩
              · have hS := hT rfl; clear hT hF
                refine Run.go rfl rfl rfl (sem_not true rfl ?_)
                refine Run.go rfl rfl rfl (sem_pick true ((Value.bool false)) rfl rfl ?_)
                refine Run.go rfl rfl rfl (sem_move ((Value.bool false)) rfl ?_)
                refine Run.no rfl rfl rfl ?_
                refine Run.no rfl rfl rfl ?_
                refine Run.no rfl rfl rfl ?_
                refine Run.no rfl rfl rfl ?_
                refine Run.no rfl rfl rfl ?_
                refine Run.no rfl rfl rfl ?_
                refine Run.go rfl rfl rfl (sem_pick false ((Value.bool false)) rfl rfl ?_)
                refine Run.go rfl rfl rfl (sem_assign ((Value.bool false)) rfl ?_)
                refine Run.region_end ?_
                refine Run.ret ⟨.inr rfl, ?_⟩
                exact hS.imp fun h' hq => ⟨(false), rfl, hq⟩
            · have hS := hF hb24; clear hT hF
              refine Run.go rfl rfl rfl (sem_binI .i64 (IntKind.wrap .i64 ((i16) + (i17))) (0) (.bool false) rfl rfl (binI_eql_f hb24) ?_)
              refine Run.go rfl rfl rfl (sem_pick true ((Value.bool false)) rfl rfl ?_)
              refine Run.go rfl rfl rfl (sem_move ((Value.bool false)) rfl ?_)
              refine Run.no rfl rfl rfl ?_
              refine Run.no rfl rfl rfl ?_
              refine Run.no rfl rfl rfl ?_
              refine Run.go rfl rfl rfl (sem_pick false ((Value.bool false)) rfl rfl ?_)
              refine Run.go rfl rfl rfl (sem_move ((Value.bool false)) rfl ?_)
              refine Run.no rfl rfl rfl ?_
              refine Run.no rfl rfl rfl ?_
              refine Run.no rfl rfl rfl ?_
              refine Run.no rfl rfl rfl ?_
              refine Run.no rfl rfl rfl ?_
              refine Run.no rfl rfl rfl ?_
              refine Run.go rfl rfl rfl (sem_pick false ((Value.bool false)) rfl rfl ?_)
              refine Run.go rfl rfl rfl (sem_assign ((Value.bool false)) rfl ?_)
              refine Run.region_end ?_
              refine Run.ret ⟨.inr rfl, ?_⟩
              exact hS.imp fun h' hq => ⟨(false), rfl, hq⟩
          · have hS := hF hb23; clear hT hF
            refine Run.go rfl rfl rfl (sem_binI .i64 (i22) ((-1)) (.bool false) rfl rfl (binI_eql_f hb23) ?_)
            refine Run.go rfl rfl rfl (sem_pick true ((Value.bool false)) rfl rfl ?_)
            refine Run.go rfl rfl rfl (sem_move ((Value.bool false)) rfl ?_)
            refine Run.no rfl rfl rfl ?_
            refine Run.no rfl rfl rfl ?_
            refine Run.no rfl rfl rfl ?_
            refine Run.no rfl rfl rfl ?_
            refine Run.go rfl rfl rfl (sem_pick false ((Value.bool false)) rfl rfl ?_)
            refine Run.go rfl rfl rfl (sem_move ((Value.bool false)) rfl ?_)
            refine Run.no rfl rfl rfl ?_
            refine Run.no rfl rfl rfl ?_
            refine Run.no rfl rfl rfl ?_
            refine Run.go rfl rfl rfl (sem_pick false ((Value.bool false)) rfl rfl ?_)
            refine Run.go rfl rfl rfl (sem_move ((Value.bool false)) rfl ?_)
            refine Run.no rfl rfl rfl ?_
            refine Run.no rfl rfl rfl ?_
            refine Run.no rfl rfl rfl ?_
            refine Run.no rfl rfl rfl ?_
            refine Run.no rfl rfl rfl ?_
            refine Run.no rfl rfl rfl ?_
            refine Run.go rfl rfl rfl (sem_pick false ((Value.bool false)) rfl rfl ?_)
            refine Run.go rfl rfl rfl (sem_assign ((Value.bool false)) rfl ?_)
            refine Run.region_end ?_
            refine Run.ret ⟨.inr rfl, ?_⟩
            exact hS.imp fun h' hq => ⟨(false), rfl, hq⟩
        · have hS := hF hb20; clear hT hF
          refine Run.go rfl rfl rfl (sem_binI .i64 (i19) (2) (.bool false) rfl rfl (binI_eql_f hb20) ?_)
          refine Run.go rfl rfl rfl (sem_move ((Value.bool false)) rfl ?_)
          refine Run.no rfl rfl rfl ?_
          refine Run.no rfl rfl rfl ?_
          refine Run.no rfl rfl rfl ?_
          refine Run.go rfl rfl rfl (sem_pick false ((Value.bool false)) rfl rfl ?_)
          refine Run.go rfl rfl rfl (sem_move ((Value.bool false)) rfl ?_)
          refine Run.no rfl rfl rfl ?_
          refine Run.no rfl rfl rfl ?_
          refine Run.no rfl rfl rfl ?_
          refine Run.no rfl rfl rfl ?_
          refine Run.go rfl rfl rfl (sem_pick false ((Value.bool false)) rfl rfl ?_)
          refine Run.go rfl rfl rfl (sem_move ((Value.bool false)) rfl ?_)
          refine Run.no rfl rfl rfl ?_
          refine Run.no rfl rfl rfl ?_
          refine Run.no rfl rfl rfl ?_
          refine Run.go rfl rfl rfl (sem_pick false ((Value.bool false)) rfl rfl ?_)
          refine Run.go rfl rfl rfl (sem_move ((Value.bool false)) rfl ?_)
          refine Run.no rfl rfl rfl ?_
          refine Run.no rfl rfl rfl ?_
          refine Run.no rfl rfl rfl ?_
          refine Run.no rfl rfl rfl ?_
          refine Run.no rfl rfl rfl ?_
          refine Run.no rfl rfl rfl ?_
          refine Run.go rfl rfl rfl (sem_pick false ((Value.bool false)) rfl rfl ?_)
          refine Run.go rfl rfl rfl (sem_assign ((Value.bool false)) rfl ?_)
          refine Run.region_end ?_
          refine Run.ret ⟨.inr rfl, ?_⟩
          exact hS.imp fun h' hq => ⟨(false), rfl, hq⟩
      refine Run.seq ?_
      refine Run.ops0 (idx := [0, 1, 2]) rfl ?_
      refine Run.go rfl rfl rfl (sem_move ((Value.slice a1 n2 c3)) rfl ?_)
      refine Run.go rfl rfl rfl (sem_lenSl a1 n2 c3 rfl TF.sl_78 ?_)
      refine Run.go rfl rfl rfl (sem_move ((Value.int .i64 (0))) rfl ?_)
      refine Run.region_end ?_
      refine Run.block ?_
      obtain ⟨J36, m34, h0, hS⟩ := hS
      refine Run.of_fin (h0.imp fun h' h0 => ?_)
      refine Run.loop (σ := Int × Nat) (fun x e h => J36 x.1 x.2 h ∧ Agree [(1, (Value.int .i64 (i4))), (5, (Value.pointer p10)), (6, (Value.pointer (some ⟨k11, 0, none⟩))), (25, (Value.slice a1 n2 c3)), (26, (Value.int .i64 ((n2 : Nat)))), (27, (Value.int .i64 (x.1)))] e) (fun x => x.2) ((0), m34) ⟨h0, ⟨rfl, rfl, rfl, rfl, rfl, rfl, trivial⟩⟩ ?_; clear h0
      rintro ⟨i31, m33⟩ e h32 ⟨hJ, hag⟩ ih35
      have hS := hS i31 m33 h32 hJ; clear hJ
      refine Run.env hag ?_; clear hag
      refine Run.seq ?_
      refine Run.ops0 (idx := [0]) rfl ?_
      obtain ⟨hT, hF⟩ := hS
      by_cases hb37 : (i31 : Int) < ((n2 : Nat))
      · have hS := hT hb37; clear hT hF
        refine Run.go rfl rfl rfl (sem_binI .i64 (i31) ((n2 : Nat)) (.bool true) rfl rfl (binI_lss_t hb37) ?_)
        refine Run.region_end ?_
        refine Run.seq ?_
        refine Run.condT rfl ?_
        refine Run.skip ?_
        refine Run.seq ?_
        refine Run.block ?_
        refine Run.seq ?_
        refine Run.ops0 (idx := [0, 1, 2, 3]) rfl ?_
        obtain ⟨A38, e39, hi0, hi1, hS⟩ := hS
        refine Run.go rfl rfl rfl (sem_indexAddrS A38 n2 c3 .i64 (i31) (congrArg (fun a => Value.slice a n2 c3) e39) rfl TF.slc_78 hi0 hi1 ?_)
        obtain ⟨i40, i41, s42, i43, i44, hl, hS⟩ := hS
        refine Run.go rfl rfl rfl (sem_loadN (Addr.add A38 (Int.toNat (i31) * 5)) [(Value.int .i64 (i40)), (Value.int .i64 (i41)), (Value.string s42), (Value.int .i64 (i43)), (Value.int .i64 (i44))] rfl TF.agg_87 TF.sz_87 hl ?_)
        refine Run.go rfl rfl rfl (sem_allocN [(Value.int .i64 (0)), (Value.int .i64 (0)), (Value.string ByteArray.empty), (Value.int .i64 (0)), (Value.int .i64 (0))] TF.zero_87 (fun k45 hb1 hb2 h46 hb3 => ?_))
        have hS := hS k45 hb1 hb2 h46 hb3
        obtain ⟨h47, hst, hS⟩ := hS
        refine Run.go rfl rfl rfl (sem_storeN ⟨k45, 0, none⟩ [(Value.int .i64 (i40)), (Value.int .i64 (i41)), (Value.string s42), (Value.int .i64 (i43)), (Value.int .i64 (i44))] h47 rfl rfl TF.sz_87 hst ?_)
        refine Run.region_end ?_
        refine Run.seq ?_
        refine Run.seq ?_
        refine Run.ops0 (idx := [0, 1, 2, 3]) rfl ?_
        refine Run.go rfl rfl rfl (sem_fieldAddr ⟨k45, 0, none⟩ 2 rfl TF.fld_87_2 ?_)
        obtain ⟨s48, hl, hS⟩ := hS
        refine Run.go rfl rfl rfl (sem_load1 ⟨k45, 2, none⟩ ((Value.string s48)) rfl TF.agg_9 hl ?_)
        refine Run.go rfl rfl rfl (sem_lenStr s48 rfl TF.isStr_9 ?_)
        obtain ⟨hT, hF⟩ := hS
        by_cases hb49 : ((ByteArray.size s48 : Nat) : Int) > (100)
        · have hS := hT hb49; clear hT hF
          refine Run.go rfl rfl rfl (sem_binI .i64 ((ByteArray.size s48 : Nat)) (100) (.bool true) rfl rfl (binI_gtr_t hb49) ?_)
          refine Run.region_end ?_
          refine Run.condT rfl ?_
          refine Run.seq ?_
          refine Run.ops0 (idx := [0]) rfl ?_
          refine Run.go rfl rfl rfl (sem_assign ((Value.bool true)) rfl ?_)
          refine Run.region_end ?_
          refine Run.ret ⟨.inr rfl, ?_⟩
          exact hS.imp fun h' hq => ⟨(true), rfl, hq⟩
        · have hS := hF hb49; clear hT hF
          refine Run.go rfl rfl rfl (sem_binI .i64 ((ByteArray.size s48 : Nat)) (100) (.bool false) rfl rfl (binI_gtr_f hb49) ?_)
          refine Run.region_end ?_
          refine Run.condF rfl ?_
          refine Run.skip ?_
          refine Run.seq ?_
          refine Run.ops0 (idx := [0]) rfl ?_
          refine Run.go rfl rfl rfl (sem_assign ((Value.bool true)) rfl ?_)
          refine Run.region_end ?_
          refine Run.seqJ (fun e h52 => ∃ b51 : Bool, Agree [(1, (Value.int .i64 (i4))), (5, (Value.pointer p10)), (6, (Value.pointer (some ⟨k11, 0, none⟩))), (8, (Value.pointer (some ⟨k45, 0, none⟩))), (9, (Value.bool b51)), (25, (Value.slice a1 n2 c3)), (26, (Value.int .i64 ((n2 : Nat)))), (27, (Value.int .i64 (i31)))] e ∧ S_countermandlaw11_FeedDoes_J2 B a1 n2 c3 i4 p10 k11 i31 m33 J36 k45 b51 h52 Q) ?_ fun j50 => ?_
          · rintro e h52 ⟨b51, hag, hS⟩
            refine Run.env hag ?_; clear hag
            refine Run.seqJ (fun e h54 => Agree [(1, (Value.int .i64 (i4))), (5, (Value.pointer p10)), (6, (Value.pointer (some ⟨k11, 0, none⟩))), (25, (Value.slice a1 n2 c3)), (26, (Value.int .i64 ((n2 : Nat)))), (27, (Value.int .i64 (i31)))] e ∧ S_countermandlaw11_FeedDoes_J3 B a1 n2 c3 i4 p10 k11 i31 m33 J36 h54 Q) ?_ fun j53 => ?_
            · rintro e h54 ⟨hag, hS⟩
              refine Run.env hag ?_; clear hag
              refine Run.seq ?_
              refine Run.ops0 (idx := [0]) rfl ?_
              refine Run.go rfl rfl rfl (sem_assign ((Value.int .i64 (0))) rfl ?_)
              refine Run.region_end ?_
              refine Run.block ?_
              obtain ⟨J60, m58, h0, hS⟩ := hS
              refine Run.of_fin (h0.imp fun h' h0 => ?_)
              refine Run.loop (σ := Int × Nat) (fun x e h => J60 x.1 x.2 h ∧ Agree [(1, (Value.int .i64 (i4))), (5, (Value.pointer p10)), (6, (Value.pointer (some ⟨k11, 0, none⟩))), (10, (Value.int .i64 (x.1))), (25, (Value.slice a1 n2 c3)), (26, (Value.int .i64 ((n2 : Nat)))), (27, (Value.int .i64 (i31)))] e) (fun x => x.2) ((0), m58) ⟨h0, ⟨rfl, rfl, rfl, rfl, rfl, rfl, rfl, trivial⟩⟩ ?_; clear h0
              rintro ⟨i55, m57⟩ e h56 ⟨hJ, hag⟩ ih59
              have hS := hS i55 m57 h56 hJ; clear hJ
              refine Run.env hag ?_; clear hag
              refine Run.seq ?_
              refine Run.seq ?_
              refine Run.ops0 (idx := [0, 1]) rfl ?_
              refine Run.go rfl rfl rfl (sem_move ((Value.int .i64 (i55))) rfl ?_)
              obtain ⟨hT, hF⟩ := hS
              by_cases hb61 : (i55 : Int) < (3)
              · have hS := hT hb61; clear hT hF
                refine Run.go rfl rfl rfl (sem_binI .i64 (i55) (3) (.bool true) rfl rfl (binI_lss_t hb61) ?_)
                refine Run.region_end ?_
                refine Run.condT rfl ?_
                refine Run.skip ?_
                refine Run.seq ?_
                refine Run.block ?_
                refine Run.seq ?_
                refine Run.ops0 (idx := [0, 1, 2, 3, 4, 5, 6, 7]) rfl ?_
                refine Run.go rfl rfl rfl (sem_move ((Value.pointer p10)) rfl ?_)
                refine Run.go rfl rfl rfl (sem_move ((Value.int .i64 (i55))) rfl ?_)
                refine Run.go rfl rfl rfl (sem_callL [(Value.pointer p10), (Value.int .i64 (i55))] (TF.goes_50) rfl rfl (Spec.mono hS fun v h62 hv => ?_))
                obtain ⟨i63, i64, rfl, hS⟩ := hv
                refine Run.go rfl rfl rfl (sem_move ((Value.tuple #[(Value.int .i64 (i63)), (Value.int .i64 (i64))])) rfl ?_)
                refine Run.go rfl rfl rfl (sem_extract #[(Value.int .i64 (i63)), (Value.int .i64 (i64))] ((Value.int .i64 (i63))) rfl rfl ?_)
                refine Run.go rfl rfl rfl (sem_extract #[(Value.int .i64 (i63)), (Value.int .i64 (i64))] ((Value.int .i64 (i64))) rfl rfl ?_)
                refine Run.go rfl rfl rfl (sem_assign ((Value.int .i64 (i63))) rfl ?_)
                refine Run.go rfl rfl rfl (sem_assign ((Value.int .i64 (i64))) rfl ?_)
                refine Run.region_end ?_
                refine Run.seq ?_
                refine Run.ops0 (idx := [0]) rfl ?_
                refine Run.go rfl rfl rfl (sem_assign ((Value.int .i64 ((-1)))) rfl ?_)
                refine Run.region_end ?_
                refine Run.seqJ (fun e h67 => ∃ i66 : Int, Agree [(1, (Value.int .i64 (i4))), (5, (Value.pointer p10)), (6, (Value.pointer (some ⟨k11, 0, none⟩))), (10, (Value.int .i64 (i55))), (11, (Value.int .i64 (i63))), (12, (Value.int .i64 (i64))), (13, (Value.int .i64 (i66))), (25, (Value.slice a1 n2 c3)), (26, (Value.int .i64 ((n2 : Nat)))), (27, (Value.int .i64 (i31)))] e ∧ S_countermandlaw11_FeedDoes_J4 B a1 n2 c3 i4 p10 k11 i31 i55 m57 J60 i63 i64 i66 h67 Q) ?_ fun j65 => ?_
                · rintro e h67 ⟨i66, hag, hS⟩
                  refine Run.env hag ?_; clear hag
                  refine Run.seq ?_
                  refine Run.draw (fun h' => h' = h67) [] [.q 0, .q 1, .q 2, .q 3, .q 4, .q 5, .q 6, .q 7, .q 8, .q 9, .q 10, .q 11, .q 12, .q 13, .q 14, .q 15, .q 16, .q 17, .q 18, .q 19, .q 20, .q 22, .q 23, .q 24, .q 25, .q 26, .q 27, .x 21, .q 28, .q 29, .q 30, .q 31, .q 32, .q 34, .q 35, .q 36, .q 37, .q 38, .q 39, .q 40, .q 41, .x 33, .q 42, .q 43, .q 44, .q 45, .q 46, .q 47, .q 49, .x 48, .q 50, .q 51] TF.mixed (by kernel_rfl) rfl ?_
                  refine RunO.quiet rfl rfl rfl (quiet_eq (sem_move ((Value.int .i64 (i63))) rfl ⟨rfl, rfl⟩)) ?_
                  refine RunO.quiet rfl rfl rfl (quiet_eq (sem_move ((Value.pointer (some ⟨k11, 0, none⟩))) rfl ⟨rfl, rfl⟩)) ?_
                  refine RunO.quiet rfl rfl rfl (quiet_eq (sem_move ((Value.int .i64 (i55))) rfl ⟨rfl, rfl⟩)) ?_
                  refine RunO.quiet rfl rfl rfl (quiet_eq (sem_nilCheck ⟨k11, 0, none⟩ rfl ⟨rfl, rfl⟩)) ?_
                  refine RunO.quiet rfl rfl rfl (quiet_eq (sem_fieldAddr ⟨k11, 0, none⟩ 3 rfl TF.fld_85_1 ⟨rfl, rfl⟩)) ?_
                  obtain ⟨hi0, hi1, hS⟩ := hS
                  refine RunO.quiet rfl rfl rfl (quiet_eq (sem_indexAddrA ⟨k11, 3, none⟩ .i64 (i55) rfl rfl TF.arr_83 hi0 hi1 ⟨rfl, rfl⟩)) ?_
                  obtain ⟨i68, hl, hS⟩ := hS
                  refine RunO.quiet rfl rfl rfl (quiet_eq (sem_load1 (Addr.add ⟨k11, 3, none⟩ (Int.toNat (i55) * 1)) ((Value.int .i64 (i68))) rfl TF.agg_3 hl ⟨rfl, rfl⟩)) ?_
                  obtain ⟨hT, hF⟩ := hS
                  by_cases hb69 : (i63 : Int) = i68
                  · have hS := hT hb69; clear hT hF
                    refine RunO.quiet rfl rfl rfl (quiet_eq (sem_binI .i64 (i63) (i68) (.bool false) rfl rfl (binI_neq_t hb69) ⟨rfl, rfl⟩)) ?_
                    refine RunO.quiet rfl rfl rfl (quiet_eq (sem_move ((Value.bool false)) rfl ⟨rfl, rfl⟩)) ?_
                    refine RunO.quiet rfl rfl rfl (quiet_eq (sem_move ((Value.int .i64 (i64))) rfl ⟨rfl, rfl⟩)) ?_
                    refine RunO.quiet rfl rfl rfl (quiet_eq (sem_move ((Value.pointer (some ⟨k11, 0, none⟩))) rfl ⟨rfl, rfl⟩)) ?_
                    refine RunO.quiet rfl rfl rfl (quiet_eq (sem_move ((Value.int .i64 (i55))) rfl ⟨rfl, rfl⟩)) ?_
                    refine RunO.quiet rfl rfl rfl (quiet_eq (sem_nilCheck ⟨k11, 0, none⟩ rfl ⟨rfl, rfl⟩)) ?_
                    refine RunO.quiet rfl rfl rfl (quiet_eq (sem_fieldAddr ⟨k11, 0, none⟩ 6 rfl TF.fld_85_2 ⟨rfl, rfl⟩)) ?_
                    obtain ⟨hi0, hi1, hS⟩ := hS
                    refine RunO.quiet rfl rfl rfl (quiet_eq (sem_indexAddrA ⟨k11, 6, none⟩ .i64 (i55) rfl rfl TF.arr_83 hi0 hi1 ⟨rfl, rfl⟩)) ?_
                    obtain ⟨i70, hl, hS⟩ := hS
                    refine RunO.quiet rfl rfl rfl (quiet_eq (sem_load1 (Addr.add ⟨k11, 6, none⟩ (Int.toNat (i55) * 1)) ((Value.int .i64 (i70))) rfl TF.agg_3 hl ⟨rfl, rfl⟩)) ?_
                    obtain ⟨hT, hF⟩ := hS
                    by_cases hb71 : (i64 : Int) = i70
                    · have hS := hT hb71; clear hT hF
                      refine RunO.quiet rfl rfl rfl (quiet_eq (sem_binI .i64 (i64) (i70) (.bool false) rfl rfl (binI_neq_t hb71) ⟨rfl, rfl⟩)) ?_
                      refine RunO.quiet rfl rfl rfl (quiet_eq (sem_pick false ((Value.bool false)) rfl rfl ⟨rfl, rfl⟩)) ?_
                      refine RunO.quiet rfl rfl rfl (quiet_eq (sem_move ((Value.bool false)) rfl ⟨rfl, rfl⟩)) ?_
                      refine RunO.quiet rfl rfl rfl (quiet_eq (sem_move ((Value.pointer p10)) rfl ⟨rfl, rfl⟩)) ?_
                      refine RunO.quiet rfl rfl rfl (quiet_eq (sem_move ((Value.int .i64 (i55))) rfl ⟨rfl, rfl⟩)) ?_
                      refine RunO.quiet rfl rfl rfl (quiet_eq (sem_move ((Value.pointer (some ⟨k11, 0, none⟩))) rfl ⟨rfl, rfl⟩)) ?_
                      refine RunO.quiet rfl rfl rfl (quiet_eq (sem_move ((Value.int .i64 (i55))) rfl ⟨rfl, rfl⟩)) ?_
                      refine RunO.quiet rfl rfl rfl (quiet_eq (sem_nilCheck ⟨k11, 0, none⟩ rfl ⟨rfl, rfl⟩)) ?_
                      refine RunO.quiet rfl rfl rfl (quiet_eq (sem_fieldAddr ⟨k11, 0, none⟩ 0 rfl TF.fld_85_0 ⟨rfl, rfl⟩)) ?_
                      obtain ⟨hi0, hi1, hS⟩ := hS
                      refine RunO.quiet rfl rfl rfl (quiet_eq (sem_indexAddrA ⟨k11, 0, none⟩ .i64 (i55) rfl rfl TF.arr_82 hi0 hi1 ⟨rfl, rfl⟩)) ?_
                      obtain ⟨s72, hl, hS⟩ := hS
                      refine RunO.quiet rfl rfl rfl (quiet_eq (sem_load1 (Addr.add ⟨k11, 0, none⟩ (Int.toNat (i55) * 1)) ((Value.string s72)) rfl TF.agg_9 hl ⟨rfl, rfl⟩)) ?_
                      refine OpH.go rfl rfl rfl (sem_callL [(Value.pointer p10), (Value.int .i64 (i55))] (TF.goes_47) rfl rfl (Spec.mono hS fun v h73 hv => ?_))
                      obtain ⟨s74, rfl, hS⟩ := hv
                      obtain ⟨hE, hS⟩ := hS
                      subst hE
                      refine ⟨fun _ => rfl, ?_⟩
                      obtain ⟨hT, hF⟩ := hS
                      by_cases hb75 : s74 = s72
                      · have hS := hT hb75; clear hT hF
                        refine RunO.quiet rfl rfl rfl (quiet_eq (sem_strNeT s74 s72 rfl rfl hb75 ⟨rfl, rfl⟩)) ?_
                        refine RunO.quiet rfl rfl rfl (quiet_eq (sem_pick false ((Value.bool false)) rfl rfl ⟨rfl, rfl⟩)) ?_
                        refine RunO.quiet rfl rfl rfl (quiet_eq (sem_move ((Value.bool false)) rfl ⟨rfl, rfl⟩)) ?_
                        refine RunO.quiet rfl rfl rfl (quiet_eq (sem_move ((Value.pointer p10)) rfl ⟨rfl, rfl⟩)) ?_
                        refine RunO.quiet rfl rfl rfl (quiet_eq (sem_move ((Value.int .i64 (i55))) rfl ⟨rfl, rfl⟩)) ?_
                        refine RunO.quiet rfl rfl rfl (quiet_eq (sem_move ((Value.pointer (some ⟨k11, 0, none⟩))) rfl ⟨rfl, rfl⟩)) ?_
                        refine RunO.quiet rfl rfl rfl (quiet_eq (sem_move ((Value.int .i64 (i55))) rfl ⟨rfl, rfl⟩)) ?_
                        refine RunO.quiet rfl rfl rfl (quiet_eq (sem_nilCheck ⟨k11, 0, none⟩ rfl ⟨rfl, rfl⟩)) ?_
                        refine RunO.quiet rfl rfl rfl (quiet_eq (sem_fieldAddr ⟨k11, 0, none⟩ 0 rfl TF.fld_85_0 ⟨rfl, rfl⟩)) ?_
                        obtain ⟨hi0, hi1, hS⟩ := hS
                        refine RunO.quiet rfl rfl rfl (quiet_eq (sem_indexAddrA ⟨k11, 0, none⟩ .i64 (i55) rfl rfl TF.arr_82 hi0 hi1 ⟨rfl, rfl⟩)) ?_
                        obtain ⟨s76, hl, hS⟩ := hS
                        refine RunO.quiet rfl rfl rfl (quiet_eq (sem_load1 (Addr.add ⟨k11, 0, none⟩ (Int.toNat (i55) * 1)) ((Value.string s76)) rfl TF.agg_9 hl ⟨rfl, rfl⟩)) ?_
                        refine RunO.quiet rfl rfl rfl (quiet_eq (sem_move ((Value.int .i64 (i63))) rfl ⟨rfl, rfl⟩)) ?_
                        obtain ⟨hi0, hi1, hi2, hS⟩ := hS
                        refine RunO.quiet rfl rfl rfl (quiet_eq (sem_sliceStrI s76 (i63) ((ByteArray.size s76 : Nat)) rfl TF.isStr_9 ⟨_, rfl⟩ rfl hi0 hi1 hi2 ⟨rfl, rfl⟩)) ?_
                        refine OpH.go rfl rfl rfl (sem_callL [(Value.pointer p10), (Value.int .i64 (i55))] (TF.goes_48) rfl rfl (Spec.mono hS fun v h77 hv => ?_))
                        obtain ⟨s78, rfl, hS⟩ := hv
                        obtain ⟨hE, hS⟩ := hS
                        subst hE
                        refine ⟨fun _ => rfl, ?_⟩
                        obtain ⟨hT, hF⟩ := hS
                        by_cases hb79 : s78 = (ByteArray.extract s76 (Int.toNat (i63)) (Int.toNat ((ByteArray.size s76 : Nat))))
                        · have hS := hT hb79; clear hT hF
                          refine RunO.quiet rfl rfl rfl (quiet_eq (sem_strNeT s78 (ByteArray.extract s76 (Int.toNat (i63)) (Int.toNat ((ByteArray.size s76 : Nat)))) rfl rfl hb79 ⟨rfl, rfl⟩)) ?_
                          refine RunO.quiet rfl rfl rfl (quiet_eq (sem_pick false ((Value.bool false)) rfl rfl ⟨rfl, rfl⟩)) ?_
                          refine RunO.quiet rfl rfl rfl (quiet_eq (sem_move ((Value.bool false)) rfl ⟨rfl, rfl⟩)) ?_
                          refine RunO.quiet rfl rfl rfl (quiet_eq (sem_move ((Value.pointer p10)) rfl ⟨rfl, rfl⟩)) ?_
                          refine RunO.quiet rfl rfl rfl (quiet_eq (sem_move ((Value.int .i64 (i55))) rfl ⟨rfl, rfl⟩)) ?_
                          refine RunO.quiet rfl rfl rfl (quiet_eq (sem_move ((Value.int .i64 (i4))) rfl ⟨rfl, rfl⟩)) ?_
                          refine RunO.quiet rfl rfl rfl (quiet_eq (sem_move ((Value.int .i64 (i66))) rfl ⟨rfl, rfl⟩)) ?_
                          refine OpH.go rfl rfl rfl (sem_callL [(Value.pointer p10), (Value.int .i64 (i55)), (Value.int .i64 (i4))] (TF.goes_49) rfl rfl (Spec.mono hS fun v h80 hv => ?_))
                          obtain ⟨i81, rfl, hS⟩ := hv
                          obtain ⟨hE, hS⟩ := hS
                          subst hE
                          refine ⟨fun _ => rfl, ?_⟩
                          obtain ⟨hT, hF⟩ := hS
                          by_cases hb82 : (i81 : Int) = i66
                          · have hS := hT hb82; clear hT hF
                            refine RunO.quiet rfl rfl rfl (quiet_eq (sem_binI .i64 (i81) (i66) (.bool false) rfl rfl (binI_neq_t hb82) ⟨rfl, rfl⟩)) ?_
                            refine RunO.quiet rfl rfl rfl (quiet_eq (sem_pick false ((Value.bool false)) rfl rfl ⟨rfl, rfl⟩)) ?_
                            refine Run.condF rfl ?_
                            refine Run.skip ?_
                            refine Run.inBlock ?_
                            refine Run.ops0 (idx := [0, 1, 2]) rfl ?_
                            refine Run.go rfl rfl rfl (sem_move ((Value.int .i64 (i55))) rfl ?_)
                            refine Run.go rfl rfl rfl (sem_binI .i64 (i55) (1) ((Value.int .i64 (IntKind.wrap .i64 ((i55) + (1))))) rfl rfl rfl ?_)
                            refine Run.go rfl rfl rfl (sem_assign ((Value.int .i64 (IntKind.wrap .i64 ((i55) + (1))))) rfl ?_)
                            refine Run.region_end ?_
                            exact Run.of_fin (hS.imp fun h' ⟨m', hm, hS⟩ => ih59 ((IntKind.wrap .i64 ((i55) + (1))), m') _ _ ⟨hS, ⟨rfl, rfl, rfl, rfl, rfl, rfl, rfl, trivial⟩⟩ hm)
                          · have hS := hF hb82; clear hT hF
                            refine RunO.quiet rfl rfl rfl (quiet_eq (sem_binI .i64 (i81) (i66) (.bool true) rfl rfl (binI_neq_f hb82) ⟨rfl, rfl⟩)) ?_
                            refine RunO.quiet rfl rfl rfl (quiet_eq (sem_pick false ((Value.bool true)) rfl rfl ⟨rfl, rfl⟩)) ?_
                            refine Run.condT rfl ?_
                            refine Run.seq ?_
                            refine Run.ops0 (idx := [0]) rfl ?_
                            refine Run.go rfl rfl rfl (sem_assign ((Value.bool false)) rfl ?_)
                            refine Run.region_end ?_
                            refine Run.ret ⟨.inr rfl, ?_⟩
                            exact hS.imp fun h' hq => ⟨(false), rfl, hq⟩
                        · have hS := hF hb79; clear hT hF
                          refine RunO.quiet rfl rfl rfl (quiet_eq (sem_strNeF s78 (ByteArray.extract s76 (Int.toNat (i63)) (Int.toNat ((ByteArray.size s76 : Nat)))) rfl rfl hb79 ⟨rfl, rfl⟩)) ?_
                          refine RunO.quiet rfl rfl rfl (quiet_eq (sem_pick false ((Value.bool true)) rfl rfl ⟨rfl, rfl⟩)) ?_
                          refine RunO.quiet rfl rfl rfl (quiet_eq (sem_move ((Value.bool true)) rfl ⟨rfl, rfl⟩)) ?_
                          refine RunO.skip rfl rfl rfl ?_
                          refine RunO.skip rfl rfl rfl ?_
                          refine RunO.skip rfl rfl rfl ?_
                          refine RunO.skip rfl rfl rfl ?_
                          refine OpH.no rfl rfl rfl ⟨fun _ => rfl, ?_⟩
                          refine RunO.skip rfl rfl rfl ?_
                          refine RunO.quiet rfl rfl rfl (quiet_eq (sem_pick true ((Value.bool true)) rfl rfl ⟨rfl, rfl⟩)) ?_
                          refine Run.condT rfl ?_
                          refine Run.seq ?_
                          refine Run.ops0 (idx := [0]) rfl ?_
                          refine Run.go rfl rfl rfl (sem_assign ((Value.bool false)) rfl ?_)
                          refine Run.region_end ?_
                          refine Run.ret ⟨.inr rfl, ?_⟩
                          exact hS.imp fun h' hq => ⟨(false), rfl, hq⟩
                      · have hS := hF hb75; clear hT hF
                        refine RunO.quiet rfl rfl rfl (quiet_eq (sem_strNeF s74 s72 rfl rfl hb75 ⟨rfl, rfl⟩)) ?_
                        refine RunO.quiet rfl rfl rfl (quiet_eq (sem_pick false ((Value.bool true)) rfl rfl ⟨rfl, rfl⟩)) ?_
                        refine RunO.quiet rfl rfl rfl (quiet_eq (sem_move ((Value.bool true)) rfl ⟨rfl, rfl⟩)) ?_
                        refine RunO.skip rfl rfl rfl ?_
                        refine RunO.skip rfl rfl rfl ?_
                        refine RunO.skip rfl rfl rfl ?_
                        refine RunO.skip rfl rfl rfl ?_
                        refine RunO.skip rfl rfl rfl ?_
                        refine RunO.skip rfl rfl rfl ?_
                        refine RunO.skip rfl rfl rfl ?_
                        refine RunO.skip rfl rfl rfl ?_
                        refine RunO.skip rfl rfl rfl ?_
                        refine RunO.skip rfl rfl rfl ?_
                        refine OpH.no rfl rfl rfl ⟨fun _ => rfl, ?_⟩
                        refine RunO.skip rfl rfl rfl ?_
                        refine RunO.quiet rfl rfl rfl (quiet_eq (sem_pick true ((Value.bool true)) rfl rfl ⟨rfl, rfl⟩)) ?_
                        refine RunO.quiet rfl rfl rfl (quiet_eq (sem_move ((Value.bool true)) rfl ⟨rfl, rfl⟩)) ?_
                        refine RunO.skip rfl rfl rfl ?_
                        refine RunO.skip rfl rfl rfl ?_
                        refine RunO.skip rfl rfl rfl ?_
                        refine RunO.skip rfl rfl rfl ?_
                        refine OpH.no rfl rfl rfl ⟨fun _ => rfl, ?_⟩
                        refine RunO.skip rfl rfl rfl ?_
                        refine RunO.quiet rfl rfl rfl (quiet_eq (sem_pick true ((Value.bool true)) rfl rfl ⟨rfl, rfl⟩)) ?_
                        refine Run.condT rfl ?_
                        refine Run.seq ?_
                        refine Run.ops0 (idx := [0]) rfl ?_
                        refine Run.go rfl rfl rfl (sem_assign ((Value.bool false)) rfl ?_)
                        refine Run.region_end ?_
                        refine Run.ret ⟨.inr rfl, ?_⟩
                        exact hS.imp fun h' hq => ⟨(false), rfl, hq⟩
                    · have hS := hF hb71; clear hT hF
                      refine RunO.quiet rfl rfl rfl (quiet_eq (sem_binI .i64 (i64) (i70) (.bool true) rfl rfl (binI_neq_f hb71) ⟨rfl, rfl⟩)) ?_
                      refine RunO.quiet rfl rfl rfl (quiet_eq (sem_pick false ((Value.bool true)) rfl rfl ⟨rfl, rfl⟩)) ?_
                      refine RunO.quiet rfl rfl rfl (quiet_eq (sem_move ((Value.bool true)) rfl ⟨rfl, rfl⟩)) ?_
                      refine RunO.skip rfl rfl rfl ?_
                      refine RunO.skip rfl rfl rfl ?_
                      refine RunO.skip rfl rfl rfl ?_
                      refine RunO.skip rfl rfl rfl ?_
                      refine RunO.skip rfl rfl rfl ?_
                      refine RunO.skip rfl rfl rfl ?_
                      refine RunO.skip rfl rfl rfl ?_
                      refine RunO.skip rfl rfl rfl ?_
                      refine OpH.no rfl rfl rfl ⟨fun _ => rfl, ?_⟩
                      refine RunO.skip rfl rfl rfl ?_
                      refine RunO.quiet rfl rfl rfl (quiet_eq (sem_pick true ((Value.bool true)) rfl rfl ⟨rfl, rfl⟩)) ?_
                      refine RunO.quiet rfl rfl rfl (quiet_eq (sem_move ((Value.bool true)) rfl ⟨rfl, rfl⟩)) ?_
                      refine RunO.skip rfl rfl rfl ?_
                      refine RunO.skip rfl rfl rfl ?_
                      refine RunO.skip rfl rfl rfl ?_
                      refine RunO.skip rfl rfl rfl ?_
                      refine RunO.skip rfl rfl rfl ?_
                      refine RunO.skip rfl rfl rfl ?_
                      refine RunO.skip rfl rfl rfl ?_
                      refine RunO.skip rfl rfl rfl ?_
                      refine RunO.skip rfl rfl rfl ?_
                      refine RunO.skip rfl rfl rfl ?_
                      refine OpH.no rfl rfl rfl ⟨fun _ => rfl, ?_⟩
                      refine RunO.skip rfl rfl rfl ?_
                      refine RunO.quiet rfl rfl rfl (quiet_eq (sem_pick true ((Value.bool true)) rfl rfl ⟨rfl, rfl⟩)) ?_
                      refine RunO.quiet rfl rfl rfl (quiet_eq (sem_move ((Value.bool true)) rfl ⟨rfl, rfl⟩)) ?_
                      refine RunO.skip rfl rfl rfl ?_
                      refine RunO.skip rfl rfl rfl ?_
                      refine RunO.skip rfl rfl rfl ?_
                      refine RunO.skip rfl rfl rfl ?_
                      refine OpH.no rfl rfl rfl ⟨fun _ => rfl, ?_⟩
                      refine RunO.skip rfl rfl rfl ?_
                      refine RunO.quiet rfl rfl rfl (quiet_eq (sem_pick true ((Value.bool true)) rfl rfl ⟨rfl, rfl⟩)) ?_
                      refine Run.condT rfl ?_
                      refine Run.seq ?_
                      refine Run.ops0 (idx := [0]) rfl ?_
                      refine Run.go rfl rfl rfl (sem_assign ((Value.bool false)) rfl ?_)
                      refine Run.region_end ?_
                      refine Run.ret ⟨.inr rfl, ?_⟩
                      exact hS.imp fun h' hq => ⟨(false), rfl, hq⟩
                  · have hS := hF hb69; clear hT hF
                    refine RunO.quiet rfl rfl rfl (quiet_eq (sem_binI .i64 (i63) (i68) (.bool true) rfl rfl (binI_neq_f hb69) ⟨rfl, rfl⟩)) ?_
                    refine RunO.quiet rfl rfl rfl (quiet_eq (sem_move ((Value.bool true)) rfl ⟨rfl, rfl⟩)) ?_
                    refine RunO.skip rfl rfl rfl ?_
                    refine RunO.skip rfl rfl rfl ?_
                    refine RunO.skip rfl rfl rfl ?_
                    refine RunO.skip rfl rfl rfl ?_
                    refine RunO.skip rfl rfl rfl ?_
                    refine RunO.skip rfl rfl rfl ?_
                    refine RunO.skip rfl rfl rfl ?_
                    refine RunO.skip rfl rfl rfl ?_
                    refine RunO.quiet rfl rfl rfl (quiet_eq (sem_pick true ((Value.bool true)) rfl rfl ⟨rfl, rfl⟩)) ?_
                    refine RunO.quiet rfl rfl rfl (quiet_eq (sem_move ((Value.bool true)) rfl ⟨rfl, rfl⟩)) ?_
                    refine RunO.skip rfl rfl rfl ?_
                    refine RunO.skip rfl rfl rfl ?_
                    refine RunO.skip rfl rfl rfl ?_
                    refine RunO.skip rfl rfl rfl ?_
                    refine RunO.skip rfl rfl rfl ?_
                    refine RunO.skip rfl rfl rfl ?_
                    refine RunO.skip rfl rfl rfl ?_
                    refine RunO.skip rfl rfl rfl ?_
                    refine OpH.no rfl rfl rfl ⟨fun _ => rfl, ?_⟩
                    refine RunO.skip rfl rfl rfl ?_
                    refine RunO.quiet rfl rfl rfl (quiet_eq (sem_pick true ((Value.bool true)) rfl rfl ⟨rfl, rfl⟩)) ?_
                    refine RunO.quiet rfl rfl rfl (quiet_eq (sem_move ((Value.bool true)) rfl ⟨rfl, rfl⟩)) ?_
                    refine RunO.skip rfl rfl rfl ?_
                    refine RunO.skip rfl rfl rfl ?_
                    refine RunO.skip rfl rfl rfl ?_
                    refine RunO.skip rfl rfl rfl ?_
                    refine RunO.skip rfl rfl rfl ?_
                    refine RunO.skip rfl rfl rfl ?_
                    refine RunO.skip rfl rfl rfl ?_
                    refine RunO.skip rfl rfl rfl ?_
                    refine RunO.skip rfl rfl rfl ?_
                    refine RunO.skip rfl rfl rfl ?_
                    refine OpH.no rfl rfl rfl ⟨fun _ => rfl, ?_⟩
                    refine RunO.skip rfl rfl rfl ?_
                    refine RunO.quiet rfl rfl rfl (quiet_eq (sem_pick true ((Value.bool true)) rfl rfl ⟨rfl, rfl⟩)) ?_
                    refine RunO.quiet rfl rfl rfl (quiet_eq (sem_move ((Value.bool true)) rfl ⟨rfl, rfl⟩)) ?_
                    refine RunO.skip rfl rfl rfl ?_
                    refine RunO.skip rfl rfl rfl ?_
                    refine RunO.skip rfl rfl rfl ?_
                    refine RunO.skip rfl rfl rfl ?_
                    refine OpH.no rfl rfl rfl ⟨fun _ => rfl, ?_⟩
                    refine RunO.skip rfl rfl rfl ?_
                    refine RunO.quiet rfl rfl rfl (quiet_eq (sem_pick true ((Value.bool true)) rfl rfl ⟨rfl, rfl⟩)) ?_
                    refine Run.condT rfl ?_
                    refine Run.seq ?_
                    refine Run.ops0 (idx := [0]) rfl ?_
                    refine Run.go rfl rfl rfl (sem_assign ((Value.bool false)) rfl ?_)
                    refine Run.region_end ?_
                    refine Run.ret ⟨.inr rfl, ?_⟩
                    exact hS.imp fun h' hq => ⟨(false), rfl, hq⟩
                refine Run.seqJ (fun e h85 => ∃ b84 : Bool, Agree [(1, (Value.int .i64 (i4))), (5, (Value.pointer p10)), (6, (Value.pointer (some ⟨k11, 0, none⟩))), (10, (Value.int .i64 (i55))), (11, (Value.int .i64 (i63))), (12, (Value.int .i64 (i64))), (13, (Value.int .i64 ((-1)))), (25, (Value.slice a1 n2 c3)), (26, (Value.int .i64 ((n2 : Nat)))), (27, (Value.int .i64 (i31))), (117, (Value.bool b84))] e ∧ S_countermandlaw11_FeedDoes_J5 B a1 n2 c3 i4 p10 k11 i31 i55 m57 J60 i63 i64 b84 h85 Q) ?_ fun j83 => ?_
                · rintro e h85 ⟨b84, hag, hS⟩
                  refine Run.env hag ?_; clear hag
                  obtain ⟨hT, hF⟩ := hS
                  cases b84
                  · have hS := hF rfl; clear hT hF
                    refine Run.condF rfl ?_
                    refine Run.skip ?_
                    exact Run.of_fin (hS.imp fun h' hS => j65 _ _ ⟨((-1)), ⟨rfl, rfl, rfl, rfl, rfl, rfl, rfl, rfl, rfl, rfl, trivial⟩, hS⟩)
                  · have hS := hT rfl; clear hT hF
                    refine Run.condT rfl ?_
                    refine Run.ops0 (idx := [0, 1, 2, 3, 4, 5, 6, 7, 8, 9]) rfl ?_
                    refine Run.go rfl rfl rfl (sem_move ((Value.pointer (some ⟨k11, 0, none⟩))) rfl ?_)
                    refine Run.go rfl rfl rfl (sem_move ((Value.int .i64 (i55))) rfl ?_)
                    refine Run.go rfl rfl rfl (sem_nilCheck ⟨k11, 0, none⟩ rfl ?_)
                    refine Run.go rfl rfl rfl (sem_fieldAddr ⟨k11, 0, none⟩ 0 rfl TF.fld_85_0 ?_)
                    obtain ⟨hi0, hi1, hS⟩ := hS
                    refine Run.go rfl rfl rfl (sem_indexAddrA ⟨k11, 0, none⟩ .i64 (i55) rfl rfl TF.arr_82 hi0 hi1 ?_)
                    obtain ⟨s86, hl, hS⟩ := hS
                    refine Run.go rfl rfl rfl (sem_load1 (Addr.add ⟨k11, 0, none⟩ (Int.toNat (i55) * 1)) ((Value.string s86)) rfl TF.agg_9 hl ?_)
                    refine Run.go rfl rfl rfl (sem_move ((Value.int .i64 (i4))) rfl ?_)
                    obtain ⟨hi0, hi1, hS⟩ := hS
                    refine Run.go rfl rfl rfl (sem_indexStr' s86 .i64 (i4) rfl rfl TF.isStr_9 hi0 hi1 ?_)
                    refine Run.go rfl rfl rfl (sem_convI .u8 .i64 (byteAt s86 (Int.toNat (i4))) rfl TF.int_5 TF.int_3 ?_)
                    refine Run.go rfl rfl rfl (sem_assign ((Value.int .i64 (IntKind.wrap .i64 (byteAt s86 (Int.toNat (i4)))))) rfl ?_)
                    refine Run.region_end ?_
                    exact Run.of_fin (hS.imp fun h' hS => j65 _ _ ⟨(IntKind.wrap .i64 (byteAt s86 (Int.toNat (i4)))), ⟨rfl, rfl, rfl, rfl, rfl, rfl, rfl, rfl, rfl, rfl, trivial⟩, hS⟩)
                refine Run.ops0 (idx := [0, 1, 2, 3, 4, 5, 6, 7, 8, 9, 10, 11, 12]) rfl ?_
                refine Run.go rfl rfl rfl (sem_move ((Value.int .i64 (i4))) rfl ?_)
                obtain ⟨hT, hF⟩ := hS
                by_cases hb87 : (i4 : Int) ≥ (0)
                · have hS := hT hb87; clear hT hF
                  refine Run.go rfl rfl rfl (sem_binI .i64 (i4) (0) (.bool true) rfl rfl (binI_geq_t hb87) ?_)
                  refine Run.go rfl rfl rfl (sem_move ((Value.bool true)) rfl ?_)
                  refine Run.go rfl rfl rfl (sem_move ((Value.int .i64 (i4))) rfl ?_)
                  refine Run.go rfl rfl rfl (sem_move ((Value.pointer (some ⟨k11, 0, none⟩))) rfl ?_)
                  refine Run.go rfl rfl rfl (sem_move ((Value.int .i64 (i55))) rfl ?_)
                  refine Run.go rfl rfl rfl (sem_nilCheck ⟨k11, 0, none⟩ rfl ?_)
                  refine Run.go rfl rfl rfl (sem_fieldAddr ⟨k11, 0, none⟩ 0 rfl TF.fld_85_0 ?_)
                  obtain ⟨hi0, hi1, hS⟩ := hS
                  refine Run.go rfl rfl rfl (sem_indexAddrA ⟨k11, 0, none⟩ .i64 (i55) rfl rfl TF.arr_82 hi0 hi1 ?_)
                  obtain ⟨s88, hl, hS⟩ := hS
                  refine Run.go rfl rfl rfl (sem_load1 (Addr.add ⟨k11, 0, none⟩ (Int.toNat (i55) * 1)) ((Value.string s88)) rfl TF.agg_9 hl ?_)
                  refine Run.go rfl rfl rfl (sem_lenStr s88 rfl TF.isStr_9 ?_)
                  obtain ⟨hT, hF⟩ := hS
                  by_cases hb89 : (i4 : Int) < ((ByteArray.size s88 : Nat))
                  · have hS := hT hb89; clear hT hF
                    refine Run.go rfl rfl rfl (sem_binI .i64 (i4) ((ByteArray.size s88 : Nat)) (.bool true) rfl rfl (binI_lss_t hb89) ?_)
                    refine Run.go rfl rfl rfl (sem_pick true ((Value.bool true)) rfl rfl ?_)
                    refine Run.region_end ?_
                    exact Run.of_fin (hS.imp fun h' hS => j83 _ _ ⟨(true), ⟨rfl, rfl, rfl, rfl, rfl, rfl, rfl, rfl, rfl, rfl, rfl, trivial⟩, hS⟩)
                  · have hS := hF hb89; clear hT hF
                    refine Run.go rfl rfl rfl (sem_binI .i64 (i4) ((ByteArray.size s88 : Nat)) (.bool false) rfl rfl (binI_lss_f hb89) ?_)
                    refine Run.go rfl rfl rfl (sem_pick true ((Value.bool false)) rfl rfl ?_)
                    refine Run.region_end ?_
                    exact Run.of_fin (hS.imp fun h' hS => j83 _ _ ⟨(false), ⟨rfl, rfl, rfl, rfl, rfl, rfl, rfl, rfl, rfl, rfl, rfl, trivial⟩, hS⟩)
                · have hS := hF hb87; clear hT hF
                  refine Run.go rfl rfl rfl (sem_binI .i64 (i4) (0) (.bool false) rfl rfl (binI_geq_f hb87) ?_)
                  refine Run.go rfl rfl rfl (sem_move ((Value.bool false)) rfl ?_)
                  refine Run.no rfl rfl rfl ?_
                  refine Run.no rfl rfl rfl ?_
                  refine Run.no rfl rfl rfl ?_
                  refine Run.no rfl rfl rfl ?_
                  refine Run.no rfl rfl rfl ?_
                  refine Run.no rfl rfl rfl ?_
                  refine Run.no rfl rfl rfl ?_
                  refine Run.no rfl rfl rfl ?_
                  refine Run.no rfl rfl rfl ?_
                  refine Run.go rfl rfl rfl (sem_pick false ((Value.bool false)) rfl rfl ?_)
                  refine Run.region_end ?_
                  exact Run.of_fin (hS.imp fun h' hS => j83 _ _ ⟨(false), ⟨rfl, rfl, rfl, rfl, rfl, rfl, rfl, rfl, rfl, rfl, rfl, trivial⟩, hS⟩)
              · have hS := hF hb61; clear hT hF
                refine Run.go rfl rfl rfl (sem_binI .i64 (i55) (3) (.bool false) rfl rfl (binI_lss_f hb61) ?_)
                refine Run.region_end ?_
                refine Run.condF rfl ?_
                refine Run.exit rfl ?_
                refine Run.inBlock ?_
                refine Run.ops0 (idx := [0, 1]) rfl ?_
                refine Run.go rfl rfl rfl (sem_binI .i64 (i31) (1) ((Value.int .i64 (IntKind.wrap .i64 ((i31) + (1))))) rfl rfl rfl ?_)
                refine Run.go rfl rfl rfl (sem_move ((Value.int .i64 (IntKind.wrap .i64 ((i31) + (1))))) rfl ?_)
                refine Run.region_end ?_
                exact Run.of_fin (hS.imp fun h' ⟨m', hm, hS⟩ => ih35 ((IntKind.wrap .i64 ((i31) + (1))), m') _ _ ⟨hS, ⟨rfl, rfl, rfl, rfl, rfl, rfl, trivial⟩⟩ hm)
            refine Run.seq ?_
            refine Run.draw (fun h' => h' = h52) [] [.q 0, .q 1, .q 2, .q 3, .q 4, .x 5, .q 6, .q 7, .q 8, .q 9, .q 10, .q 12, .q 13, .q 14, .x 11, .x 15, .q 16, .q 17, .q 18, .q 19, .q 20, .q 21, .x 22, .q 23, .q 24, .q 25, .q 26] TF.mixed (by kernel_rfl) rfl ?_
            obtain ⟨hT, hF⟩ := hS
            cases b51
            · have hS := hF rfl; clear hT hF
              refine RunO.quiet rfl rfl rfl (quiet_eq (sem_move (.bool false) rfl ⟨rfl, rfl⟩)) ?_
              refine RunO.quiet rfl rfl rfl (quiet_eq (sem_not false rfl ⟨rfl, rfl⟩)) ?_
              refine RunO.quiet rfl rfl rfl (quiet_eq (sem_move ((Value.bool true)) rfl ⟨rfl, rfl⟩)) ?_
              refine RunO.skip rfl rfl rfl ?_
              refine RunO.skip rfl rfl rfl ?_
              refine OpH.no rfl rfl rfl ⟨fun _ => rfl, ?_⟩
              refine RunO.skip rfl rfl rfl ?_
              refine RunO.skip rfl rfl rfl ?_
              refine RunO.skip rfl rfl rfl ?_
              refine RunO.skip rfl rfl rfl ?_
              refine RunO.skip rfl rfl rfl ?_
              refine RunO.skip rfl rfl rfl ?_
              refine RunO.skip rfl rfl rfl ?_
              refine RunO.skip rfl rfl rfl ?_
              refine OpH.no rfl rfl rfl ⟨fun _ => rfl, ?_⟩
              refine OpH.no rfl rfl rfl ⟨fun _ => rfl, ?_⟩
              refine RunO.skip rfl rfl rfl ?_
              refine RunO.skip rfl rfl rfl ?_
              refine RunO.skip rfl rfl rfl ?_
              refine RunO.skip rfl rfl rfl ?_
              refine RunO.skip rfl rfl rfl ?_
              refine RunO.skip rfl rfl rfl ?_
              refine OpH.no rfl rfl rfl ⟨fun _ => rfl, ?_⟩
              refine RunO.skip rfl rfl rfl ?_
              refine RunO.skip rfl rfl rfl ?_
              refine RunO.skip rfl rfl rfl ?_
              refine RunO.quiet rfl rfl rfl (quiet_eq (sem_pick true ((Value.bool true)) rfl rfl ⟨rfl, rfl⟩)) ?_
              refine Run.condT rfl ?_
              refine Run.seq ?_
              refine Run.ops0 (idx := [0]) rfl ?_
              refine Run.go rfl rfl rfl (sem_assign ((Value.bool false)) rfl ?_)
              refine Run.region_end ?_
              refine Run.ret ⟨.inr rfl, ?_⟩
              exact hS.imp fun h' hq => ⟨(false), rfl, hq⟩
            · have hS := hT rfl; clear hT hF
              refine RunO.quiet rfl rfl rfl (quiet_eq (sem_move (.bool true) rfl ⟨rfl, rfl⟩)) ?_
              refine RunO.quiet rfl rfl rfl (quiet_eq (sem_not true rfl ⟨rfl, rfl⟩)) ?_
              refine RunO.quiet rfl rfl rfl (quiet_eq (sem_move ((Value.bool false)) rfl ⟨rfl, rfl⟩)) ?_
              refine RunO.quiet rfl rfl rfl (quiet_eq (sem_fieldAddr ⟨k45, 0, none⟩ 1 rfl TF.fld_87_1 ⟨rfl, rfl⟩)) ?_
              obtain ⟨i90, hl, hS⟩ := hS
              refine RunO.quiet rfl rfl rfl (quiet_eq (sem_load1 ⟨k45, 1, none⟩ ((Value.int .i64 (i90))) rfl TF.agg_3 hl ⟨rfl, rfl⟩)) ?_
              refine OpH.go rfl rfl rfl (sem_callL [(Value.int .i64 (i90))] (TF.goes_46) rfl rfl (Spec.mono hS fun v h91 hv => ?_))
              obtain ⟨b92, rfl, hS⟩ := hv
              obtain ⟨hT, hF⟩ := hS
              cases b92
              · have hS := hF rfl; clear hT hF
                obtain ⟨hE, hS⟩ := hS
                subst hE
                refine ⟨fun _ => rfl, ?_⟩
                refine RunO.quiet rfl rfl rfl (quiet_eq (sem_not false rfl ⟨rfl, rfl⟩)) ?_
                refine RunO.quiet rfl rfl rfl (quiet_eq (sem_move ((Value.bool true)) rfl ⟨rfl, rfl⟩)) ?_
                refine RunO.quiet rfl rfl rfl (quiet_eq (sem_move ((Value.pointer p10)) rfl ⟨rfl, rfl⟩)) ?_
                refine RunO.quiet rfl rfl rfl (quiet_eq (sem_fieldAddr ⟨k45, 0, none⟩ 1 rfl TF.fld_87_1 ⟨rfl, rfl⟩)) ?_
                obtain ⟨i93, hl, hS⟩ := hS
                refine RunO.quiet rfl rfl rfl (quiet_eq (sem_load1 ⟨k45, 1, none⟩ ((Value.int .i64 (i93))) rfl TF.agg_3 hl ⟨rfl, rfl⟩)) ?_
                refine RunO.quiet rfl rfl rfl (quiet_eq (sem_move ((Value.pointer p10)) rfl ⟨rfl, rfl⟩)) ?_
                refine RunO.quiet rfl rfl rfl (quiet_eq (sem_fieldAddr ⟨k45, 0, none⟩ 1 rfl TF.fld_87_1 ⟨rfl, rfl⟩)) ?_
                obtain ⟨i94, hl, hS⟩ := hS
                refine RunO.quiet rfl rfl rfl (quiet_eq (sem_load1 ⟨k45, 1, none⟩ ((Value.int .i64 (i94))) rfl TF.agg_3 hl ⟨rfl, rfl⟩)) ?_
                refine OpH.go rfl rfl rfl (sem_callL [(Value.pointer p10), (Value.int .i64 (i93))] (TF.goes_47) rfl rfl (Spec.mono hS fun v h95 hv => ?_))
                obtain ⟨s96, rfl, hS⟩ := hv
                obtain ⟨hE, hS⟩ := hS
                subst hE
                refine ⟨fun _ => rfl, ?_⟩
                refine OpH.go rfl rfl rfl (sem_callL [(Value.pointer p10), (Value.int .i64 (i94))] (TF.goes_48) rfl rfl (Spec.mono hS fun v h97 hv => ?_))
                obtain ⟨s98, rfl, hS⟩ := hv
                obtain ⟨hE, hS⟩ := hS
                subst hE
                refine ⟨fun _ => rfl, ?_⟩
                obtain ⟨hi0, hS⟩ := hS
                refine RunO.quiet rfl rfl rfl (quiet_eq (sem_strAdd s96 s98 rfl rfl hi0 ⟨rfl, rfl⟩)) ?_
                obtain ⟨hT, hF⟩ := hS
                by_cases hb99 : (s96 ++ s98) = (ByteArray.mk #[])
                · have hS := hT hb99; clear hT hF
                  refine RunO.quiet rfl rfl rfl (quiet_eq (sem_strNeT (s96 ++ s98) (ByteArray.mk #[]) rfl rfl hb99 ⟨rfl, rfl⟩)) ?_
                  refine RunO.quiet rfl rfl rfl (quiet_eq (sem_move ((Value.bool false)) rfl ⟨rfl, rfl⟩)) ?_
                  refine RunO.quiet rfl rfl rfl (quiet_eq (sem_move ((Value.pointer p10)) rfl ⟨rfl, rfl⟩)) ?_
                  refine RunO.quiet rfl rfl rfl (quiet_eq (sem_fieldAddr ⟨k45, 0, none⟩ 1 rfl TF.fld_87_1 ⟨rfl, rfl⟩)) ?_
                  obtain ⟨i100, hl, hS⟩ := hS
                  refine RunO.quiet rfl rfl rfl (quiet_eq (sem_load1 ⟨k45, 1, none⟩ ((Value.int .i64 (i100))) rfl TF.agg_3 hl ⟨rfl, rfl⟩)) ?_
                  refine OpH.go rfl rfl rfl (sem_callL [(Value.pointer p10), (Value.int .i64 (i100)), (Value.int .i64 (0))] (TF.goes_49) rfl rfl (Spec.mono hS fun v h101 hv => ?_))
                  obtain ⟨i102, rfl, hS⟩ := hv
                  obtain ⟨hE, hS⟩ := hS
                  subst hE
                  refine ⟨fun _ => rfl, ?_⟩
                  obtain ⟨hT, hF⟩ := hS
                  by_cases hb103 : (i102 : Int) = (-1)
                  · have hS := hT hb103; clear hT hF
                    refine RunO.quiet rfl rfl rfl (quiet_eq (sem_binI .i64 (i102) ((-1)) (.bool false) rfl rfl (binI_neq_t hb103) ⟨rfl, rfl⟩)) ?_
                    refine RunO.quiet rfl rfl rfl (quiet_eq (sem_pick false ((Value.bool false)) rfl rfl ⟨rfl, rfl⟩)) ?_
                    refine RunO.quiet rfl rfl rfl (quiet_eq (sem_pick true ((Value.bool false)) rfl rfl ⟨rfl, rfl⟩)) ?_
                    refine RunO.quiet rfl rfl rfl (quiet_eq (sem_pick false ((Value.bool false)) rfl rfl ⟨rfl, rfl⟩)) ?_
                    refine Run.condF rfl ?_
                    refine Run.skip ?_
                    exact Run.of_fin (hS.imp fun h' hS => j53 _ _ ⟨⟨rfl, rfl, rfl, rfl, rfl, rfl, trivial⟩, hS⟩)
                  · have hS := hF hb103; clear hT hF
                    refine RunO.quiet rfl rfl rfl (quiet_eq (sem_binI .i64 (i102) ((-1)) (.bool true) rfl rfl (binI_neq_f hb103) ⟨rfl, rfl⟩)) ?_
                    refine RunO.quiet rfl rfl rfl (quiet_eq (sem_pick false ((Value.bool true)) rfl rfl ⟨rfl, rfl⟩)) ?_
                    refine RunO.quiet rfl rfl rfl (quiet_eq (sem_pick true ((Value.bool true)) rfl rfl ⟨rfl, rfl⟩)) ?_
                    refine RunO.quiet rfl rfl rfl (quiet_eq (sem_pick false ((Value.bool true)) rfl rfl ⟨rfl, rfl⟩)) ?_
                    refine Run.condT rfl ?_
                    refine Run.seq ?_
                    refine Run.ops0 (idx := [0]) rfl ?_
                    refine Run.go rfl rfl rfl (sem_assign ((Value.bool false)) rfl ?_)
                    refine Run.region_end ?_
                    refine Run.ret ⟨.inr rfl, ?_⟩
                    exact hS.imp fun h' hq => ⟨(false), rfl, hq⟩
                · have hS := hF hb99; clear hT hF
                  refine RunO.quiet rfl rfl rfl (quiet_eq (sem_strNeF (s96 ++ s98) (ByteArray.mk #[]) rfl rfl hb99 ⟨rfl, rfl⟩)) ?_
                  refine RunO.quiet rfl rfl rfl (quiet_eq (sem_move ((Value.bool true)) rfl ⟨rfl, rfl⟩)) ?_
                  refine RunO.skip rfl rfl rfl ?_
                  refine RunO.skip rfl rfl rfl ?_
                  refine RunO.skip rfl rfl rfl ?_
                  refine OpH.no rfl rfl rfl ⟨fun _ => rfl, ?_⟩
                  refine RunO.skip rfl rfl rfl ?_
                  refine RunO.quiet rfl rfl rfl (quiet_eq (sem_pick true ((Value.bool true)) rfl rfl ⟨rfl, rfl⟩)) ?_
                  refine RunO.quiet rfl rfl rfl (quiet_eq (sem_pick true ((Value.bool true)) rfl rfl ⟨rfl, rfl⟩)) ?_
                  refine RunO.quiet rfl rfl rfl (quiet_eq (sem_pick false ((Value.bool true)) rfl rfl ⟨rfl, rfl⟩)) ?_
                  refine Run.condT rfl ?_
                  refine Run.seq ?_
                  refine Run.ops0 (idx := [0]) rfl ?_
                  refine Run.go rfl rfl rfl (sem_assign ((Value.bool false)) rfl ?_)
                  refine Run.region_end ?_
                  refine Run.ret ⟨.inr rfl, ?_⟩
                  exact hS.imp fun h' hq => ⟨(false), rfl, hq⟩
              · have hS := hT rfl; clear hT hF
                obtain ⟨hE, hS⟩ := hS
                subst hE
                refine ⟨fun _ => rfl, ?_⟩
                refine RunO.quiet rfl rfl rfl (quiet_eq (sem_not true rfl ⟨rfl, rfl⟩)) ?_
                refine RunO.quiet rfl rfl rfl (quiet_eq (sem_move ((Value.bool false)) rfl ⟨rfl, rfl⟩)) ?_
                refine RunO.skip rfl rfl rfl ?_
                refine RunO.skip rfl rfl rfl ?_
                refine RunO.skip rfl rfl rfl ?_
                refine RunO.skip rfl rfl rfl ?_
                refine RunO.skip rfl rfl rfl ?_
                refine RunO.skip rfl rfl rfl ?_
                refine OpH.no rfl rfl rfl ⟨fun _ => rfl, ?_⟩
                refine OpH.no rfl rfl rfl ⟨fun _ => rfl, ?_⟩
                refine RunO.skip rfl rfl rfl ?_
                refine RunO.skip rfl rfl rfl ?_
                refine RunO.skip rfl rfl rfl ?_
                refine RunO.skip rfl rfl rfl ?_
                refine RunO.skip rfl rfl rfl ?_
                refine RunO.skip rfl rfl rfl ?_
                refine OpH.no rfl rfl rfl ⟨fun _ => rfl, ?_⟩
                refine RunO.skip rfl rfl rfl ?_
                refine RunO.skip rfl rfl rfl ?_
                refine RunO.quiet rfl rfl rfl (quiet_eq (sem_pick false ((Value.bool false)) rfl rfl ⟨rfl, rfl⟩)) ?_
                refine RunO.quiet rfl rfl rfl (quiet_eq (sem_pick false ((Value.bool false)) rfl rfl ⟨rfl, rfl⟩)) ?_
                refine Run.condF rfl ?_
                refine Run.skip ?_
                exact Run.of_fin (hS.imp fun h' hS => j53 _ _ ⟨⟨rfl, rfl, rfl, rfl, rfl, rfl, trivial⟩, hS⟩)
          refine Run.seq ?_
          refine Run.ops0 (idx := [0, 1, 2]) rfl ?_
          refine Run.go rfl rfl rfl (sem_fieldAddr ⟨k45, 0, none⟩ 0 rfl TF.fld_87_0 ?_)
          obtain ⟨i104, hl, hS⟩ := hS
          refine Run.go rfl rfl rfl (sem_load1 ⟨k45, 0, none⟩ ((Value.int .i64 (i104))) rfl TF.agg_3 hl ?_)
          obtain ⟨hT, hF⟩ := hS
          by_cases hb105 : (i104 : Int) = 0
          · have hS := hT hb105; clear hT hF
            refine Run.go rfl rfl rfl (sem_binI .i64 (i104) (0) (.bool true) rfl rfl (binI_eql_t hb105) ?_)
            refine Run.region_end ?_
            refine Run.condT rfl ?_
            skip
            skip
            obtain ⟨i108, hl, hS⟩ := hS
            have f109 := hl
            skip
            obtain ⟨s111, hl, hS⟩ := hS
            have f112 := hl
            skip
            skip
            obtain ⟨i115, hl, hS⟩ := hS
            have f116 := hl
            skip
            obtain ⟨s118, hl, hS⟩ := hS
            have f119 := hl
            refine Run.draw (fun h' => cellH B h' ⟨k45, 1, none⟩ = some (Value.int .i64 (i108)) ∧ cellH B h' ⟨k45, 2, none⟩ = some (Value.string s111) ∧ cellH B h' ⟨k45, 1, none⟩ = some (Value.int .i64 (i115)) ∧ cellH B h' ⟨k45, 2, none⟩ = some (Value.string s118) ∧ True) [] [.q 0, .q 1, .q 2, .q 3, .q 4, .q 6, .q 7, .q 8, .q 9, .q 10, .x 5, .x 11, .q 12, .q 13] TF.mixed (by kernel_rfl) ⟨f109, f112, f116, f119, trivial⟩ ?_
            refine RunO.quiet rfl rfl rfl (fun h' hC => sem_move ((Value.pointer p10)) rfl ⟨rfl, rfl⟩) ?_
            refine RunO.quiet rfl rfl rfl (fun h' hC => sem_fieldAddr ⟨k45, 0, none⟩ 1 rfl TF.fld_87_1 ⟨rfl, rfl⟩) ?_
            refine RunO.quiet rfl rfl rfl (fun h' hC => sem_load1 ⟨k45, 1, none⟩ ((Value.int .i64 (i108))) rfl TF.agg_3 hC.1 ⟨rfl, rfl⟩) ?_
            refine RunO.quiet rfl rfl rfl (fun h' hC => sem_fieldAddr ⟨k45, 0, none⟩ 2 rfl TF.fld_87_2 ⟨rfl, rfl⟩) ?_
            refine RunO.quiet rfl rfl rfl (fun h' hC => sem_load1 ⟨k45, 2, none⟩ ((Value.string s111)) rfl TF.agg_9 hC.2.1 ⟨rfl, rfl⟩) ?_
            refine RunO.quiet rfl rfl rfl (fun h' hC => sem_move ((Value.pointer (some ⟨k11, 0, none⟩))) rfl ⟨rfl, rfl⟩) ?_
            refine RunO.quiet rfl rfl rfl (fun h' hC => sem_fieldAddr ⟨k45, 0, none⟩ 1 rfl TF.fld_87_1 ⟨rfl, rfl⟩) ?_
            refine RunO.quiet rfl rfl rfl (fun h' hC => sem_load1 ⟨k45, 1, none⟩ ((Value.int .i64 (i115))) rfl TF.agg_3 hC.2.2.1 ⟨rfl, rfl⟩) ?_
            refine RunO.quiet rfl rfl rfl (fun h' hC => sem_fieldAddr ⟨k45, 0, none⟩ 2 rfl TF.fld_87_2 ⟨rfl, rfl⟩) ?_
            refine RunO.quiet rfl rfl rfl (fun h' hC => sem_load1 ⟨k45, 2, none⟩ ((Value.string s118)) rfl TF.agg_9 hC.2.2.2.1 ⟨rfl, rfl⟩) ?_
            refine OpH.go rfl rfl rfl (sem_callL [(Value.pointer p10), (Value.int .i64 (i108)), (Value.string s111)] (TF.goes_42) rfl rfl (Spec.mono hS fun v h120 hv => ?_))
            obtain ⟨i121, rfl, hS⟩ := hv
            obtain ⟨g122, g123, g124, g125, hS⟩ := hS
            refine ⟨fun _ => ⟨g122, g123, g124, g125, trivial⟩, ?_⟩
            refine OpH.go rfl rfl rfl (sem_callL [(Value.pointer (some ⟨k11, 0, none⟩)), (Value.int .i64 (i115)), (Value.string s118)] (TF.goes_43) rfl rfl (Spec.mono hS fun v h126 hv => ?_))
            obtain ⟨i127, rfl, hS⟩ := hv
            obtain ⟨g128, g129, g130, g131, hS⟩ := hS
            refine ⟨fun _ => ⟨g128, g129, g130, g131, trivial⟩, ?_⟩
            obtain ⟨hT, hF⟩ := hS
            by_cases hb132 : (i121 : Int) = i127
            · have hS := hT hb132; clear hT hF
              refine RunO.quiet rfl rfl rfl (fun h' hC => sem_binI .i64 (i121) (i127) (.bool true) rfl rfl (binI_eql_t hb132) ⟨rfl, rfl⟩) ?_
              refine RunO.quiet rfl rfl rfl (fun h' hC => sem_assign ((Value.bool true)) rfl ⟨rfl, rfl⟩) ?_
              exact Run.of_fin (hS.imp fun h' hS => j50 _ _ ⟨(true), ⟨rfl, rfl, rfl, rfl, rfl, rfl, rfl, rfl, trivial⟩, hS⟩)
            · have hS := hF hb132; clear hT hF
              refine RunO.quiet rfl rfl rfl (fun h' hC => sem_binI .i64 (i121) (i127) (.bool false) rfl rfl (binI_eql_f hb132) ⟨rfl, rfl⟩) ?_
              refine RunO.quiet rfl rfl rfl (fun h' hC => sem_assign ((Value.bool false)) rfl ⟨rfl, rfl⟩) ?_
              exact Run.of_fin (hS.imp fun h' hS => j50 _ _ ⟨(false), ⟨rfl, rfl, rfl, rfl, rfl, rfl, rfl, rfl, trivial⟩, hS⟩)
          · have hS := hF hb105; clear hT hF
            refine Run.go rfl rfl rfl (sem_binI .i64 (i104) (0) (.bool false) rfl rfl (binI_eql_f hb105) ?_)
            refine Run.region_end ?_
            refine Run.condF rfl ?_
            skip
            skip
            obtain ⟨i135, hl, hS⟩ := hS
            have f136 := hl
            skip
            obtain ⟨i138, hl, hS⟩ := hS
            have f139 := hl
            skip
            obtain ⟨i141, hl, hS⟩ := hS
            have f142 := hl
            skip
            skip
            obtain ⟨i145, hl, hS⟩ := hS
            have f146 := hl
            skip
            obtain ⟨i148, hl, hS⟩ := hS
            have f149 := hl
            skip
            obtain ⟨i151, hl, hS⟩ := hS
            have f152 := hl
            refine Run.draw (fun h' => cellH B h' ⟨k45, 1, none⟩ = some (Value.int .i64 (i135)) ∧ cellH B h' ⟨k45, 3, none⟩ = some (Value.int .i64 (i138)) ∧ cellH B h' ⟨k45, 4, none⟩ = some (Value.int .i64 (i141)) ∧ cellH B h' ⟨k45, 1, none⟩ = some (Value.int .i64 (i145)) ∧ cellH B h' ⟨k45, 3, none⟩ = some (Value.int .i64 (i148)) ∧ cellH B h' ⟨k45, 4, none⟩ = some (Value.int .i64 (i151)) ∧ True) [] [.q 0, .q 1, .q 2, .q 3, .q 4, .q 5, .q 6, .q 8, .q 9, .q 10, .q 11, .q 12, .q 13, .q 14, .x 7, .x 15, .q 16, .q 17] TF.mixed (by kernel_rfl) ⟨f136, f139, f142, f146, f149, f152, trivial⟩ ?_
            refine RunO.quiet rfl rfl rfl (fun h' hC => sem_move ((Value.pointer p10)) rfl ⟨rfl, rfl⟩) ?_
            refine RunO.quiet rfl rfl rfl (fun h' hC => sem_fieldAddr ⟨k45, 0, none⟩ 1 rfl TF.fld_87_1 ⟨rfl, rfl⟩) ?_
            refine RunO.quiet rfl rfl rfl (fun h' hC => sem_load1 ⟨k45, 1, none⟩ ((Value.int .i64 (i135))) rfl TF.agg_3 hC.1 ⟨rfl, rfl⟩) ?_
            refine RunO.quiet rfl rfl rfl (fun h' hC => sem_fieldAddr ⟨k45, 0, none⟩ 3 rfl TF.fld_87_3 ⟨rfl, rfl⟩) ?_
            refine RunO.quiet rfl rfl rfl (fun h' hC => sem_load1 ⟨k45, 3, none⟩ ((Value.int .i64 (i138))) rfl TF.agg_3 hC.2.1 ⟨rfl, rfl⟩) ?_
            refine RunO.quiet rfl rfl rfl (fun h' hC => sem_fieldAddr ⟨k45, 0, none⟩ 4 rfl TF.fld_87_4 ⟨rfl, rfl⟩) ?_
            refine RunO.quiet rfl rfl rfl (fun h' hC => sem_load1 ⟨k45, 4, none⟩ ((Value.int .i64 (i141))) rfl TF.agg_3 hC.2.2.1 ⟨rfl, rfl⟩) ?_
            refine RunO.quiet rfl rfl rfl (fun h' hC => sem_move ((Value.pointer (some ⟨k11, 0, none⟩))) rfl ⟨rfl, rfl⟩) ?_
            refine RunO.quiet rfl rfl rfl (fun h' hC => sem_fieldAddr ⟨k45, 0, none⟩ 1 rfl TF.fld_87_1 ⟨rfl, rfl⟩) ?_
            refine RunO.quiet rfl rfl rfl (fun h' hC => sem_load1 ⟨k45, 1, none⟩ ((Value.int .i64 (i145))) rfl TF.agg_3 hC.2.2.2.1 ⟨rfl, rfl⟩) ?_
            refine RunO.quiet rfl rfl rfl (fun h' hC => sem_fieldAddr ⟨k45, 0, none⟩ 3 rfl TF.fld_87_3 ⟨rfl, rfl⟩) ?_
            refine RunO.quiet rfl rfl rfl (fun h' hC => sem_load1 ⟨k45, 3, none⟩ ((Value.int .i64 (i148))) rfl TF.agg_3 hC.2.2.2.2.1 ⟨rfl, rfl⟩) ?_
            refine RunO.quiet rfl rfl rfl (fun h' hC => sem_fieldAddr ⟨k45, 0, none⟩ 4 rfl TF.fld_87_4 ⟨rfl, rfl⟩) ?_
            refine RunO.quiet rfl rfl rfl (fun h' hC => sem_load1 ⟨k45, 4, none⟩ ((Value.int .i64 (i151))) rfl TF.agg_3 hC.2.2.2.2.2.1 ⟨rfl, rfl⟩) ?_
            refine OpH.go rfl rfl rfl (sem_callL [(Value.pointer p10), (Value.int .i64 (i135)), (Value.int .i64 (i138)), (Value.int .i64 (i141))] (TF.goes_44) rfl rfl (Spec.mono hS fun v h153 hv => ?_))
            obtain ⟨b154, rfl, hS⟩ := hv
            obtain ⟨g155, g156, g157, g158, g159, g160, hS⟩ := hS
            refine ⟨fun _ => ⟨g155, g156, g157, g158, g159, g160, trivial⟩, ?_⟩
            refine OpH.go rfl rfl rfl (sem_callL [(Value.pointer (some ⟨k11, 0, none⟩)), (Value.int .i64 (i145)), (Value.int .i64 (i148)), (Value.int .i64 (i151))] (TF.goes_45) rfl rfl (Spec.mono hS fun v h161 hv => ?_))
            obtain ⟨b162, rfl, hS⟩ := hv
            obtain ⟨g163, g164, g165, g166, g167, g168, hS⟩ := hS
            refine ⟨fun _ => ⟨g163, g164, g165, g166, g167, g168, trivial⟩, ?_⟩
            obtain ⟨hT, hF⟩ := hS
            by_cases hb169 : b154 = b162
            · have hS := hT hb169; clear hT hF
              refine RunO.quiet rfl rfl rfl (fun h' hC => sem_boolEqT b154 b162 (.inl rfl) true rfl rfl TF.bool_4 hb169 rfl ⟨rfl, rfl⟩) ?_
              refine RunO.quiet rfl rfl rfl (fun h' hC => sem_assign ((Value.bool true)) rfl ⟨rfl, rfl⟩) ?_
              exact Run.of_fin (hS.imp fun h' hS => j50 _ _ ⟨(true), ⟨rfl, rfl, rfl, rfl, rfl, rfl, rfl, rfl, trivial⟩, hS⟩)
            · have hS := hF hb169; clear hT hF
              refine RunO.quiet rfl rfl rfl (fun h' hC => sem_boolEqF b154 b162 (.inl rfl) false rfl rfl TF.bool_4 hb169 rfl ⟨rfl, rfl⟩) ?_
              refine RunO.quiet rfl rfl rfl (fun h' hC => sem_assign ((Value.bool false)) rfl ⟨rfl, rfl⟩) ?_
              exact Run.of_fin (hS.imp fun h' hS => j50 _ _ ⟨(false), ⟨rfl, rfl, rfl, rfl, rfl, rfl, rfl, rfl, trivial⟩, hS⟩)
      · have hS := hF hb37; clear hT hF
        refine Run.go rfl rfl rfl (sem_binI .i64 (i31) ((n2 : Nat)) (.bool false) rfl rfl (binI_lss_f hb37) ?_)
        refine Run.region_end ?_
        refine Run.seq ?_
        refine Run.condF rfl ?_
        refine Run.exit rfl ?_
        exact Run.of_fin (hS.imp fun h' hS => j13 _ _ ⟨trivial, hS⟩)
set_option maxHeartbeats 4000000 in
theorem C_countermandlaw11_FeedStays.of {B : RO} {a1 : Option Addr} {n2 : Nat} {c3 : Nat} {i4 : Int} {h : Heap} {Q : Bool → Heap → Prop} (hS : S_countermandlaw11_FeedStays B a1 n2 c3 i4 h Q) : C_countermandlaw11_FeedStays B a1 n2 c3 i4 h Q := by
  unfold S_countermandlaw11_FeedStays at hS
  unfold C_countermandlaw11_FeedStays
  refine Spec.of_run Try.func11 (N := 87) (rs := [ResultVar.tmp 4]) rfl rfl rfl (Nat.le_of_ble_eq_true rfl) ?_
  refine Run.seq ?_
  refine Run.ops0 (idx := [0]) rfl ?_
  refine Run.go rfl rfl rfl (sem_assign ((Value.bool false)) rfl ?_)
  refine Run.region_end ?_
  refine Run.seq ?_
  refine Run.seq ?_
  refine Run.ops0 (idx := [0, 1]) rfl ?_
  refine Run.go rfl rfl rfl (sem_callL [] (TF.goes_40) rfl rfl (Spec.mono hS fun v h6 hv => ?_))
  obtain ⟨b7, rfl, hS⟩ := hv
  obtain ⟨hT, hF⟩ := hS
  cases b7
  · have hS := hF rfl; clear hT hF
    refine Run.go rfl rfl rfl (sem_not false rfl ?_)
    refine Run.region_end ?_
    refine Run.condT rfl ?_
    refine Run.seq ?_
    refine Run.ops0 (idx := [0]) rfl ?_
    refine Run.go rfl rfl rfl (sem_assign ((Value.bool false)) rfl ?_)
    refine Run.region_end ?_
    refine Run.ret ⟨.inr rfl, ?_⟩
    exact hS.imp fun h' hq => ⟨(false), rfl, hq⟩
  · have hS := hT rfl; clear hT hF
    refine Run.go rfl rfl rfl (sem_not true rfl ?_)
    refine Run.region_end ?_
    refine Run.condF rfl ?_
    refine Run.skip ?_
    refine Run.seqJ (fun e h9 => Agree [(0, (Value.slice a1 n2 c3)), (1, (Value.int .i64 (i4)))] e ∧ S_countermandlaw11_FeedStays_J1 B a1 n2 c3 i4 h9 Q) ?_ fun j8 => ?_
    · rintro e h9 ⟨hag, hS⟩
      refine Run.env hag ?_; clear hag
      refine Run.seq ?_
      refine Run.ops0 (idx := [0, 1]) rfl ?_
      refine Run.go rfl rfl rfl (sem_callL [] (TF.goes_41) rfl rfl (Spec.mono hS fun v h10 hv => ?_))
      obtain ⟨p11, rfl, hS⟩ := hv
      refine Run.go rfl rfl rfl (sem_assign ((Value.pointer p11)) rfl ?_)
      refine Run.region_end ?_
      refine Run.seq ?_
      refine Run.ops0 (idx := [0, 1]) rfl ?_
      refine Run.go rfl rfl rfl (sem_assign ((Value.string (ByteArray.mk #[]))) rfl ?_)
      refine Run.go rfl rfl rfl (sem_assign ((Value.int .i64 (0))) rfl ?_)
      refine Run.region_end ?_
      refine Run.seq ?_
      refine Run.seq ?_
      refine Run.ops0 (idx := [0, 1, 2]) rfl ?_
      refine Run.go rfl rfl rfl (sem_move ((Value.slice a1 n2 c3)) rfl ?_)
      refine Run.go rfl rfl rfl (sem_lenSl a1 n2 c3 rfl TF.sl_78 ?_)
      refine Run.go rfl rfl rfl (sem_move ((Value.int .i64 (0))) rfl ?_)
      refine Run.region_end ?_
      refine Run.block ?_
      obtain ⟨J19, m17, h0, hS⟩ := hS
      refine Run.of_fin (h0.imp fun h' h0 => ?_)
      refine Run.loop (σ := ByteArray × Int × Int × Nat) (fun x e h => J19 x.1 x.2.1 x.2.2.1 x.2.2.2 h ∧ Agree [(1, (Value.int .i64 (i4))), (5, (Value.pointer p11)), (6, (Value.string x.1)), (7, (Value.int .i64 (x.2.1))), (24, (Value.slice a1 n2 c3)), (25, (Value.int .i64 ((n2 : Nat)))), (26, (Value.int .i64 (x.2.2.1)))] e) (fun x => x.2.2.2) ((ByteArray.mk #[]), (0), (0), m17) ⟨h0, ⟨rfl, rfl, rfl, rfl, rfl, rfl, rfl, trivial⟩⟩ ?_; clear h0
      rintro ⟨s12, i13, i14, m16⟩ e h15 ⟨hJ, hag⟩ ih18
      have hS := hS s12 i13 i14 m16 h15 hJ; clear hJ
      refine Run.env hag ?_; clear hag
      refine Run.seq ?_
      refine Run.ops0 (idx := [0]) rfl ?_
      obtain ⟨hT, hF⟩ := hS
      by_cases hb20 : (i14 : Int) < ((n2 : Nat))
      · have hS := hT hb20; clear hT hF
        refine Run.go rfl rfl rfl (sem_binI .i64 (i14) ((n2 : Nat)) (.bool true) rfl rfl (binI_lss_t hb20) ?_)
        refine Run.region_end ?_
        refine Run.seq ?_
        refine Run.condT rfl ?_
        refine Run.skip ?_
        refine Run.seq ?_
        refine Run.block ?_
        refine Run.seq ?_
        refine Run.ops0 (idx := [0, 1, 2, 3]) rfl ?_
        obtain ⟨A21, e22, hi0, hi1, hS⟩ := hS
        refine Run.go rfl rfl rfl (sem_indexAddrS A21 n2 c3 .i64 (i14) (congrArg (fun a => Value.slice a n2 c3) e22) rfl TF.slc_78 hi0 hi1 ?_)
        obtain ⟨i23, i24, s25, i26, i27, hl, hS⟩ := hS
        refine Run.go rfl rfl rfl (sem_loadN (Addr.add A21 (Int.toNat (i14) * 5)) [(Value.int .i64 (i23)), (Value.int .i64 (i24)), (Value.string s25), (Value.int .i64 (i26)), (Value.int .i64 (i27))] rfl TF.agg_87 TF.sz_87 hl ?_)
        refine Run.go rfl rfl rfl (sem_allocN [(Value.int .i64 (0)), (Value.int .i64 (0)), (Value.string ByteArray.empty), (Value.int .i64 (0)), (Value.int .i64 (0))] TF.zero_87 (fun k28 hb1 hb2 h29 hb3 => ?_))
        have hS := hS k28 hb1 hb2 h29 hb3
        obtain ⟨h30, hst, hS⟩ := hS
        refine Run.go rfl rfl rfl (sem_storeN ⟨k28, 0, none⟩ [(Value.int .i64 (i23)), (Value.int .i64 (i24)), (Value.string s25), (Value.int .i64 (i26)), (Value.int .i64 (i27))] h30 rfl rfl TF.sz_87 hst ?_)
        refine Run.region_end ?_
        refine Run.seq ?_
        refine Run.seq ?_
        refine Run.ops0 (idx := [0, 1, 2, 3]) rfl ?_
        refine Run.go rfl rfl rfl (sem_fieldAddr ⟨k28, 0, none⟩ 2 rfl TF.fld_87_2 ?_)
        obtain ⟨s31, hl, hS⟩ := hS
        refine Run.go rfl rfl rfl (sem_load1 ⟨k28, 2, none⟩ ((Value.string s31)) rfl TF.agg_9 hl ?_)
        refine Run.go rfl rfl rfl (sem_lenStr s31 rfl TF.isStr_9 ?_)
        obtain ⟨hT, hF⟩ := hS
        by_cases hb32 : ((ByteArray.size s31 : Nat) : Int) > (100)
        · have hS := hT hb32; clear hT hF
          refine Run.go rfl rfl rfl (sem_binI .i64 ((ByteArray.size s31 : Nat)) (100) (.bool true) rfl rfl (binI_gtr_t hb32) ?_)
          refine Run.region_end ?_
          refine Run.condT rfl ?_
          refine Run.seq ?_
          refine Run.ops0 (idx := [0]) rfl ?_
          refine Run.go rfl rfl rfl (sem_assign ((Value.bool true)) rfl ?_)
          refine Run.region_end ?_
          refine Run.ret ⟨.inr rfl, ?_⟩
          exact hS.imp fun h' hq => ⟨(true), rfl, hq⟩
        · have hS := hF hb32; clear hT hF
          refine Run.go rfl rfl rfl (sem_binI .i64 ((ByteArray.size s31 : Nat)) (100) (.bool false) rfl rfl (binI_gtr_f hb32) ?_)
          refine Run.region_end ?_
          refine Run.condF rfl ?_
          refine Run.skip ?_
          refine Run.seqJ (fun e h34 => Agree [(1, (Value.int .i64 (i4))), (5, (Value.pointer p11)), (6, (Value.string s12)), (7, (Value.int .i64 (i13))), (24, (Value.slice a1 n2 c3)), (25, (Value.int .i64 ((n2 : Nat)))), (26, (Value.int .i64 (i14)))] e ∧ S_countermandlaw11_FeedStays_J2 B a1 n2 c3 i4 p11 s12 i13 i14 m16 J19 h34 Q) ?_ fun j33 => ?_
          · rintro e h34 ⟨hag, hS⟩
            refine Run.env hag ?_; clear hag
            refine Run.seq ?_
            refine Run.ops0 (idx := [0, 1, 2, 3]) rfl ?_
            refine Run.go rfl rfl rfl (sem_move ((Value.pointer p11)) rfl ?_)
            refine Run.go rfl rfl rfl (sem_move ((Value.int .i64 (i4))) rfl ?_)
            refine Run.go rfl rfl rfl (sem_callL [(Value.pointer p11), (Value.int .i64 (i4))] (TF.goes_47) rfl rfl (Spec.mono hS fun v h35 hv => ?_))
            obtain ⟨s36, rfl, hS⟩ := hv
            refine Run.go rfl rfl rfl (sem_assign ((Value.string s36)) rfl ?_)
            refine Run.region_end ?_
            refine Run.seq ?_
            refine Run.ops0 (idx := [0, 1, 2, 3, 4, 5, 6, 7]) rfl ?_
            refine Run.go rfl rfl rfl (sem_move ((Value.pointer p11)) rfl ?_)
            refine Run.go rfl rfl rfl (sem_move ((Value.int .i64 (i4))) rfl ?_)
            refine Run.go rfl rfl rfl (sem_callL [(Value.pointer p11), (Value.int .i64 (i4))] (TF.goes_50) rfl rfl (Spec.mono hS fun v h37 hv => ?_))
            obtain ⟨i38, i39, rfl, hS⟩ := hv
            refine Run.go rfl rfl rfl (sem_move ((Value.tuple #[(Value.int .i64 (i38)), (Value.int .i64 (i39))])) rfl ?_)
            refine Run.go rfl rfl rfl (sem_extract #[(Value.int .i64 (i38)), (Value.int .i64 (i39))] ((Value.int .i64 (i38))) rfl rfl ?_)
            refine Run.go rfl rfl rfl (sem_extract #[(Value.int .i64 (i38)), (Value.int .i64 (i39))] ((Value.int .i64 (i39))) rfl rfl ?_)
            refine Run.go rfl rfl rfl (sem_assign ((Value.int .i64 (i38))) rfl ?_)
            refine Run.go rfl rfl rfl (sem_assign ((Value.int .i64 (i39))) rfl ?_)
            refine Run.region_end ?_
            refine Run.seq ?_
            refine Run.seqJ (fun e h42 => ∃ b41 : Bool, Agree [(1, (Value.int .i64 (i4))), (5, (Value.pointer p11)), (10, (Value.string s36)), (11, (Value.int .i64 (i38))), (24, (Value.slice a1 n2 c3)), (25, (Value.int .i64 ((n2 : Nat)))), (26, (Value.int .i64 (i14))), (83, (Value.bool b41))] e ∧ S_countermandlaw11_FeedStays_J3 B a1 n2 c3 i4 p11 i14 m16 J19 s36 i38 b41 h42 Q) ?_ fun j40 => ?_
            · rintro e h42 ⟨b41, hag, hS⟩
              refine Run.env hag ?_; clear hag
              obtain ⟨hT, hF⟩ := hS
              cases b41
              · have hS := hF rfl; clear hT hF
                refine Run.condF rfl ?_
                refine Run.skip ?_
                refine Run.ops0 (idx := [0, 1, 2, 3]) rfl ?_
                refine Run.go rfl rfl rfl (sem_move ((Value.string s36)) rfl ?_)
                refine Run.go rfl rfl rfl (sem_move ((Value.int .i64 (i38))) rfl ?_)
                refine Run.go rfl rfl rfl (sem_assign ((Value.string s36)) rfl ?_)
                refine Run.go rfl rfl rfl (sem_assign ((Value.int .i64 (i38))) rfl ?_)
                refine Run.region_end ?_
                refine Run.inBlock ?_
                refine Run.ops0 (idx := [0, 1]) rfl ?_
                refine Run.go rfl rfl rfl (sem_binI .i64 (i14) (1) ((Value.int .i64 (IntKind.wrap .i64 ((i14) + (1))))) rfl rfl rfl ?_)
                refine Run.go rfl rfl rfl (sem_move ((Value.int .i64 (IntKind.wrap .i64 ((i14) + (1))))) rfl ?_)
                refine Run.region_end ?_
                exact Run.of_fin (hS.imp fun h' ⟨m', hm, hS⟩ => ih18 (s36, (i38), (IntKind.wrap .i64 ((i14) + (1))), m') _ _ ⟨hS, ⟨rfl, rfl, rfl, rfl, rfl, rfl, rfl, trivial⟩⟩ hm)
              · have hS := hT rfl; clear hT hF
                refine Run.condT rfl ?_
                refine Run.seq ?_
                refine Run.ops0 (idx := [0]) rfl ?_
                refine Run.go rfl rfl rfl (sem_assign ((Value.bool false)) rfl ?_)
                refine Run.region_end ?_
                refine Run.ret ⟨.inr rfl, ?_⟩
                exact hS.imp fun h' hq => ⟨(false), rfl, hq⟩
            refine Run.ops0 (idx := [0, 1, 2, 3, 4, 5, 6, 7, 8, 9, 10, 11, 12, 13, 14, 15, 16, 17, 18, 19, 20, 21, 22, 23]) rfl ?_
            refine Run.go rfl rfl rfl (sem_move ((Value.string s36)) rfl ?_)
            refine Run.go rfl rfl rfl (sem_lenStr s36 rfl TF.isStr_9 ?_)
            refine Run.go rfl rfl rfl (sem_move ((Value.string s12)) rfl ?_)
            refine Run.go rfl rfl rfl (sem_lenStr s12 rfl TF.isStr_9 ?_)
            obtain ⟨hT, hF⟩ := hS
            by_cases hb43 : ((ByteArray.size s36 : Nat) : Int) < ((ByteArray.size s12 : Nat))
            · have hS := hT hb43; clear hT hF
              refine Run.go rfl rfl rfl (sem_binI .i64 ((ByteArray.size s36 : Nat)) ((ByteArray.size s12 : Nat)) (.bool true) rfl rfl (binI_lss_t hb43) ?_)
              refine Run.go rfl rfl rfl (sem_move ((Value.bool true)) rfl ?_)
              refine Run.no rfl rfl rfl ?_
              refine Run.no rfl rfl rfl ?_
              refine Run.no rfl rfl rfl ?_
              refine Run.no rfl rfl rfl ?_
              refine Run.no rfl rfl rfl ?_
              refine Run.no rfl rfl rfl ?_
              refine Run.go rfl rfl rfl (sem_pick true ((Value.bool true)) rfl rfl ?_)
              refine Run.go rfl rfl rfl (sem_move ((Value.bool true)) rfl ?_)
              refine Run.no rfl rfl rfl ?_
              refine Run.no rfl rfl rfl ?_
              refine Run.no rfl rfl rfl ?_
              refine Run.go rfl rfl rfl (sem_pick true ((Value.bool true)) rfl rfl ?_)
              refine Run.go rfl rfl rfl (sem_move ((Value.bool true)) rfl ?_)
              refine Run.no rfl rfl rfl ?_
              refine Run.no rfl rfl rfl ?_
              refine Run.no rfl rfl rfl ?_
              refine Run.no rfl rfl rfl ?_
              refine Run.go rfl rfl rfl (sem_pick true ((Value.bool true)) rfl rfl ?_)
              refine Run.region_end ?_
              exact Run.of_fin (hS.imp fun h' hS => j40 _ _ ⟨(true), ⟨rfl, rfl, rfl, rfl, rfl, rfl, rfl, rfl, trivial⟩, hS⟩)
            · have hS := hF hb43; clear hT hF
              refine Run.go rfl rfl rfl (sem_binI .i64 ((ByteArray.size s36 : Nat)) ((ByteArray.size s12 : Nat)) (.bool false) rfl rfl (binI_lss_f hb43) ?_)
              refine Run.go rfl rfl rfl (sem_move ((Value.bool false)) rfl ?_)
              refine Run.go rfl rfl rfl (sem_move ((Value.string s36)) rfl ?_)
              refine Run.go rfl rfl rfl (sem_move ((Value.string s12)) rfl ?_)
              refine Run.go rfl rfl rfl (sem_lenStr s12 rfl TF.isStr_9 ?_)
              obtain ⟨hi0, hi1, hi2, hS⟩ := hS
              refine Run.go rfl rfl rfl (sem_sliceStrI s36 (0) ((ByteArray.size s12 : Nat)) rfl TF.isStr_9 rfl ⟨_, rfl⟩ hi0 hi1 hi2 ?_)
              refine Run.go rfl rfl rfl (sem_move ((Value.string s12)) rfl ?_)
              obtain ⟨hT, hF⟩ := hS
              by_cases hb44 : (ByteArray.extract s36 (Int.toNat (0)) (Int.toNat ((ByteArray.size s12 : Nat)))) = s12
              · have hS := hT hb44; clear hT hF
                refine Run.go rfl rfl rfl (sem_strNeT (ByteArray.extract s36 (Int.toNat (0)) (Int.toNat ((ByteArray.size s12 : Nat)))) s12 rfl rfl hb44 ?_)
                refine Run.go rfl rfl rfl (sem_pick false ((Value.bool false)) rfl rfl ?_)
                refine Run.go rfl rfl rfl (sem_move ((Value.bool false)) rfl ?_)
                refine Run.go rfl rfl rfl (sem_move ((Value.int .i64 (i38))) rfl ?_)
                refine Run.go rfl rfl rfl (sem_move ((Value.int .i64 (i13))) rfl ?_)
                obtain ⟨hT, hF⟩ := hS
                by_cases hb45 : (i38 : Int) < (i13)
                · have hS := hT hb45; clear hT hF
                  refine Run.go rfl rfl rfl (sem_binI .i64 (i38) (i13) (.bool true) rfl rfl (binI_lss_t hb45) ?_)
                  refine Run.go rfl rfl rfl (sem_pick false ((Value.bool true)) rfl rfl ?_)
                  refine Run.go rfl rfl rfl (sem_move ((Value.bool true)) rfl ?_)
                  refine Run.no rfl rfl rfl ?_
                  refine Run.no rfl rfl rfl ?_
                  refine Run.no rfl rfl rfl ?_
                  refine Run.no rfl rfl rfl ?_
                  refine Run.go rfl rfl rfl (sem_pick true ((Value.bool true)) rfl rfl ?_)
                  refine Run.region_end ?_
                  exact Run.of_fin (hS.imp fun h' hS => j40 _ _ ⟨(true), ⟨rfl, rfl, rfl, rfl, rfl, rfl, rfl, rfl, trivial⟩, hS⟩)
                · have hS := hF hb45; clear hT hF
                  refine Run.go rfl rfl rfl (sem_binI .i64 (i38) (i13) (.bool false) rfl rfl (binI_lss_f hb45) ?_)
                  refine Run.go rfl rfl rfl (sem_pick false ((Value.bool false)) rfl rfl ?_)
                  refine Run.go rfl rfl rfl (sem_move ((Value.bool false)) rfl ?_)
                  refine Run.go rfl rfl rfl (sem_move ((Value.int .i64 (i38))) rfl ?_)
                  refine Run.go rfl rfl rfl (sem_move ((Value.string s36)) rfl ?_)
                  refine Run.go rfl rfl rfl (sem_lenStr s36 rfl TF.isStr_9 ?_)
                  obtain ⟨hT, hF⟩ := hS
                  by_cases hb46 : (i38 : Int) > ((ByteArray.size s36 : Nat))
                  · have hS := hT hb46; clear hT hF
                    refine Run.go rfl rfl rfl (sem_binI .i64 (i38) ((ByteArray.size s36 : Nat)) (.bool true) rfl rfl (binI_gtr_t hb46) ?_)
                    refine Run.go rfl rfl rfl (sem_pick false ((Value.bool true)) rfl rfl ?_)
                    refine Run.region_end ?_
                    exact Run.of_fin (hS.imp fun h' hS => j40 _ _ ⟨(true), ⟨rfl, rfl, rfl, rfl, rfl, rfl, rfl, rfl, trivial⟩, hS⟩)
                  · have hS := hF hb46; clear hT hF
                    refine Run.go rfl rfl rfl (sem_binI .i64 (i38) ((ByteArray.size s36 : Nat)) (.bool false) rfl rfl (binI_gtr_f hb46) ?_)
                    refine Run.go rfl rfl rfl (sem_pick false ((Value.bool false)) rfl rfl ?_)
                    refine Run.region_end ?_
                    exact Run.of_fin (hS.imp fun h' hS => j40 _ _ ⟨(false), ⟨rfl, rfl, rfl, rfl, rfl, rfl, rfl, rfl, trivial⟩, hS⟩)
              · have hS := hF hb44; clear hT hF
                refine Run.go rfl rfl rfl (sem_strNeF (ByteArray.extract s36 (Int.toNat (0)) (Int.toNat ((ByteArray.size s12 : Nat)))) s12 rfl rfl hb44 ?_)
                refine Run.go rfl rfl rfl (sem_pick false ((Value.bool true)) rfl rfl ?_)
                refine Run.go rfl rfl rfl (sem_move ((Value.bool true)) rfl ?_)
                refine Run.no rfl rfl rfl ?_
                refine Run.no rfl rfl rfl ?_
                refine Run.no rfl rfl rfl ?_
                refine Run.go rfl rfl rfl (sem_pick true ((Value.bool true)) rfl rfl ?_)
                refine Run.go rfl rfl rfl (sem_move ((Value.bool true)) rfl ?_)
                refine Run.no rfl rfl rfl ?_
                refine Run.no rfl rfl rfl ?_
                refine Run.no rfl rfl rfl ?_
                refine Run.no rfl rfl rfl ?_
                refine Run.go rfl rfl rfl (sem_pick true ((Value.bool true)) rfl rfl ?_)
                refine Run.region_end ?_
                exact Run.of_fin (hS.imp fun h' hS => j40 _ _ ⟨(true), ⟨rfl, rfl, rfl, rfl, rfl, rfl, rfl, rfl, trivial⟩, hS⟩)
          refine Run.seq ?_
          refine Run.ops0 (idx := [0, 1, 2]) rfl ?_
          refine Run.go rfl rfl rfl (sem_fieldAddr ⟨k28, 0, none⟩ 0 rfl TF.fld_87_0 ?_)
          obtain ⟨i47, hl, hS⟩ := hS
          refine Run.go rfl rfl rfl (sem_load1 ⟨k28, 0, none⟩ ((Value.int .i64 (i47))) rfl TF.agg_3 hl ?_)
          obtain ⟨hT, hF⟩ := hS
          by_cases hb48 : (i47 : Int) = 0
          · have hS := hT hb48; clear hT hF
            refine Run.go rfl rfl rfl (sem_binI .i64 (i47) (0) (.bool true) rfl rfl (binI_eql_t hb48) ?_)
            refine Run.region_end ?_
            refine Run.condT rfl ?_
            refine Run.ops0 (idx := [0, 1, 2, 3, 4, 5]) rfl ?_
            refine Run.go rfl rfl rfl (sem_move ((Value.pointer p11)) rfl ?_)
            refine Run.go rfl rfl rfl (sem_fieldAddr ⟨k28, 0, none⟩ 1 rfl TF.fld_87_1 ?_)
            obtain ⟨i49, hl, hS⟩ := hS
            refine Run.go rfl rfl rfl (sem_load1 ⟨k28, 1, none⟩ ((Value.int .i64 (i49))) rfl TF.agg_3 hl ?_)
            refine Run.go rfl rfl rfl (sem_fieldAddr ⟨k28, 0, none⟩ 2 rfl TF.fld_87_2 ?_)
            obtain ⟨s50, hl, hS⟩ := hS
            refine Run.go rfl rfl rfl (sem_load1 ⟨k28, 2, none⟩ ((Value.string s50)) rfl TF.agg_9 hl ?_)
            refine Run.go rfl rfl rfl (sem_callL [(Value.pointer p11), (Value.int .i64 (i49)), (Value.string s50)] (TF.goes_42) rfl rfl (Spec.mono hS fun v h51 hv => ?_))
            obtain ⟨i52, rfl, hS⟩ := hv
            refine Run.region_end ?_
            exact Run.of_fin (hS.imp fun h' hS => j33 _ _ ⟨⟨rfl, rfl, rfl, rfl, rfl, rfl, rfl, trivial⟩, hS⟩)
          · have hS := hF hb48; clear hT hF
            refine Run.go rfl rfl rfl (sem_binI .i64 (i47) (0) (.bool false) rfl rfl (binI_eql_f hb48) ?_)
            refine Run.region_end ?_
            refine Run.condF rfl ?_
            refine Run.ops0 (idx := [0, 1, 2, 3, 4, 5, 6, 7]) rfl ?_
            refine Run.go rfl rfl rfl (sem_move ((Value.pointer p11)) rfl ?_)
            refine Run.go rfl rfl rfl (sem_fieldAddr ⟨k28, 0, none⟩ 1 rfl TF.fld_87_1 ?_)
            obtain ⟨i53, hl, hS⟩ := hS
            refine Run.go rfl rfl rfl (sem_load1 ⟨k28, 1, none⟩ ((Value.int .i64 (i53))) rfl TF.agg_3 hl ?_)
            refine Run.go rfl rfl rfl (sem_fieldAddr ⟨k28, 0, none⟩ 3 rfl TF.fld_87_3 ?_)
            obtain ⟨i54, hl, hS⟩ := hS
            refine Run.go rfl rfl rfl (sem_load1 ⟨k28, 3, none⟩ ((Value.int .i64 (i54))) rfl TF.agg_3 hl ?_)
            refine Run.go rfl rfl rfl (sem_fieldAddr ⟨k28, 0, none⟩ 4 rfl TF.fld_87_4 ?_)
            obtain ⟨i55, hl, hS⟩ := hS
            refine Run.go rfl rfl rfl (sem_load1 ⟨k28, 4, none⟩ ((Value.int .i64 (i55))) rfl TF.agg_3 hl ?_)
            refine Run.go rfl rfl rfl (sem_callL [(Value.pointer p11), (Value.int .i64 (i53)), (Value.int .i64 (i54)), (Value.int .i64 (i55))] (TF.goes_44) rfl rfl (Spec.mono hS fun v h56 hv => ?_))
            obtain ⟨b57, rfl, hS⟩ := hv
            refine Run.region_end ?_
            exact Run.of_fin (hS.imp fun h' hS => j33 _ _ ⟨⟨rfl, rfl, rfl, rfl, rfl, rfl, rfl, trivial⟩, hS⟩)
      · have hS := hF hb20; clear hT hF
        refine Run.go rfl rfl rfl (sem_binI .i64 (i14) ((n2 : Nat)) (.bool false) rfl rfl (binI_lss_f hb20) ?_)
        refine Run.region_end ?_
        refine Run.seq ?_
        refine Run.condF rfl ?_
        refine Run.exit rfl ?_
        refine Run.seq ?_
        refine Run.ops0 (idx := [0]) rfl ?_
        refine Run.go rfl rfl rfl (sem_assign ((Value.bool true)) rfl ?_)
        refine Run.region_end ?_
        refine Run.ret ⟨.inr rfl, ?_⟩
        exact hS.imp fun h' hq => ⟨(true), rfl, hq⟩
    refine Run.seq ?_
    refine Run.ops0 (idx := [0, 1, 2, 3, 4, 5, 6, 7]) rfl ?_
    refine Run.go rfl rfl rfl (sem_move ((Value.slice a1 n2 c3)) rfl ?_)
    refine Run.go rfl rfl rfl (sem_lenSl a1 n2 c3 rfl TF.sl_78 ?_)
    obtain ⟨hT, hF⟩ := hS
    by_cases hb58 : ((n2 : Nat) : Int) > (60)
    · have hS := hT hb58; clear hT hF
      refine Run.go rfl rfl rfl (sem_binI .i64 ((n2 : Nat)) (60) (.bool true) rfl rfl (binI_gtr_t hb58) ?_)
      refine Run.go rfl rfl rfl (sem_move ((Value.bool true)) rfl ?_)
      refine Run.no rfl rfl rfl ?_
      refine Run.no rfl rfl rfl ?_
      refine Run.no rfl rfl rfl ?_
      refine Run.go rfl rfl rfl (sem_pick true ((Value.bool true)) rfl rfl ?_)
      refine Run.region_end ?_
      refine Run.condT rfl ?_
      refine Run.seq ?_
      refine Run.ops0 (idx := [0]) rfl ?_
      refine Run.go rfl rfl rfl (sem_assign ((Value.bool true)) rfl ?_)
      refine Run.region_end ?_
      refine Run.ret ⟨.inr rfl, ?_⟩
      exact hS.imp fun h' hq => ⟨(true), rfl, hq⟩
    · have hS := hF hb58; clear hT hF
      refine Run.go rfl rfl rfl (sem_binI .i64 ((n2 : Nat)) (60) (.bool false) rfl rfl (binI_gtr_f hb58) ?_)
      refine Run.go rfl rfl rfl (sem_move ((Value.bool false)) rfl ?_)
      refine Run.go rfl rfl rfl (sem_move ((Value.int .i64 (i4))) rfl ?_)
      refine Run.go rfl rfl rfl (sem_callL [(Value.int .i64 (i4))] (TF.goes_46) rfl rfl (Spec.mono hS fun v h59 hv => ?_))
      obtain ⟨b60, rfl, hS⟩ := hv
      obtain ⟨hT, hF⟩ := hS
      cases b60
      · have hS := hF rfl; clear hT hF
        refine Run.go rfl rfl rfl (sem_not false rfl ?_)
        refine Run.go rfl rfl rfl (sem_pick false ((Value.bool true)) rfl rfl ?_)
        refine Run.region_end ?_
        refine Run.condT rfl ?_
        refine Run.seq ?_
        refine Run.ops0 (idx := [0]) rfl ?_
        refine Run.go rfl rfl rfl (sem_assign ((Value.bool true)) rfl ?_)
        refine Run.region_end ?_
        refine Run.ret ⟨.inr rfl, ?_⟩
        exact hS.imp fun h' hq => ⟨(true), rfl, hq⟩
      · have hS := hT rfl; clear hT hF
        refine Run.go rfl rfl rfl (sem_not true rfl ?_)
        refine Run.go rfl rfl rfl (sem_pick false ((Value.bool false)) rfl rfl ?_)
        refine Run.region_end ?_
        refine Run.condF rfl ?_
        refine Run.skip ?_
        exact Run.of_fin (hS.imp fun h' hS => j8 _ _ ⟨⟨rfl, rfl, trivial⟩, hS⟩)
set_option maxHeartbeats 4000000 in
theorem C_countermandlaw11_FeedParts.of {B : RO} {a1 : Option Addr} {n2 : Nat} {c3 : Nat} {i4 : Int} {i5 : Int} {h : Heap} {Q : Bool → Heap → Prop} (hS : S_countermandlaw11_FeedParts B a1 n2 c3 i4 i5 h Q) : C_countermandlaw11_FeedParts B a1 n2 c3 i4 i5 h Q := by
  unfold S_countermandlaw11_FeedParts at hS
  unfold C_countermandlaw11_FeedParts
  refine Spec.of_run Try.func12 (N := 84) (rs := [ResultVar.tmp 6]) rfl rfl rfl (Nat.le_of_ble_eq_true rfl) ?_
  refine Run.seq ?_
  refine Run.ops0 (idx := [0]) rfl ?_
  refine Run.go rfl rfl rfl (sem_assign ((Value.bool false)) rfl ?_)
  refine Run.region_end ?_
  refine Run.seq ?_
  refine Run.seq ?_
  refine Run.ops0 (idx := [0, 1]) rfl ?_
  refine Run.go rfl rfl rfl (sem_callL [] (TF.goes_40) rfl rfl (Spec.mono hS fun v h7 hv => ?_))
  obtain ⟨b8, rfl, hS⟩ := hv
  obtain ⟨hT, hF⟩ := hS
  cases b8
  · have hS := hF rfl; clear hT hF
    refine Run.go rfl rfl rfl (sem_not false rfl ?_)
    refine Run.region_end ?_
    refine Run.condT rfl ?_
    refine Run.seq ?_
    refine Run.ops0 (idx := [0]) rfl ?_
    refine Run.go rfl rfl rfl (sem_assign ((Value.bool false)) rfl ?_)
    refine Run.region_end ?_
    refine Run.ret ⟨.inr rfl, ?_⟩
    exact hS.imp fun h' hq => ⟨(false), rfl, hq⟩
  · have hS := hT rfl; clear hT hF
    refine Run.go rfl rfl rfl (sem_not true rfl ?_)
    refine Run.region_end ?_
    refine Run.condF rfl ?_
    refine Run.skip ?_
    refine Run.seqJ (fun e h10 => Agree [(0, (Value.slice a1 n2 c3)), (1, (Value.int .i64 (i4))), (2, (Value.int .i64 (i5)))] e ∧ S_countermandlaw11_FeedParts_J1 B a1 n2 c3 i4 i5 h10 Q) ?_ fun j9 => ?_
    · rintro e h10 ⟨hag, hS⟩
      refine Run.env hag ?_; clear hag
      refine Run.seq ?_
      refine Run.ops0 (idx := [0]) rfl ?_
      refine Run.go rfl rfl rfl (sem_assign ((Value.string (ByteArray.mk #[]))) rfl ?_)
      refine Run.region_end ?_
      refine Run.seqJ (fun e h13 => ∃ s12 : ByteArray, Agree [(0, (Value.slice a1 n2 c3)), (1, (Value.int .i64 (i4))), (2, (Value.int .i64 (i5))), (7, (Value.string s12))] e ∧ S_countermandlaw11_FeedParts_J2 B a1 n2 c3 i4 i5 s12 h13 Q) ?_ fun j11 => ?_
      · rintro e h13 ⟨s12, hag, hS⟩
        refine Run.env hag ?_; clear hag
        refine Run.seq ?_
        refine Run.ops0 (idx := [0, 1, 2, 3]) rfl ?_
        refine Run.go rfl rfl rfl (sem_callL [] (TF.goes_41) rfl rfl (Spec.mono hS fun v h14 hv => ?_))
        obtain ⟨p15, rfl, hS⟩ := hv
        refine Run.go rfl rfl rfl (sem_callL [] (TF.goes_41) rfl rfl (Spec.mono hS fun v h16 hv => ?_))
        obtain ⟨p17, rfl, hS⟩ := hv
        refine Run.go rfl rfl rfl (sem_assign ((Value.pointer p15)) rfl ?_)
        refine Run.go rfl rfl rfl (sem_assign ((Value.pointer p17)) rfl ?_)
        refine Run.region_end ?_
        refine Run.seqJ (fun e h19 => Agree [(1, (Value.int .i64 (i4))), (2, (Value.int .i64 (i5))), (7, (Value.string s12)), (10, (Value.pointer p15)), (11, (Value.pointer p17))] e ∧ S_countermandlaw11_FeedParts_J3 B i4 i5 s12 p15 p17 h19 Q) ?_ fun j18 => ?_
        · rintro e h19 ⟨hag, hS⟩
          refine Run.env hag ?_; clear hag
          refine Run.seq ?_
          refine Run.ops0 (idx := [0, 1, 2, 3, 4, 5, 6, 7, 8, 9, 10, 11, 12, 13, 14, 15, 16, 17, 18, 19, 20, 21, 22, 23, 24, 25, 26, 27, 28, 29, 30]) rfl ?_
          refine Run.go rfl rfl rfl (sem_move ((Value.pointer p17)) rfl ?_)
          refine Run.go rfl rfl rfl (sem_move ((Value.int .i64 (i4))) rfl ?_)
          refine Run.go rfl rfl rfl (sem_move ((Value.string s12)) rfl ?_)
          refine Run.go rfl rfl rfl (sem_callL [(Value.pointer p17), (Value.int .i64 (i4)), (Value.string s12)] (TF.goes_42) rfl rfl (Spec.mono hS fun v h20 hv => ?_))
          obtain ⟨i21, rfl, hS⟩ := hv
          obtain ⟨hT, hF⟩ := hS
          by_cases hb22 : (i21 : Int) = 0
          · have hS := hT hb22; clear hT hF
            refine Run.go rfl rfl rfl (sem_binI .i64 (i21) (0) (.bool true) rfl rfl (binI_eql_t hb22) ?_)
            refine Run.go rfl rfl rfl (sem_move ((Value.bool true)) rfl ?_)
            refine Run.go rfl rfl rfl (sem_move ((Value.pointer p15)) rfl ?_)
            refine Run.go rfl rfl rfl (sem_move ((Value.int .i64 (i4))) rfl ?_)
            refine Run.go rfl rfl rfl (sem_callL [(Value.pointer p15), (Value.int .i64 (i4))] (TF.goes_47) rfl rfl (Spec.mono hS fun v h23 hv => ?_))
            obtain ⟨s24, rfl, hS⟩ := hv
            refine Run.go rfl rfl rfl (sem_move ((Value.string s12)) rfl ?_)
            obtain ⟨hT, hF⟩ := hS
            by_cases hb25 : s24 = s12
            · have hS := hT hb25; clear hT hF
              refine Run.go rfl rfl rfl (sem_strEqT s24 s12 rfl rfl hb25 ?_)
              refine Run.go rfl rfl rfl (sem_pick true ((Value.bool true)) rfl rfl ?_)
              refine Run.go rfl rfl rfl (sem_move ((Value.bool true)) rfl ?_)
              refine Run.go rfl rfl rfl (sem_move ((Value.pointer p17)) rfl ?_)
              refine Run.go rfl rfl rfl (sem_move ((Value.int .i64 (i4))) rfl ?_)
              refine Run.go rfl rfl rfl (sem_callL [(Value.pointer p17), (Value.int .i64 (i4))] (TF.goes_48) rfl rfl (Spec.mono hS fun v h26 hv => ?_))
              obtain ⟨s27, rfl, hS⟩ := hv
              refine Run.go rfl rfl rfl (sem_move ((Value.string s12)) rfl ?_)
              obtain ⟨hT, hF⟩ := hS
              by_cases hb28 : s27 = s12
              · have hS := hT hb28; clear hT hF
                refine Run.go rfl rfl rfl (sem_strEqT s27 s12 rfl rfl hb28 ?_)
                refine Run.go rfl rfl rfl (sem_pick true ((Value.bool true)) rfl rfl ?_)
                refine Run.go rfl rfl rfl (sem_move ((Value.bool true)) rfl ?_)
                refine Run.go rfl rfl rfl (sem_move ((Value.pointer p15)) rfl ?_)
                refine Run.go rfl rfl rfl (sem_move ((Value.int .i64 (i4))) rfl ?_)
                refine Run.go rfl rfl rfl (sem_move ((Value.int .i64 (i5))) rfl ?_)
                refine Run.go rfl rfl rfl (sem_callL [(Value.pointer p15), (Value.int .i64 (i4)), (Value.int .i64 (i5))] (TF.goes_49) rfl rfl (Spec.mono hS fun v h29 hv => ?_))
                obtain ⟨i30, rfl, hS⟩ := hv
                refine Run.go rfl rfl rfl (sem_move ((Value.pointer p17)) rfl ?_)
                refine Run.go rfl rfl rfl (sem_move ((Value.int .i64 (i4))) rfl ?_)
                refine Run.go rfl rfl rfl (sem_move ((Value.int .i64 (i5))) rfl ?_)
                refine Run.go rfl rfl rfl (sem_callL [(Value.pointer p17), (Value.int .i64 (i4)), (Value.int .i64 (i5))] (TF.goes_49) rfl rfl (Spec.mono hS fun v h31 hv => ?_))
                obtain ⟨i32, rfl, hS⟩ := hv
                refine Run.go rfl rfl rfl (sem_binI .i64 (i30) (i32) ((Value.bool ((i30 : Int) == (i32)))) rfl rfl rfl ?_)
                refine Run.go rfl rfl rfl (sem_pick true ((Value.bool ((i30 : Int) == (i32)))) rfl rfl ?_)
                refine Run.go rfl rfl rfl (sem_assign ((Value.bool ((i30 : Int) == (i32)))) rfl ?_)
                refine Run.region_end ?_
                refine Run.ret ⟨.inr rfl, ?_⟩
                exact hS.imp fun h' hq => ⟨(((i30 : Int) == (i32))), rfl, hq⟩
              · have hS := hF hb28; clear hT hF
                refine Run.go rfl rfl rfl (sem_strEqF s27 s12 rfl rfl hb28 ?_)
                refine Run.go rfl rfl rfl (sem_pick true ((Value.bool false)) rfl rfl ?_)
                refine Run.go rfl rfl rfl (sem_move ((Value.bool false)) rfl ?_)
                refine Run.no rfl rfl rfl ?_
                refine Run.no rfl rfl rfl ?_
                refine Run.no rfl rfl rfl ?_
                refine Run.no rfl rfl rfl ?_
                refine Run.no rfl rfl rfl ?_
                refine Run.no rfl rfl rfl ?_
                refine Run.no rfl rfl rfl ?_
                refine Run.no rfl rfl rfl ?_
                refine Run.no rfl rfl rfl ?_
                refine Run.go rfl rfl rfl (sem_pick false ((Value.bool false)) rfl rfl ?_)
                refine Run.go rfl rfl rfl (sem_assign ((Value.bool false)) rfl ?_)
                refine Run.region_end ?_
                refine Run.ret ⟨.inr rfl, ?_⟩
                exact hS.imp fun h' hq => ⟨(false), rfl, hq⟩
            · have hS := hF hb25; clear hT hF
              refine Run.go rfl rfl rfl (sem_strEqF s24 s12 rfl rfl hb25 ?_)
              refine Run.go rfl rfl rfl (sem_pick true ((Value.bool false)) rfl rfl ?_)
              refine Run.go rfl rfl rfl (sem_move ((Value.bool false)) rfl ?_)
              refine Run.no rfl rfl rfl ?_
              refine Run.no rfl rfl rfl ?_
              refine Run.no rfl rfl rfl ?_
              refine Run.no rfl rfl rfl ?_
              refine Run.no rfl rfl rfl ?_
              refine Run.go rfl rfl rfl (sem_pick false ((Value.bool false)) rfl rfl ?_)
              refine Run.go rfl rfl rfl (sem_move ((Value.bool false)) rfl ?_)
              refine Run.no rfl rfl rfl ?_
              refine Run.no rfl rfl rfl ?_
              refine Run.no rfl rfl rfl ?_
              refine Run.no rfl rfl rfl ?_
              refine Run.no rfl rfl rfl ?_
              refine Run.no rfl rfl rfl ?_
              refine Run.no rfl rfl rfl ?_
              refine Run.no rfl rfl rfl ?_
              refine Run.no rfl rfl rfl ?_
              refine Run.go rfl rfl rfl (sem_pick false ((Value.bool false)) rfl rfl ?_)
              refine Run.go rfl rfl rfl (sem_assign ((Value.bool false)) rfl ?_)
              refine Run.region_end ?_
              refine Run.ret ⟨.inr rfl, ?_⟩
              exact hS.imp fun h' hq => ⟨(false), rfl, hq⟩
          · have hS := hF hb22; clear hT hF
            refine Run.go rfl rfl rfl (sem_binI .i64 (i21) (0) (.bool false) rfl rfl (binI_eql_f hb22) ?_)
            refine Run.go rfl rfl rfl (sem_move ((Value.bool false)) rfl ?_)
            refine Run.no rfl rfl rfl ?_
            refine Run.no rfl rfl rfl ?_
            refine Run.no rfl rfl rfl ?_
            refine Run.no rfl rfl rfl ?_
            refine Run.no rfl rfl rfl ?_
            refine Run.go rfl rfl rfl (sem_pick false ((Value.bool false)) rfl rfl ?_)
            refine Run.go rfl rfl rfl (sem_move ((Value.bool false)) rfl ?_)
            refine Run.no rfl rfl rfl ?_
            refine Run.no rfl rfl rfl ?_
            refine Run.no rfl rfl rfl ?_
            refine Run.no rfl rfl rfl ?_
            refine Run.no rfl rfl rfl ?_
            refine Run.go rfl rfl rfl (sem_pick false ((Value.bool false)) rfl rfl ?_)
            refine Run.go rfl rfl rfl (sem_move ((Value.bool false)) rfl ?_)
            refine Run.no rfl rfl rfl ?_
            refine Run.no rfl rfl rfl ?_
            refine Run.no rfl rfl rfl ?_
            refine Run.no rfl rfl rfl ?_
            refine Run.no rfl rfl rfl ?_
            refine Run.no rfl rfl rfl ?_
            refine Run.no rfl rfl rfl ?_
            refine Run.no rfl rfl rfl ?_
            refine Run.no rfl rfl rfl ?_
            refine Run.go rfl rfl rfl (sem_pick false ((Value.bool false)) rfl rfl ?_)
            refine Run.go rfl rfl rfl (sem_assign ((Value.bool false)) rfl ?_)
            refine Run.region_end ?_
            refine Run.ret ⟨.inr rfl, ?_⟩
            exact hS.imp fun h' hq => ⟨(false), rfl, hq⟩
        refine Run.seq ?_
        refine Run.ops0 (idx := [0, 1, 2]) rfl ?_
        refine Run.go rfl rfl rfl (sem_move ((Value.slice a1 n2 c3)) rfl ?_)
        refine Run.go rfl rfl rfl (sem_lenSl a1 n2 c3 rfl TF.sl_94 ?_)
        refine Run.go rfl rfl rfl (sem_move ((Value.int .i64 (0))) rfl ?_)
        refine Run.region_end ?_
        refine Run.block ?_
        obtain ⟨J38, m36, h0, hS⟩ := hS
        refine Run.of_fin (h0.imp fun h' h0 => ?_)
        refine Run.loop (σ := Int × Nat) (fun x e h => J38 x.1 x.2 h ∧ Agree [(1, (Value.int .i64 (i4))), (2, (Value.int .i64 (i5))), (7, (Value.string s12)), (10, (Value.pointer p15)), (11, (Value.pointer p17)), (42, (Value.slice a1 n2 c3)), (43, (Value.int .i64 ((n2 : Nat)))), (44, (Value.int .i64 (x.1)))] e) (fun x => x.2) ((0), m36) ⟨h0, ⟨rfl, rfl, rfl, rfl, rfl, rfl, rfl, rfl, trivial⟩⟩ ?_; clear h0
        rintro ⟨i33, m35⟩ e h34 ⟨hJ, hag⟩ ih37
        have hS := hS i33 m35 h34 hJ; clear hJ
        refine Run.env hag ?_; clear hag
        refine Run.seq ?_
        refine Run.ops0 (idx := [0]) rfl ?_
        obtain ⟨hT, hF⟩ := hS
        by_cases hb39 : (i33 : Int) < ((n2 : Nat))
        · have hS := hT hb39; clear hT hF
          refine Run.go rfl rfl rfl (sem_binI .i64 (i33) ((n2 : Nat)) (.bool true) rfl rfl (binI_lss_t hb39) ?_)
          refine Run.region_end ?_
          refine Run.seq ?_
          refine Run.condT rfl ?_
          refine Run.skip ?_
          refine Run.seq ?_
          refine Run.block ?_
          refine Run.seq ?_
          refine Run.ops0 (idx := [0, 1, 2]) rfl ?_
          obtain ⟨A40, e41, hi0, hi1, hS⟩ := hS
          refine Run.go rfl rfl rfl (sem_indexAddrS A40 n2 c3 .i64 (i33) (congrArg (fun a => Value.slice a n2 c3) e41) rfl TF.slc_94 hi0 hi1 ?_)
          obtain ⟨s42, hl, hS⟩ := hS
          refine Run.go rfl rfl rfl (sem_load1 (Addr.add A40 (Int.toNat (i33) * 1)) ((Value.string s42)) rfl TF.agg_9 hl ?_)
          refine Run.go rfl rfl rfl (sem_assign ((Value.string s42)) rfl ?_)
          refine Run.region_end ?_
          refine Run.seq ?_
          refine Run.ops0 (idx := [0, 1, 2, 3, 4]) rfl ?_
          refine Run.go rfl rfl rfl (sem_move ((Value.pointer p15)) rfl ?_)
          refine Run.go rfl rfl rfl (sem_move ((Value.int .i64 (i4))) rfl ?_)
          refine Run.go rfl rfl rfl (sem_move ((Value.string s42)) rfl ?_)
          refine Run.go rfl rfl rfl (sem_callL [(Value.pointer p15), (Value.int .i64 (i4)), (Value.string s42)] (TF.goes_42) rfl rfl (Spec.mono hS fun v h43 hv => ?_))
          obtain ⟨i44, rfl, hS⟩ := hv
          obtain ⟨hT, hF⟩ := hS
          by_cases hb45 : (i44 : Int) = 0
          · have hS := hT hb45; clear hT hF
            refine Run.go rfl rfl rfl (sem_binI .i64 (i44) (0) (.bool false) rfl rfl (binI_neq_t hb45) ?_)
            refine Run.region_end ?_
            refine Run.condF rfl ?_
            refine Run.skip ?_
            refine Run.inBlock ?_
            refine Run.ops0 (idx := [0, 1]) rfl ?_
            refine Run.go rfl rfl rfl (sem_binI .i64 (i33) (1) ((Value.int .i64 (IntKind.wrap .i64 ((i33) + (1))))) rfl rfl rfl ?_)
            refine Run.go rfl rfl rfl (sem_move ((Value.int .i64 (IntKind.wrap .i64 ((i33) + (1))))) rfl ?_)
            refine Run.region_end ?_
            exact Run.of_fin (hS.imp fun h' ⟨m', hm, hS⟩ => ih37 ((IntKind.wrap .i64 ((i33) + (1))), m') _ _ ⟨hS, ⟨rfl, rfl, rfl, rfl, rfl, rfl, rfl, rfl, trivial⟩⟩ hm)
          · have hS := hF hb45; clear hT hF
            refine Run.go rfl rfl rfl (sem_binI .i64 (i44) (0) (.bool true) rfl rfl (binI_neq_f hb45) ?_)
            refine Run.region_end ?_
            refine Run.condT rfl ?_
            refine Run.seq ?_
            refine Run.ops0 (idx := [0]) rfl ?_
            refine Run.go rfl rfl rfl (sem_assign ((Value.bool false)) rfl ?_)
            refine Run.region_end ?_
            refine Run.ret ⟨.inr rfl, ?_⟩
            exact hS.imp fun h' hq => ⟨(false), rfl, hq⟩
        · have hS := hF hb39; clear hT hF
          refine Run.go rfl rfl rfl (sem_binI .i64 (i33) ((n2 : Nat)) (.bool false) rfl rfl (binI_lss_f hb39) ?_)
          refine Run.region_end ?_
          refine Run.seq ?_
          refine Run.condF rfl ?_
          refine Run.exit rfl ?_
          exact Run.of_fin (hS.imp fun h' hS => j18 _ _ ⟨⟨rfl, rfl, rfl, rfl, rfl, trivial⟩, hS⟩)
      refine Run.seq ?_
      refine Run.ops0 (idx := [0, 1, 2]) rfl ?_
      refine Run.go rfl rfl rfl (sem_move ((Value.slice a1 n2 c3)) rfl ?_)
      refine Run.go rfl rfl rfl (sem_lenSl a1 n2 c3 rfl TF.sl_94 ?_)
      refine Run.go rfl rfl rfl (sem_move ((Value.int .i64 (0))) rfl ?_)
      refine Run.region_end ?_
      refine Run.block ?_
      obtain ⟨J52, m50, h0, hS⟩ := hS
      refine Run.of_fin (h0.imp fun h' h0 => ?_)
      refine Run.loop (σ := ByteArray × Int × Nat) (fun x e h => J52 x.1 x.2.1 x.2.2 h ∧ Agree [(0, (Value.slice a1 n2 c3)), (1, (Value.int .i64 (i4))), (2, (Value.int .i64 (i5))), (7, (Value.string x.1)), (24, (Value.slice a1 n2 c3)), (25, (Value.int .i64 ((n2 : Nat)))), (26, (Value.int .i64 (x.2.1)))] e) (fun x => x.2.2) ((ByteArray.mk #[]), (0), m50) ⟨h0, ⟨rfl, rfl, rfl, rfl, rfl, rfl, rfl, trivial⟩⟩ ?_; clear h0
      rintro ⟨s46, i47, m49⟩ e h48 ⟨hJ, hag⟩ ih51
      have hS := hS s46 i47 m49 h48 hJ; clear hJ
      refine Run.env hag ?_; clear hag
      refine Run.seq ?_
      refine Run.ops0 (idx := [0]) rfl ?_
      obtain ⟨hT, hF⟩ := hS
      by_cases hb53 : (i47 : Int) < ((n2 : Nat))
      · have hS := hT hb53; clear hT hF
        refine Run.go rfl rfl rfl (sem_binI .i64 (i47) ((n2 : Nat)) (.bool true) rfl rfl (binI_lss_t hb53) ?_)
        refine Run.region_end ?_
        refine Run.seq ?_
        refine Run.condT rfl ?_
        refine Run.skip ?_
        refine Run.seq ?_
        refine Run.block ?_
        refine Run.seq ?_
        refine Run.ops0 (idx := [0, 1, 2]) rfl ?_
        obtain ⟨A54, e55, hi0, hi1, hS⟩ := hS
        refine Run.go rfl rfl rfl (sem_indexAddrS A54 n2 c3 .i64 (i47) (congrArg (fun a => Value.slice a n2 c3) e55) rfl TF.slc_94 hi0 hi1 ?_)
        obtain ⟨s56, hl, hS⟩ := hS
        refine Run.go rfl rfl rfl (sem_load1 (Addr.add A54 (Int.toNat (i47) * 1)) ((Value.string s56)) rfl TF.agg_9 hl ?_)
        refine Run.go rfl rfl rfl (sem_assign ((Value.string s56)) rfl ?_)
        refine Run.region_end ?_
        refine Run.seq ?_
        refine Run.seq ?_
        refine Run.ops0 (idx := [0, 1, 2]) rfl ?_
        refine Run.go rfl rfl rfl (sem_move ((Value.string s56)) rfl ?_)
        refine Run.go rfl rfl rfl (sem_lenStr s56 rfl TF.isStr_9 ?_)
        obtain ⟨hT, hF⟩ := hS
        by_cases hb57 : ((ByteArray.size s56 : Nat) : Int) > (64)
        · have hS := hT hb57; clear hT hF
          refine Run.go rfl rfl rfl (sem_binI .i64 ((ByteArray.size s56 : Nat)) (64) (.bool true) rfl rfl (binI_gtr_t hb57) ?_)
          refine Run.region_end ?_
          refine Run.condT rfl ?_
          refine Run.seq ?_
          refine Run.ops0 (idx := [0]) rfl ?_
          refine Run.go rfl rfl rfl (sem_assign ((Value.bool true)) rfl ?_)
          refine Run.region_end ?_
          refine Run.ret ⟨.inr rfl, ?_⟩
          exact hS.imp fun h' hq => ⟨(true), rfl, hq⟩
        · have hS := hF hb57; clear hT hF
          refine Run.go rfl rfl rfl (sem_binI .i64 ((ByteArray.size s56 : Nat)) (64) (.bool false) rfl rfl (binI_gtr_f hb57) ?_)
          refine Run.region_end ?_
          refine Run.condF rfl ?_
          refine Run.skip ?_
          refine Run.seq ?_
          refine Run.ops0 (idx := [0, 1, 2, 3]) rfl ?_
          refine Run.go rfl rfl rfl (sem_move ((Value.string s46)) rfl ?_)
          refine Run.go rfl rfl rfl (sem_move ((Value.string s56)) rfl ?_)
          obtain ⟨hi0, hS⟩ := hS
          refine Run.go rfl rfl rfl (sem_strAdd s46 s56 rfl rfl hi0 ?_)
          refine Run.go rfl rfl rfl (sem_assign ((Value.string (s46 ++ s56))) rfl ?_)
          refine Run.region_end ?_
          refine Run.seq ?_
          refine Run.ops0 (idx := [0, 1, 2]) rfl ?_
          refine Run.go rfl rfl rfl (sem_move ((Value.string (s46 ++ s56))) rfl ?_)
          refine Run.go rfl rfl rfl (sem_lenStr (s46 ++ s56) rfl TF.isStr_9 ?_)
          obtain ⟨hT, hF⟩ := hS
          by_cases hb58 : ((ByteArray.size (s46 ++ s56) : Nat) : Int) > (64)
          · have hS := hT hb58; clear hT hF
            refine Run.go rfl rfl rfl (sem_binI .i64 ((ByteArray.size (s46 ++ s56) : Nat)) (64) (.bool true) rfl rfl (binI_gtr_t hb58) ?_)
            refine Run.region_end ?_
            refine Run.condT rfl ?_
            refine Run.seq ?_
            refine Run.ops0 (idx := [0]) rfl ?_
            refine Run.go rfl rfl rfl (sem_assign ((Value.bool true)) rfl ?_)
            refine Run.region_end ?_
            refine Run.ret ⟨.inr rfl, ?_⟩
            exact hS.imp fun h' hq => ⟨(true), rfl, hq⟩
          · have hS := hF hb58; clear hT hF
            refine Run.go rfl rfl rfl (sem_binI .i64 ((ByteArray.size (s46 ++ s56) : Nat)) (64) (.bool false) rfl rfl (binI_gtr_f hb58) ?_)
            refine Run.region_end ?_
            refine Run.condF rfl ?_
            refine Run.skip ?_
            refine Run.inBlock ?_
            refine Run.ops0 (idx := [0, 1]) rfl ?_
            refine Run.go rfl rfl rfl (sem_binI .i64 (i47) (1) ((Value.int .i64 (IntKind.wrap .i64 ((i47) + (1))))) rfl rfl rfl ?_)
            refine Run.go rfl rfl rfl (sem_move ((Value.int .i64 (IntKind.wrap .i64 ((i47) + (1))))) rfl ?_)
            refine Run.region_end ?_
            exact Run.of_fin (hS.imp fun h' ⟨m', hm, hS⟩ => ih51 ((s46 ++ s56), (IntKind.wrap .i64 ((i47) + (1))), m') _ _ ⟨hS, ⟨rfl, rfl, rfl, rfl, rfl, rfl, rfl, trivial⟩⟩ hm)
      · have hS := hF hb53; clear hT hF
        refine Run.go rfl rfl rfl (sem_binI .i64 (i47) ((n2 : Nat)) (.bool false) rfl rfl (binI_lss_f hb53) ?_)
        refine Run.region_end ?_
        refine Run.seq ?_
        refine Run.condF rfl ?_
        refine Run.exit rfl ?_
        exact Run.of_fin (hS.imp fun h' hS => j11 _ _ ⟨s46, ⟨rfl, rfl, rfl, rfl, trivial⟩, hS⟩)
    refine Run.seq ?_
    refine Run.ops0 (idx := [0, 1, 2, 3, 4, 5, 6, 7]) rfl ?_
    refine Run.go rfl rfl rfl (sem_move ((Value.slice a1 n2 c3)) rfl ?_)
    refine Run.go rfl rfl rfl (sem_lenSl a1 n2 c3 rfl TF.sl_94 ?_)
    obtain ⟨hT, hF⟩ := hS
    by_cases hb59 : ((n2 : Nat) : Int) > (30)
    · have hS := hT hb59; clear hT hF
      refine Run.go rfl rfl rfl (sem_binI .i64 ((n2 : Nat)) (30) (.bool true) rfl rfl (binI_gtr_t hb59) ?_)
      refine Run.go rfl rfl rfl (sem_move ((Value.bool true)) rfl ?_)
      refine Run.no rfl rfl rfl ?_
      refine Run.no rfl rfl rfl ?_
      refine Run.no rfl rfl rfl ?_
      refine Run.go rfl rfl rfl (sem_pick true ((Value.bool true)) rfl rfl ?_)
      refine Run.region_end ?_
      refine Run.condT rfl ?_
      refine Run.seq ?_
      refine Run.ops0 (idx := [0]) rfl ?_
      refine Run.go rfl rfl rfl (sem_assign ((Value.bool true)) rfl ?_)
      refine Run.region_end ?_
      refine Run.ret ⟨.inr rfl, ?_⟩
      exact hS.imp fun h' hq => ⟨(true), rfl, hq⟩
    · have hS := hF hb59; clear hT hF
      refine Run.go rfl rfl rfl (sem_binI .i64 ((n2 : Nat)) (30) (.bool false) rfl rfl (binI_gtr_f hb59) ?_)
      refine Run.go rfl rfl rfl (sem_move ((Value.bool false)) rfl ?_)
      refine Run.go rfl rfl rfl (sem_move ((Value.int .i64 (i4))) rfl ?_)
      refine Run.go rfl rfl rfl (sem_callL [(Value.int .i64 (i4))] (TF.goes_46) rfl rfl (Spec.mono hS fun v h60 hv => ?_))
      obtain ⟨b61, rfl, hS⟩ := hv
      obtain ⟨hT, hF⟩ := hS
      cases b61
      · have hS := hF rfl; clear hT hF
        refine Run.go rfl rfl rfl (sem_not false rfl ?_)
        refine Run.go rfl rfl rfl (sem_pick false ((Value.bool true)) rfl rfl ?_)
        refine Run.region_end ?_
        refine Run.condT rfl ?_
        refine Run.seq ?_
        refine Run.ops0 (idx := [0]) rfl ?_
        refine Run.go rfl rfl rfl (sem_assign ((Value.bool true)) rfl ?_)
        refine Run.region_end ?_
        refine Run.ret ⟨.inr rfl, ?_⟩
        exact hS.imp fun h' hq => ⟨(true), rfl, hq⟩
      · have hS := hT rfl; clear hT hF
        refine Run.go rfl rfl rfl (sem_not true rfl ?_)
        refine Run.go rfl rfl rfl (sem_pick false ((Value.bool false)) rfl rfl ?_)
        refine Run.region_end ?_
        refine Run.condF rfl ?_
        refine Run.skip ?_
        exact Run.of_fin (hS.imp fun h' hS => j9 _ _ ⟨⟨rfl, rfl, rfl, trivial⟩, hS⟩)
set_option maxHeartbeats 4000000 in
theorem C_cell_New_int.of {B : RO} {i1 : Int} {i2 : Int} {h : Heap} {Q : Option Addr → Heap → Prop} (hS : S_cell_New_int B i1 i2 h Q) : C_cell_New_int B i1 i2 h Q := by
  unfold S_cell_New_int at hS
  unfold C_cell_New_int
  refine Spec.of_run Try.func21 (N := 24) (rs := [ResultVar.tmp 4]) rfl rfl rfl (Nat.le_of_ble_eq_true rfl) ?_
  refine Run.seq ?_
  refine Run.ops0 (idx := [0]) rfl ?_
  refine Run.go rfl rfl rfl (sem_assign ((Value.pointer none)) rfl ?_)
  refine Run.region_end ?_
  refine Run.seq ?_
  refine Run.ops0 (idx := [0, 1, 2]) rfl ?_
  refine Run.go rfl rfl rfl (sem_buildSL [] [(Value.slice none 0 0)] TF.zero_127 TF.places_127 rfl rfl ?_)
  refine Run.go rfl rfl rfl (sem_boxNN [(Value.slice none 0 0)] rfl (fun k4 hb1 hb2 h5 hb3 => ?_))
  have hS := hS k4 hb1 hb2 h5 hb3
  refine Run.go rfl rfl rfl (sem_assign ((Value.pointer (some ⟨k4, 0, none⟩))) rfl ?_)
  refine Run.region_end ?_
  refine Run.seq ?_
  refine Run.seq ?_
  refine Run.ops0 (idx := [0, 1]) rfl ?_
  refine Run.go rfl rfl rfl (sem_move ((Value.int .i64 (i1))) rfl ?_)
  refine Run.go rfl rfl rfl (sem_move ((Value.int .i64 (0))) rfl ?_)
  refine Run.region_end ?_
  refine Run.block ?_
  obtain ⟨J11, m9, h0, hS⟩ := hS
  refine Run.of_fin (h0.imp fun h' h0 => ?_)
  refine Run.loop (σ := Int × Nat) (fun x e h => J11 x.1 x.2 h ∧ Agree [(1, (Value.int .i64 (i2))), (5, (Value.pointer (some ⟨k4, 0, none⟩))), (8, (Value.int .i64 (i1))), (9, (Value.int .i64 (x.1)))] e) (fun x => x.2) ((0), m9) ⟨h0, ⟨rfl, rfl, rfl, rfl, trivial⟩⟩ ?_; clear h0
  rintro ⟨i6, m8⟩ e h7 ⟨hJ, hag⟩ ih10
  have hS := hS i6 m8 h7 hJ; clear hJ
  refine Run.env hag ?_; clear hag
  refine Run.seq ?_
  refine Run.ops0 (idx := [0]) rfl ?_
  obtain ⟨hT, hF⟩ := hS
  by_cases hb12 : (i6 : Int) < (i1)
  · have hS := hT hb12; clear hT hF
    refine Run.go rfl rfl rfl (sem_binI .i64 (i6) (i1) (.bool true) rfl rfl (binI_lss_t hb12) ?_)
    refine Run.region_end ?_
    refine Run.seq ?_
    refine Run.condT rfl ?_
    refine Run.skip ?_
    refine Run.seq ?_
    refine Run.block ?_
    refine Run.ops0 (idx := [0, 1, 2, 3, 4, 5, 6, 7, 8, 9, 10, 11]) rfl ?_
    refine Run.go rfl rfl rfl (sem_move ((Value.pointer (some ⟨k4, 0, none⟩))) rfl ?_)
    refine Run.go rfl rfl rfl (sem_move ((Value.pointer (some ⟨k4, 0, none⟩))) rfl ?_)
    refine Run.go rfl rfl rfl (sem_nilCheck ⟨k4, 0, none⟩ rfl ?_)
    refine Run.go rfl rfl rfl (sem_fieldAddr ⟨k4, 0, none⟩ 0 rfl TF.fld_127_0 ?_)
    refine Run.ldSl hS fun a13 n14 c15 h16 hl hS => ?_
    refine Run.go rfl rfl rfl (sem_load1 ⟨k4, 0, none⟩ ((Value.slice a13 n14 c15)) rfl TF.agg_125 hl ?_)
    refine Run.go rfl rfl rfl (sem_move ((Value.int .i64 (i2))) rfl ?_)
    refine Run.go rfl rfl rfl (sem_buildSL [(0, (Value.int .i64 (i2)))] [(Value.int .i64 (i2)), (Value.int .i64 (0))] TF.zero_129 TF.places_129 rfl rfl ?_)
    refine Run.go rfl rfl rfl (sem_buildSliceL [(0, (Value.agg #[(Value.int .i64 (i2)), (Value.int .i64 (0))]))] [(Value.int .i64 (i2)), (Value.int .i64 (0))] TF.slc_125 TF.zero_129 rfl (by decide) (by decide) rfl rfl (fun k17 hb1 hb2 h18 hb3 => ?_))
    have hS := hS k17 hb1 hb2 h18 hb3
    refine Run.go rfl rfl rfl (sem_appendL [(Value.slice a13 n14 c15), (Value.slice (some ⟨k17, 0, none⟩) 1 1)] rfl (semH_mono (fun v h19 hv => ?_) hS))
    obtain ⟨a20, n21, c22, rfl, hS⟩ := hv
    refine Run.go rfl rfl rfl (sem_nilCheck ⟨k4, 0, none⟩ rfl ?_)
    refine Run.go rfl rfl rfl (sem_fieldAddr ⟨k4, 0, none⟩ 0 rfl TF.fld_127_0 ?_)
    obtain ⟨h23, hst, hS⟩ := hS
    refine Run.go rfl rfl rfl (sem_store1 ⟨k4, 0, none⟩ ((Value.slice a20 n21 c22)) h23 rfl rfl rfl TF.sz_125 hst ?_)
    refine Run.region_end ?_
    refine Run.inBlock ?_
    refine Run.ops0 (idx := [0, 1]) rfl ?_
    refine Run.go rfl rfl rfl (sem_binI .i64 (i6) (1) ((Value.int .i64 (IntKind.wrap .i64 ((i6) + (1))))) rfl rfl rfl ?_)
    refine Run.go rfl rfl rfl (sem_move ((Value.int .i64 (IntKind.wrap .i64 ((i6) + (1))))) rfl ?_)
    refine Run.region_end ?_
    exact Run.of_fin (hS.imp fun h' ⟨m', hm, hS⟩ => ih10 ((IntKind.wrap .i64 ((i6) + (1))), m') _ _ ⟨hS, ⟨rfl, rfl, rfl, rfl, trivial⟩⟩ hm)
  · have hS := hF hb12; clear hT hF
    refine Run.go rfl rfl rfl (sem_binI .i64 (i6) (i1) (.bool false) rfl rfl (binI_lss_f hb12) ?_)
    refine Run.region_end ?_
    refine Run.seq ?_
    refine Run.condF rfl ?_
    refine Run.exit rfl ?_
    refine Run.seq ?_
    refine Run.ops0 (idx := [0, 1]) rfl ?_
    refine Run.go rfl rfl rfl (sem_move ((Value.pointer (some ⟨k4, 0, none⟩))) rfl ?_)
    refine Run.go rfl rfl rfl (sem_assign ((Value.pointer (some ⟨k4, 0, none⟩))) rfl ?_)
    refine Run.region_end ?_
    refine Run.ret ⟨.inr rfl, ?_⟩
    exact hS.imp fun h' hq => ⟨(some ⟨k4, 0, none⟩), rfl, hq⟩
set_option maxHeartbeats 4000000 in
theorem C_cell_Row_int_Set.of {B : RO} {p1 : Option Addr} {i2 : Int} {i3 : Int} {i4 : Int} {h : Heap} {Q : Bool → Heap → Prop} (hS : S_cell_Row_int_Set B p1 i2 i3 i4 h Q) : C_cell_Row_int_Set B p1 i2 i3 i4 h Q := by
  unfold S_cell_Row_int_Set at hS
  unfold C_cell_Row_int_Set
  refine Spec.of_run Try.func22 (N := 22) (rs := [ResultVar.tmp 8]) rfl rfl rfl (Nat.le_of_ble_eq_true rfl) ?_
  refine Run.seq ?_
  refine Run.ops0 (idx := [0]) rfl ?_
  refine Run.go rfl rfl rfl (sem_assign ((Value.bool false)) rfl ?_)
  refine Run.region_end ?_
  refine Run.seq ?_
  refine Run.seq ?_
  refine Run.ops0 (idx := [0, 1, 2, 3]) rfl ?_
  refine Run.go rfl rfl rfl (sem_move ((Value.pointer p1)) rfl ?_)
  refine Run.go rfl rfl rfl (sem_move ((Value.int .i64 (i2))) rfl ?_)
  refine Run.go rfl rfl rfl (sem_callL [(Value.pointer p1), (Value.int .i64 (i2))] (TF.goes_68) rfl rfl (Spec.mono hS fun v h6 hv => ?_))
  obtain ⟨b7, rfl, hS⟩ := hv
  obtain ⟨hT, hF⟩ := hS
  cases b7
  · have hS := hF rfl; clear hT hF
    refine Run.go rfl rfl rfl (sem_not false rfl ?_)
    refine Run.region_end ?_
    refine Run.condT rfl ?_
    refine Run.seq ?_
    refine Run.ops0 (idx := [0]) rfl ?_
    refine Run.go rfl rfl rfl (sem_assign ((Value.bool false)) rfl ?_)
    refine Run.region_end ?_
    refine Run.ret ⟨.inr rfl, ?_⟩
    exact hS.imp fun h' hq => ⟨(false), rfl, hq⟩
  · have hS := hT rfl; clear hT hF
    refine Run.go rfl rfl rfl (sem_not true rfl ?_)
    refine Run.region_end ?_
    refine Run.condF rfl ?_
    refine Run.skip ?_
    refine Run.seq ?_
    refine Run.ops0 (idx := [0, 1, 2, 3, 4, 5, 6, 7, 8, 9]) rfl ?_
    refine Run.go rfl rfl rfl (sem_move ((Value.pointer p1)) rfl ?_)
    obtain ⟨A8, e9, hS⟩ := hS
    refine Run.go rfl rfl rfl (sem_nilCheck A8 (congrArg Value.pointer e9) ?_)
    refine Run.go rfl rfl rfl (sem_fieldAddr A8 0 rfl TF.fld_127_0 ?_)
    refine Run.ldSl hS fun a10 n11 c12 h13 hl hS => ?_
    refine Run.go rfl rfl rfl (sem_load1 A8 ((Value.slice a10 n11 c12)) rfl TF.agg_125 hl ?_)
    refine Run.go rfl rfl rfl (sem_move ((Value.int .i64 (i2))) rfl ?_)
    refine Run.go rfl rfl rfl (sem_move ((Value.int .i64 (i3))) rfl ?_)
    refine Run.go rfl rfl rfl (sem_move ((Value.int .i64 (i4))) rfl ?_)
    refine Run.go rfl rfl rfl (sem_buildSL [(0, (Value.int .i64 (i3))), (1, (Value.int .i64 (i4)))] [(Value.int .i64 (i3)), (Value.int .i64 (i4))] TF.zero_129 TF.places_129 rfl rfl ?_)
    obtain ⟨A14, e15, hi0, hi1, hS⟩ := hS
    refine Run.go rfl rfl rfl (sem_indexAddrS A14 n11 c12 .i64 (i2) (congrArg (fun a => Value.slice a n11 c12) e15) rfl TF.slc_125 hi0 hi1 ?_)
    obtain ⟨h16, hst, hS⟩ := hS
    refine Run.go rfl rfl rfl (sem_storeN (Addr.add A14 (Int.toNat (i2) * 2)) [(Value.int .i64 (i3)), (Value.int .i64 (i4))] h16 rfl rfl TF.sz_129 hst ?_)
    refine Run.region_end ?_
    refine Run.seq ?_
    refine Run.ops0 (idx := [0]) rfl ?_
    refine Run.go rfl rfl rfl (sem_assign ((Value.bool true)) rfl ?_)
    refine Run.region_end ?_
    refine Run.ret ⟨.inr rfl, ?_⟩
    exact hS.imp fun h' hq => ⟨(true), rfl, hq⟩
set_option maxHeartbeats 4000000 in
theorem C_cell_Row_int_Get.of {B : RO} {p1 : Option Addr} {i2 : Int} {h : Heap} {Q : Int → Int → Heap → Prop} (hS : S_cell_Row_int_Get B p1 i2 h Q) : C_cell_Row_int_Get B p1 i2 h Q := by
  unfold S_cell_Row_int_Get at hS
  unfold C_cell_Row_int_Get
  refine Spec.of_run Try.func30 (N := 28) (rs := [ResultVar.tmp 4, ResultVar.tmp 5]) rfl rfl rfl (Nat.le_of_ble_eq_true rfl) ?_
  refine Run.seq ?_
  refine Run.ops0 (idx := [0, 1]) rfl ?_
  refine Run.go rfl rfl rfl (sem_assign ((Value.int .i64 (0))) rfl ?_)
  refine Run.go rfl rfl rfl (sem_assign ((Value.int .i64 (0))) rfl ?_)
  refine Run.region_end ?_
  refine Run.seq ?_
  refine Run.seq ?_
  refine Run.ops0 (idx := [0, 1, 2, 3]) rfl ?_
  refine Run.go rfl rfl rfl (sem_move ((Value.pointer p1)) rfl ?_)
  refine Run.go rfl rfl rfl (sem_move ((Value.int .i64 (i2))) rfl ?_)
  refine Run.go rfl rfl rfl (sem_callL [(Value.pointer p1), (Value.int .i64 (i2))] (TF.goes_68) rfl rfl (Spec.mono hS fun v h5 hv => ?_))
  obtain ⟨b6, rfl, hS⟩ := hv
  obtain ⟨hT, hF⟩ := hS
  cases b6
  · have hS := hF rfl; clear hT hF
    refine Run.go rfl rfl rfl (sem_not false rfl ?_)
    refine Run.region_end ?_
    refine Run.condT rfl ?_
    refine Run.seq ?_
    refine Run.ops0 (idx := [0]) rfl ?_
    refine Run.go rfl rfl rfl (sem_assign ((Value.int .i64 (0))) rfl ?_)
    refine Run.region_end ?_
    refine Run.seq ?_
    refine Run.ops0 (idx := [0, 1, 2]) rfl ?_
    refine Run.go rfl rfl rfl (sem_move ((Value.int .i64 (0))) rfl ?_)
    refine Run.go rfl rfl rfl (sem_assign ((Value.int .i64 (0))) rfl ?_)
    refine Run.go rfl rfl rfl (sem_assign ((Value.int .i64 (0))) rfl ?_)
    refine Run.region_end ?_
    refine Run.ret ⟨.inr rfl, ?_⟩
    exact hS.imp fun h' hq => ⟨(0), (0), rfl, hq⟩
  · have hS := hT rfl; clear hT hF
    refine Run.go rfl rfl rfl (sem_not true rfl ?_)
    refine Run.region_end ?_
    refine Run.condF rfl ?_
    refine Run.skip ?_
    refine Run.seq ?_
    refine Run.draw (fun h' => h' = h5) [] [.q 0, .q 1, .q 2, .q 3, .q 4, .q 5, .q 6, .q 7, .q 8, .q 9, .q 10, .q 11, .q 12, .q 13, .q 14, .q 15, .q 16, .q 17] TF.mixed (by kernel_rfl) rfl ?_
    refine RunO.quiet rfl rfl rfl (quiet_eq (sem_move ((Value.pointer p1)) rfl ⟨rfl, rfl⟩)) ?_
    obtain ⟨A7, e8, hS⟩ := hS
    refine RunO.quiet rfl rfl rfl (quiet_eq (sem_nilCheck A7 (congrArg Value.pointer e8) ⟨rfl, rfl⟩)) ?_
    refine RunO.quiet rfl rfl rfl (quiet_eq (sem_fieldAddr A7 0 rfl TF.fld_127_0 ⟨rfl, rfl⟩)) ?_
    obtain ⟨a9, n10, c11, hl, hS⟩ := hS
    refine RunO.quiet rfl rfl rfl (quiet_eq (sem_load1 A7 ((Value.slice a9 n10 c11)) rfl TF.agg_125 hl ⟨rfl, rfl⟩)) ?_
    refine RunO.quiet rfl rfl rfl (quiet_eq (sem_move ((Value.int .i64 (i2))) rfl ⟨rfl, rfl⟩)) ?_
    obtain ⟨A12, e13, hi0, hi1, hS⟩ := hS
    refine RunO.quiet rfl rfl rfl (quiet_eq (sem_indexAddrS A12 n10 c11 .i64 (i2) (congrArg (fun a => Value.slice a n10 c11) e13) rfl TF.slc_125 hi0 hi1 ⟨rfl, rfl⟩)) ?_
    refine RunO.quiet rfl rfl rfl (quiet_eq (sem_fieldAddr (Addr.add A12 (Int.toNat (i2) * 2)) 0 rfl TF.fld_129_0 ⟨rfl, rfl⟩)) ?_
    obtain ⟨i14, hl, hS⟩ := hS
    refine RunO.quiet rfl rfl rfl (quiet_eq (sem_load1 (Addr.add A12 (Int.toNat (i2) * 2)) ((Value.int .i64 (i14))) rfl TF.agg_3 hl ⟨rfl, rfl⟩)) ?_
    refine RunO.quiet rfl rfl rfl (quiet_eq (sem_move ((Value.pointer p1)) rfl ⟨rfl, rfl⟩)) ?_
    obtain ⟨A15, e16, hS⟩ := hS
    refine RunO.quiet rfl rfl rfl (quiet_eq (sem_nilCheck A15 (congrArg Value.pointer e16) ⟨rfl, rfl⟩)) ?_
    refine RunO.quiet rfl rfl rfl (quiet_eq (sem_fieldAddr A15 0 rfl TF.fld_127_0 ⟨rfl, rfl⟩)) ?_
    obtain ⟨a17, n18, c19, hl, hS⟩ := hS
    refine RunO.quiet rfl rfl rfl (quiet_eq (sem_load1 A15 ((Value.slice a17 n18 c19)) rfl TF.agg_125 hl ⟨rfl, rfl⟩)) ?_
    refine RunO.quiet rfl rfl rfl (quiet_eq (sem_move ((Value.int .i64 (i2))) rfl ⟨rfl, rfl⟩)) ?_
    obtain ⟨A20, e21, hi0, hi1, hS⟩ := hS
    refine RunO.quiet rfl rfl rfl (quiet_eq (sem_indexAddrS A20 n18 c19 .i64 (i2) (congrArg (fun a => Value.slice a n18 c19) e21) rfl TF.slc_125 hi0 hi1 ⟨rfl, rfl⟩)) ?_
    refine RunO.quiet rfl rfl rfl (quiet_eq (sem_fieldAddr (Addr.add A20 (Int.toNat (i2) * 2)) 1 rfl TF.fld_129_1 ⟨rfl, rfl⟩)) ?_
    obtain ⟨i22, hl, hS⟩ := hS
    refine RunO.quiet rfl rfl rfl (quiet_eq (sem_load1 (Addr.add (Addr.add A20 (Int.toNat (i2) * 2)) 1) ((Value.int .i64 (i22))) rfl TF.agg_3 hl ⟨rfl, rfl⟩)) ?_
    refine RunO.quiet rfl rfl rfl (quiet_eq (sem_assign ((Value.int .i64 (i14))) rfl ⟨rfl, rfl⟩)) ?_
    refine RunO.quiet rfl rfl rfl (quiet_eq (sem_assign ((Value.int .i64 (i22))) rfl ⟨rfl, rfl⟩)) ?_
    refine Run.ret ⟨.inr rfl, ?_⟩
    exact hS.imp fun h' hq => ⟨(i14), (i22), rfl, hq⟩
set_option maxHeartbeats 4000000 in
theorem C_cell_Row_int_Version.of {B : RO} {p1 : Option Addr} {i2 : Int} {h : Heap} {Q : Int → Heap → Prop} (hS : S_cell_Row_int_Version B p1 i2 h Q) : C_cell_Row_int_Version B p1 i2 h Q := by
  unfold S_cell_Row_int_Version at hS
  unfold C_cell_Row_int_Version
  refine Spec.of_run Try.func32 (N := 14) (rs := [ResultVar.tmp 4]) rfl rfl rfl (Nat.le_of_ble_eq_true rfl) ?_
  refine Run.seq ?_
  refine Run.ops0 (idx := [0]) rfl ?_
  refine Run.go rfl rfl rfl (sem_assign ((Value.int .i64 (0))) rfl ?_)
  refine Run.region_end ?_
  refine Run.seq ?_
  refine Run.ops0 (idx := [0, 1, 2, 3, 4, 5, 6, 7]) rfl ?_
  refine Run.go rfl rfl rfl (sem_move ((Value.pointer p1)) rfl ?_)
  refine Run.go rfl rfl rfl (sem_move ((Value.int .i64 (i2))) rfl ?_)
  refine Run.go rfl rfl rfl (sem_callL [(Value.pointer p1), (Value.int .i64 (i2))] (TF.goes_30) rfl rfl (Spec.mono hS fun v h4 hv => ?_))
  obtain ⟨i5, i6, rfl, hS⟩ := hv
  refine Run.go rfl rfl rfl (sem_move ((Value.tuple #[(Value.int .i64 (i5)), (Value.int .i64 (i6))])) rfl ?_)
  refine Run.go rfl rfl rfl (sem_extract #[(Value.int .i64 (i5)), (Value.int .i64 (i6))] ((Value.int .i64 (i5))) rfl rfl ?_)
  refine Run.go rfl rfl rfl (sem_extract #[(Value.int .i64 (i5)), (Value.int .i64 (i6))] ((Value.int .i64 (i6))) rfl rfl ?_)
  refine Run.go rfl rfl rfl (sem_assign ((Value.int .i64 (i5))) rfl ?_)
  refine Run.go rfl rfl rfl (sem_assign ((Value.int .i64 (i6))) rfl ?_)
  refine Run.region_end ?_
  refine Run.seq ?_
  refine Run.ops0 (idx := [0, 1]) rfl ?_
  refine Run.go rfl rfl rfl (sem_move ((Value.int .i64 (i6))) rfl ?_)
  refine Run.go rfl rfl rfl (sem_assign ((Value.int .i64 (i6))) rfl ?_)
  refine Run.region_end ?_
  refine Run.ret ⟨.inr rfl, ?_⟩
  exact hS.imp fun h' hq => ⟨(i6), rfl, hq⟩
set_option maxHeartbeats 4000000 in
theorem C_countermandlaw11_alive.of {B : RO} {h : Heap} {Q : Bool → Heap → Prop} (hS : S_countermandlaw11_alive B h Q) : C_countermandlaw11_alive B h Q := by
  unfold S_countermandlaw11_alive at hS
  unfold C_countermandlaw11_alive
  refine Spec.of_run Try.func40 (N := 20) (rs := [ResultVar.tmp 0]) rfl rfl rfl (Nat.le_of_ble_eq_true rfl) ?_
  refine Run.seq ?_
  refine Run.ops0 (idx := [0]) rfl ?_
  refine Run.go rfl rfl rfl (sem_assign ((Value.bool false)) rfl ?_)
  refine Run.region_end ?_
  refine Run.seq ?_
  refine Run.ops0 (idx := [0, 1]) rfl ?_
  refine Run.go rfl rfl rfl (sem_callL [] (TF.goes_41) rfl rfl (Spec.mono hS fun v h2 hv => ?_))
  obtain ⟨p3, rfl, hS⟩ := hv
  refine Run.go rfl rfl rfl (sem_assign ((Value.pointer p3)) rfl ?_)
  refine Run.region_end ?_
  refine Run.seq ?_
  refine Run.ops0 (idx := [0, 1, 2, 3, 4, 5, 6, 7, 8, 9, 10, 11, 12, 13, 14, 15, 16, 17]) rfl ?_
  refine Run.go rfl rfl rfl (sem_move ((Value.pointer p3)) rfl ?_)
  refine Run.go rfl rfl rfl (sem_callL [(Value.pointer p3), (Value.int .i64 (0)), (Value.string (ByteArray.mk #[97, 98]))] (TF.goes_42) rfl rfl (Spec.mono hS fun v h4 hv => ?_))
  obtain ⟨i5, rfl, hS⟩ := hv
  obtain ⟨hT, hF⟩ := hS
  by_cases hb6 : (i5 : Int) = 0
  · have hS := hT hb6; clear hT hF
    refine Run.go rfl rfl rfl (sem_binI .i64 (i5) (0) (.bool true) rfl rfl (binI_eql_t hb6) ?_)
    refine Run.go rfl rfl rfl (sem_move ((Value.bool true)) rfl ?_)
    refine Run.go rfl rfl rfl (sem_move ((Value.pointer p3)) rfl ?_)
    refine Run.go rfl rfl rfl (sem_callL [(Value.pointer p3), (Value.int .i64 (0)), (Value.int .i64 (1)), (Value.int .i64 (5))] (TF.goes_44) rfl rfl (Spec.mono hS fun v h7 hv => ?_))
    obtain ⟨b8, rfl, hS⟩ := hv
    obtain ⟨hT, hF⟩ := hS
    cases b8
    · have hS := hF rfl; clear hT hF
      refine Run.go rfl rfl rfl (sem_pick true ((Value.bool false)) rfl rfl ?_)
      refine Run.go rfl rfl rfl (sem_move ((Value.bool false)) rfl ?_)
      refine Run.no rfl rfl rfl ?_
      refine Run.no rfl rfl rfl ?_
      refine Run.no rfl rfl rfl ?_
      refine Run.go rfl rfl rfl (sem_pick false ((Value.bool false)) rfl rfl ?_)
      refine Run.go rfl rfl rfl (sem_move ((Value.bool false)) rfl ?_)
      refine Run.no rfl rfl rfl ?_
      refine Run.no rfl rfl rfl ?_
      refine Run.no rfl rfl rfl ?_
      refine Run.go rfl rfl rfl (sem_pick false ((Value.bool false)) rfl rfl ?_)
      refine Run.go rfl rfl rfl (sem_assign ((Value.bool false)) rfl ?_)
      refine Run.region_end ?_
      refine Run.ret ⟨.inr rfl, ?_⟩
      exact hS.imp fun h' hq => ⟨(false), rfl, hq⟩
    · have hS := hT rfl; clear hT hF
      refine Run.go rfl rfl rfl (sem_pick true ((Value.bool true)) rfl rfl ?_)
      refine Run.go rfl rfl rfl (sem_move ((Value.bool true)) rfl ?_)
      refine Run.go rfl rfl rfl (sem_move ((Value.pointer p3)) rfl ?_)
      refine Run.go rfl rfl rfl (sem_callL [(Value.pointer p3), (Value.int .i64 (0))] (TF.goes_48) rfl rfl (Spec.mono hS fun v h9 hv => ?_))
      obtain ⟨s10, rfl, hS⟩ := hv
      obtain ⟨hT, hF⟩ := hS
      by_cases hb11 : s10 = (ByteArray.mk #[98])
      · have hS := hT hb11; clear hT hF
        refine Run.go rfl rfl rfl (sem_strEqT s10 (ByteArray.mk #[98]) rfl rfl hb11 ?_)
        refine Run.go rfl rfl rfl (sem_pick true ((Value.bool true)) rfl rfl ?_)
        refine Run.go rfl rfl rfl (sem_move ((Value.bool true)) rfl ?_)
        refine Run.go rfl rfl rfl (sem_move ((Value.pointer p3)) rfl ?_)
        refine Run.go rfl rfl rfl (sem_callL [(Value.pointer p3), (Value.int .i64 (0)), (Value.int .i64 (0))] (TF.goes_49) rfl rfl (Spec.mono hS fun v h12 hv => ?_))
        obtain ⟨i13, rfl, hS⟩ := hv
        refine Run.go rfl rfl rfl (sem_binI .i64 (i13) (97) ((Value.bool ((i13 : Int) == (97)))) rfl rfl rfl ?_)
        refine Run.go rfl rfl rfl (sem_pick true ((Value.bool ((i13 : Int) == (97)))) rfl rfl ?_)
        refine Run.go rfl rfl rfl (sem_assign ((Value.bool ((i13 : Int) == (97)))) rfl ?_)
        refine Run.region_end ?_
        refine Run.ret ⟨.inr rfl, ?_⟩
        exact hS.imp fun h' hq => ⟨(((i13 : Int) == (97))), rfl, hq⟩
      · have hS := hF hb11; clear hT hF
        refine Run.go rfl rfl rfl (sem_strEqF s10 (ByteArray.mk #[98]) rfl rfl hb11 ?_)
        refine Run.go rfl rfl rfl (sem_pick true ((Value.bool false)) rfl rfl ?_)
        refine Run.go rfl rfl rfl (sem_move ((Value.bool false)) rfl ?_)
        refine Run.no rfl rfl rfl ?_
        refine Run.no rfl rfl rfl ?_
        refine Run.no rfl rfl rfl ?_
        refine Run.go rfl rfl rfl (sem_pick false ((Value.bool false)) rfl rfl ?_)
        refine Run.go rfl rfl rfl (sem_assign ((Value.bool false)) rfl ?_)
        refine Run.region_end ?_
        refine Run.ret ⟨.inr rfl, ?_⟩
        exact hS.imp fun h' hq => ⟨(false), rfl, hq⟩
  · have hS := hF hb6; clear hT hF
    refine Run.go rfl rfl rfl (sem_binI .i64 (i5) (0) (.bool false) rfl rfl (binI_eql_f hb6) ?_)
    refine Run.go rfl rfl rfl (sem_move ((Value.bool false)) rfl ?_)
    refine Run.no rfl rfl rfl ?_
    refine Run.no rfl rfl rfl ?_
    refine Run.go rfl rfl rfl (sem_pick false ((Value.bool false)) rfl rfl ?_)
    refine Run.go rfl rfl rfl (sem_move ((Value.bool false)) rfl ?_)
    refine Run.no rfl rfl rfl ?_
    refine Run.no rfl rfl rfl ?_
    refine Run.no rfl rfl rfl ?_
    refine Run.go rfl rfl rfl (sem_pick false ((Value.bool false)) rfl rfl ?_)
    refine Run.go rfl rfl rfl (sem_move ((Value.bool false)) rfl ?_)
    refine Run.no rfl rfl rfl ?_
    refine Run.no rfl rfl rfl ?_
    refine Run.no rfl rfl rfl ?_
    refine Run.go rfl rfl rfl (sem_pick false ((Value.bool false)) rfl rfl ?_)
    refine Run.go rfl rfl rfl (sem_assign ((Value.bool false)) rfl ?_)
    refine Run.region_end ?_
    refine Run.ret ⟨.inr rfl, ?_⟩
    exact hS.imp fun h' hq => ⟨(false), rfl, hq⟩
set_option maxHeartbeats 4000000 in
theorem C_feed_New.of {B : RO} {h : Heap} {Q : Option Addr → Heap → Prop} (hS : S_feed_New B h Q) : C_feed_New B h Q := by
  unfold S_feed_New at hS
  unfold C_feed_New
  refine Spec.of_run Try.func41 (N := 4) (rs := [ResultVar.tmp 0]) rfl rfl rfl (Nat.le_of_ble_eq_true rfl) ?_
  refine Run.seq ?_
  refine Run.ops0 (idx := [0]) rfl ?_
  refine Run.go rfl rfl rfl (sem_assign ((Value.pointer none)) rfl ?_)
  refine Run.region_end ?_
  refine Run.seq ?_
  refine Run.ops0 (idx := [0, 1, 2, 3]) rfl ?_
  refine Run.go rfl rfl rfl (sem_callL [(Value.int .i64 (3)), (Value.int .i64 (0))] (TF.goes_21) rfl rfl (Spec.mono hS fun v h2 hv => ?_))
  obtain ⟨p3, rfl, hS⟩ := hv
  refine Run.go rfl rfl rfl (sem_buildSL [(1, (Value.pointer p3))] [(Value.string ByteArray.empty), (Value.string ByteArray.empty), (Value.string ByteArray.empty), (Value.pointer p3)] TF.zero_143 TF.places_143 rfl rfl ?_)
  refine Run.go rfl rfl rfl (sem_boxNN [(Value.string ByteArray.empty), (Value.string ByteArray.empty), (Value.string ByteArray.empty), (Value.pointer p3)] rfl (fun k4 hb1 hb2 h5 hb3 => ?_))
  have hS := hS k4 hb1 hb2 h5 hb3
  refine Run.go rfl rfl rfl (sem_assign ((Value.pointer (some ⟨k4, 0, none⟩))) rfl ?_)
  refine Run.region_end ?_
  refine Run.ret ⟨.inr rfl, ?_⟩
  exact hS.imp fun h' hq => ⟨(some ⟨k4, 0, none⟩), rfl, hq⟩
set_option maxHeartbeats 4000000 in
theorem C_feed_Feed_Arrive.of {B : RO} {p1 : Option Addr} {i2 : Int} {s3 : ByteArray} {h : Heap} {Q : Int → Heap → Prop} (hS : S_feed_Feed_Arrive B p1 i2 s3 h Q) : C_feed_Feed_Arrive B p1 i2 s3 h Q := by
  unfold S_feed_Feed_Arrive at hS
  unfold C_feed_Feed_Arrive
  refine Spec.of_run Try.func42 (N := 38) (rs := [ResultVar.tmp 6]) rfl rfl rfl (Nat.le_of_ble_eq_true rfl) ?_
  refine Run.seq ?_
  refine Run.ops0 (idx := [0]) rfl ?_
  refine Run.go rfl rfl rfl (sem_assign ((Value.int .i64 (0))) rfl ?_)
  refine Run.region_end ?_
  refine Run.seqJ (fun e h6 => Agree [(0, (Value.pointer p1)), (1, (Value.int .i64 (i2))), (2, (Value.string s3))] e ∧ S_feed_Feed_Arrive_J1 B p1 i2 s3 h6 Q) ?_ fun j5 => ?_
  · rintro e h6 ⟨hag, hS⟩
    refine Run.env hag ?_; clear hag
    refine Run.seq ?_
    refine Run.draw (fun h' => h' = h6) [11] [.q 0, .q 1, .q 2, .q 3, .q 4, .q 5, .q 6, .q 7, .q 8, .q 9, .q 10, .x 11] TF.mixed (by kernel_rfl) rfl ?_
    refine RunO.quiet rfl rfl rfl (quiet_eq (sem_move ((Value.pointer p1)) rfl ⟨rfl, rfl⟩)) ?_
    refine RunO.quiet rfl rfl rfl (quiet_eq (sem_move ((Value.int .i64 (i2))) rfl ⟨rfl, rfl⟩)) ?_
    obtain ⟨A7, e8, hS⟩ := hS
    refine RunO.quiet rfl rfl rfl (quiet_eq (sem_nilCheck A7 (congrArg Value.pointer e8) ⟨rfl, rfl⟩)) ?_
    refine RunO.quiet rfl rfl rfl (quiet_eq (sem_fieldAddr A7 0 rfl TF.fld_143_0 ⟨rfl, rfl⟩)) ?_
    obtain ⟨hi0, hi1, hS⟩ := hS
    refine RunO.quiet rfl rfl rfl (quiet_eq (sem_indexAddrA A7 .i64 (i2) rfl rfl TF.arr_82 hi0 hi1 ⟨rfl, rfl⟩)) ?_
    obtain ⟨s9, hl, hS⟩ := hS
    refine RunO.quiet rfl rfl rfl (quiet_eq (sem_load1 (Addr.add A7 (Int.toNat (i2) * 1)) ((Value.string s9)) rfl TF.agg_9 hl ⟨rfl, rfl⟩)) ?_
    refine RunO.quiet rfl rfl rfl (quiet_eq (sem_move ((Value.string s3)) rfl ⟨rfl, rfl⟩)) ?_
    obtain ⟨hi0, hS⟩ := hS
    refine RunO.quiet rfl rfl rfl (quiet_eq (sem_strAdd s9 s3 rfl rfl hi0 ⟨rfl, rfl⟩)) ?_
    obtain ⟨A10, e11, hS⟩ := hS
    refine RunO.quiet rfl rfl rfl (quiet_eq (sem_nilCheck A10 (congrArg Value.pointer e11) ⟨rfl, rfl⟩)) ?_
    refine RunO.quiet rfl rfl rfl (quiet_eq (sem_fieldAddr A10 0 rfl TF.fld_143_0 ⟨rfl, rfl⟩)) ?_
    obtain ⟨hi0, hi1, hS⟩ := hS
    refine RunO.quiet rfl rfl rfl (quiet_eq (sem_indexAddrA A10 .i64 (i2) rfl rfl TF.arr_82 hi0 hi1 ⟨rfl, rfl⟩)) ?_
    obtain ⟨h12, hst, hS⟩ := hS
    refine OpH.go rfl rfl rfl (sem_store1 (Addr.add A10 (Int.toNat (i2) * 1)) ((Value.string (s9 ++ s3))) h12 rfl rfl rfl TF.sz_9 hst ?_)
    refine ⟨fun hz => Bool.noConfusion hz, ?_⟩
    refine Run.seq ?_
    refine Run.ops0 (idx := [0]) rfl ?_
    refine Run.go rfl rfl rfl (sem_assign ((Value.int .i64 (0))) rfl ?_)
    refine Run.region_end ?_
    refine Run.ret ⟨.inr rfl, ?_⟩
    exact hS.imp fun h' hq => ⟨(0), rfl, hq⟩
  refine Run.block ?_
  refine Run.seq ?_
  refine Run.ops0 (idx := [0, 1, 2]) rfl ?_
  refine Run.go rfl rfl rfl (sem_move ((Value.pointer p1)) rfl ?_)
  obtain ⟨hT, hF⟩ := hS
  by_cases hb13 : p1 = none
  · have hS := hT hb13; clear hT hF
    refine Run.go rfl rfl rfl (sem_ptrNilT p1 (.inl rfl) true rfl rfl TF.ptr_79 hb13 rfl ?_)
    refine Run.go rfl rfl rfl (sem_assign ((Value.bool true)) rfl ?_)
    refine Run.region_end ?_
    refine Run.condT rfl ?_
    refine Run.seq ?_
    refine Run.ops0 (idx := [0]) rfl ?_
    refine Run.go rfl rfl rfl (sem_assign ((Value.int .i64 (2))) rfl ?_)
    refine Run.region_end ?_
    refine Run.ret ⟨.inr rfl, ?_⟩
    exact hS.imp fun h' hq => ⟨(2), rfl, hq⟩
  · have hS := hF hb13; clear hT hF
    refine Run.go rfl rfl rfl (sem_ptrNilF p1 (.inl rfl) false rfl rfl TF.ptr_79 hb13 rfl ?_)
    refine Run.go rfl rfl rfl (sem_assign ((Value.bool false)) rfl ?_)
    refine Run.region_end ?_
    refine Run.condF rfl ?_
    refine Run.seq ?_
    refine Run.ops0 (idx := [0, 1, 2, 3, 4]) rfl ?_
    refine Run.go rfl rfl rfl (sem_move ((Value.pointer p1)) rfl ?_)
    refine Run.go rfl rfl rfl (sem_move ((Value.int .i64 (i2))) rfl ?_)
    refine Run.go rfl rfl rfl (sem_callL [(Value.pointer p1), (Value.int .i64 (i2))] (TF.goes_76) rfl rfl (Spec.mono hS fun v h14 hv => ?_))
    obtain ⟨b15, rfl, hS⟩ := hv
    obtain ⟨hT, hF⟩ := hS
    cases b15
    · have hS := hF rfl; clear hT hF
      refine Run.go rfl rfl rfl (sem_not false rfl ?_)
      refine Run.go rfl rfl rfl (sem_assign ((Value.bool true)) rfl ?_)
      refine Run.region_end ?_
      refine Run.condT rfl ?_
      refine Run.seq ?_
      refine Run.ops0 (idx := [0]) rfl ?_
      refine Run.go rfl rfl rfl (sem_assign ((Value.int .i64 (1))) rfl ?_)
      refine Run.region_end ?_
      refine Run.ret ⟨.inr rfl, ?_⟩
      exact hS.imp fun h' hq => ⟨(1), rfl, hq⟩
    · have hS := hT rfl; clear hT hF
      refine Run.go rfl rfl rfl (sem_not true rfl ?_)
      refine Run.go rfl rfl rfl (sem_assign ((Value.bool false)) rfl ?_)
      refine Run.region_end ?_
      refine Run.condF rfl ?_
      refine Run.seq ?_
      refine Run.ops0 (idx := [0, 1, 2, 3, 4, 5, 6, 7, 8, 9, 10, 11]) rfl ?_
      refine Run.go rfl rfl rfl (sem_move ((Value.string s3)) rfl ?_)
      refine Run.go rfl rfl rfl (sem_lenStr s3 rfl TF.isStr_9 ?_)
      refine Run.go rfl rfl rfl (sem_move ((Value.pointer p1)) rfl ?_)
      refine Run.go rfl rfl rfl (sem_move ((Value.int .i64 (i2))) rfl ?_)
      obtain ⟨A16, e17, hS⟩ := hS
      refine Run.go rfl rfl rfl (sem_nilCheck A16 (congrArg Value.pointer e17) ?_)
      refine Run.go rfl rfl rfl (sem_fieldAddr A16 0 rfl TF.fld_143_0 ?_)
      obtain ⟨hi0, hi1, hS⟩ := hS
      refine Run.go rfl rfl rfl (sem_indexAddrA A16 .i64 (i2) rfl rfl TF.arr_82 hi0 hi1 ?_)
      obtain ⟨s18, hl, hS⟩ := hS
      refine Run.go rfl rfl rfl (sem_load1 (Addr.add A16 (Int.toNat (i2) * 1)) ((Value.string s18)) rfl TF.agg_9 hl ?_)
      refine Run.go rfl rfl rfl (sem_lenStr s18 rfl TF.isStr_9 ?_)
      refine Run.go rfl rfl rfl (sem_binI .i64 (64) ((ByteArray.size s18 : Nat)) ((Value.int .i64 (IntKind.wrap .i64 ((64) - ((ByteArray.size s18 : Nat)))))) rfl rfl rfl ?_)
      obtain ⟨hT, hF⟩ := hS
      by_cases hb19 : ((ByteArray.size s3 : Nat) : Int) > (IntKind.wrap .i64 ((64) - ((ByteArray.size s18 : Nat))))
      · have hS := hT hb19; clear hT hF
        refine Run.go rfl rfl rfl (sem_binI .i64 ((ByteArray.size s3 : Nat)) (IntKind.wrap .i64 ((64) - ((ByteArray.size s18 : Nat)))) (.bool true) rfl rfl (binI_gtr_t hb19) ?_)
        refine Run.go rfl rfl rfl (sem_assign ((Value.bool true)) rfl ?_)
        refine Run.region_end ?_
        refine Run.condT rfl ?_
        refine Run.seq ?_
        refine Run.ops0 (idx := [0]) rfl ?_
        refine Run.go rfl rfl rfl (sem_assign ((Value.int .i64 (6))) rfl ?_)
        refine Run.region_end ?_
        refine Run.ret ⟨.inr rfl, ?_⟩
        exact hS.imp fun h' hq => ⟨(6), rfl, hq⟩
      · have hS := hF hb19; clear hT hF
        refine Run.go rfl rfl rfl (sem_binI .i64 ((ByteArray.size s3 : Nat)) (IntKind.wrap .i64 ((64) - ((ByteArray.size s18 : Nat)))) (.bool false) rfl rfl (binI_gtr_f hb19) ?_)
        refine Run.go rfl rfl rfl (sem_assign ((Value.bool false)) rfl ?_)
        refine Run.region_end ?_
        refine Run.condF rfl ?_
        refine Run.skip ?_
        refine Run.inBlock ?_
        exact Run.of_fin (hS.imp fun h' hS => j5 _ _ ⟨⟨rfl, rfl, rfl, trivial⟩, hS⟩)
set_option maxHeartbeats 4000000 in
theorem C_countermandref11_Feed_Arrive.of {B : RO} {p1 : Option Addr} {i2 : Int} {s3 : ByteArray} {h : Heap} {Q : Int → Heap → Prop} (hS : S_countermandref11_Feed_Arrive B p1 i2 s3 h Q) : C_countermandref11_Feed_Arrive B p1 i2 s3 h Q := by
  unfold S_countermandref11_Feed_Arrive at hS
  unfold C_countermandref11_Feed_Arrive
  refine Spec.of_run Try.func43 (N := 34) (rs := [ResultVar.tmp 6]) rfl rfl rfl (Nat.le_of_ble_eq_true rfl) ?_
  refine Run.seq ?_
  refine Run.ops0 (idx := [0]) rfl ?_
  refine Run.go rfl rfl rfl (sem_assign ((Value.int .i64 (0))) rfl ?_)
  refine Run.region_end ?_
  refine Run.seq ?_
  refine Run.seq ?_
  refine Run.ops0 (idx := [0, 1, 2]) rfl ?_
  refine Run.go rfl rfl rfl (sem_move ((Value.int .i64 (i2))) rfl ?_)
  refine Run.go rfl rfl rfl (sem_callL [(Value.int .i64 (i2))] (TF.goes_46) rfl rfl (Spec.mono hS fun v h5 hv => ?_))
  obtain ⟨b6, rfl, hS⟩ := hv
  obtain ⟨hT, hF⟩ := hS
  cases b6
  · have hS := hF rfl; clear hT hF
    refine Run.go rfl rfl rfl (sem_not false rfl ?_)
    refine Run.region_end ?_
    refine Run.condT rfl ?_
    refine Run.seq ?_
    refine Run.ops0 (idx := [0]) rfl ?_
    refine Run.go rfl rfl rfl (sem_assign ((Value.int .i64 (1))) rfl ?_)
    refine Run.region_end ?_
    refine Run.ret ⟨.inr rfl, ?_⟩
    exact hS.imp fun h' hq => ⟨(1), rfl, hq⟩
  · have hS := hT rfl; clear hT hF
    refine Run.go rfl rfl rfl (sem_not true rfl ?_)
    refine Run.region_end ?_
    refine Run.condF rfl ?_
    refine Run.skip ?_
    refine Run.seq ?_
    refine Run.seq ?_
    refine Run.ops0 (idx := [0, 1, 2, 3, 4, 5, 6, 7, 8, 9, 10]) rfl ?_
    refine Run.go rfl rfl rfl (sem_move ((Value.pointer p1)) rfl ?_)
    refine Run.go rfl rfl rfl (sem_move ((Value.int .i64 (i2))) rfl ?_)
    obtain ⟨A7, e8, hS⟩ := hS
    refine Run.go rfl rfl rfl (sem_nilCheck A7 (congrArg Value.pointer e8) ?_)
    refine Run.go rfl rfl rfl (sem_fieldAddr A7 0 rfl TF.fld_85_0 ?_)
    obtain ⟨hi0, hi1, hS⟩ := hS
    refine Run.go rfl rfl rfl (sem_indexAddrA A7 .i64 (i2) rfl rfl TF.arr_82 hi0 hi1 ?_)
    obtain ⟨s9, hl, hS⟩ := hS
    refine Run.go rfl rfl rfl (sem_load1 (Addr.add A7 (Int.toNat (i2) * 1)) ((Value.string s9)) rfl TF.agg_9 hl ?_)
    refine Run.go rfl rfl rfl (sem_lenStr s9 rfl TF.isStr_9 ?_)
    refine Run.go rfl rfl rfl (sem_move ((Value.string s3)) rfl ?_)
    refine Run.go rfl rfl rfl (sem_lenStr s3 rfl TF.isStr_9 ?_)
    refine Run.go rfl rfl rfl (sem_binI .i64 ((ByteArray.size s9 : Nat)) ((ByteArray.size s3 : Nat)) ((Value.int .i64 (IntKind.wrap .i64 (((ByteArray.size s9 : Nat)) + ((ByteArray.size s3 : Nat)))))) rfl rfl rfl ?_)
    obtain ⟨hT, hF⟩ := hS
    by_cases hb10 : (IntKind.wrap .i64 (((ByteArray.size s9 : Nat)) + ((ByteArray.size s3 : Nat))) : Int) > (64)
    · have hS := hT hb10; clear hT hF
      refine Run.go rfl rfl rfl (sem_binI .i64 (IntKind.wrap .i64 (((ByteArray.size s9 : Nat)) + ((ByteArray.size s3 : Nat)))) (64) (.bool true) rfl rfl (binI_gtr_t hb10) ?_)
      refine Run.region_end ?_
      refine Run.condT rfl ?_
      refine Run.seq ?_
      refine Run.ops0 (idx := [0]) rfl ?_
      refine Run.go rfl rfl rfl (sem_assign ((Value.int .i64 (6))) rfl ?_)
      refine Run.region_end ?_
      refine Run.ret ⟨.inr rfl, ?_⟩
      exact hS.imp fun h' hq => ⟨(6), rfl, hq⟩
    · have hS := hF hb10; clear hT hF
      refine Run.go rfl rfl rfl (sem_binI .i64 (IntKind.wrap .i64 (((ByteArray.size s9 : Nat)) + ((ByteArray.size s3 : Nat)))) (64) (.bool false) rfl rfl (binI_gtr_f hb10) ?_)
      refine Run.region_end ?_
      refine Run.condF rfl ?_
      refine Run.skip ?_
      refine Run.seq ?_
      refine Run.draw (fun h' => h' = h5) [13] [.q 0, .q 1, .q 2, .q 3, .q 4, .q 5, .q 6, .q 7, .q 8, .q 9, .q 10, .q 11, .q 12, .x 13] TF.mixed (by kernel_rfl) rfl ?_
      refine RunO.quiet rfl rfl rfl (quiet_eq (sem_move ((Value.pointer p1)) rfl ⟨rfl, rfl⟩)) ?_
      refine RunO.quiet rfl rfl rfl (quiet_eq (sem_move ((Value.int .i64 (i2))) rfl ⟨rfl, rfl⟩)) ?_
      refine RunO.quiet rfl rfl rfl (quiet_eq (sem_move ((Value.pointer p1)) rfl ⟨rfl, rfl⟩)) ?_
      refine RunO.quiet rfl rfl rfl (quiet_eq (sem_move ((Value.int .i64 (i2))) rfl ⟨rfl, rfl⟩)) ?_
      obtain ⟨A11, e12, hS⟩ := hS
      refine RunO.quiet rfl rfl rfl (quiet_eq (sem_nilCheck A11 (congrArg Value.pointer e12) ⟨rfl, rfl⟩)) ?_
      refine RunO.quiet rfl rfl rfl (quiet_eq (sem_fieldAddr A11 0 rfl TF.fld_85_0 ⟨rfl, rfl⟩)) ?_
      obtain ⟨hi0, hi1, hS⟩ := hS
      refine RunO.quiet rfl rfl rfl (quiet_eq (sem_indexAddrA A11 .i64 (i2) rfl rfl TF.arr_82 hi0 hi1 ⟨rfl, rfl⟩)) ?_
      obtain ⟨s13, hl, hS⟩ := hS
      refine RunO.quiet rfl rfl rfl (quiet_eq (sem_load1 (Addr.add A11 (Int.toNat (i2) * 1)) ((Value.string s13)) rfl TF.agg_9 hl ⟨rfl, rfl⟩)) ?_
      refine RunO.quiet rfl rfl rfl (quiet_eq (sem_move ((Value.string s3)) rfl ⟨rfl, rfl⟩)) ?_
      obtain ⟨hi0, hS⟩ := hS
      refine RunO.quiet rfl rfl rfl (quiet_eq (sem_strAdd s13 s3 rfl rfl hi0 ⟨rfl, rfl⟩)) ?_
      obtain ⟨A14, e15, hS⟩ := hS
      refine RunO.quiet rfl rfl rfl (quiet_eq (sem_nilCheck A14 (congrArg Value.pointer e15) ⟨rfl, rfl⟩)) ?_
      refine RunO.quiet rfl rfl rfl (quiet_eq (sem_fieldAddr A14 0 rfl TF.fld_85_0 ⟨rfl, rfl⟩)) ?_
      obtain ⟨hi0, hi1, hS⟩ := hS
      refine RunO.quiet rfl rfl rfl (quiet_eq (sem_indexAddrA A14 .i64 (i2) rfl rfl TF.arr_82 hi0 hi1 ⟨rfl, rfl⟩)) ?_
      obtain ⟨h16, hst, hS⟩ := hS
      refine OpH.go rfl rfl rfl (sem_store1 (Addr.add A14 (Int.toNat (i2) * 1)) ((Value.string (s13 ++ s3))) h16 rfl rfl rfl TF.sz_9 hst ?_)
      refine ⟨fun hz => Bool.noConfusion hz, ?_⟩
      refine Run.seq ?_
      refine Run.ops0 (idx := [0]) rfl ?_
      refine Run.go rfl rfl rfl (sem_assign ((Value.int .i64 (0))) rfl ?_)
      refine Run.region_end ?_
      refine Run.ret ⟨.inr rfl, ?_⟩
      exact hS.imp fun h' hq => ⟨(0), rfl, hq⟩
set_option maxHeartbeats 4000000 in
theorem C_feed_Feed_Take.of {B : RO} {p1 : Option Addr} {i2 : Int} {i3 : Int} {i4 : Int} {h : Heap} {Q : Bool → Heap → Prop} (hS : S_feed_Feed_Take B p1 i2 i3 i4 h Q) : C_feed_Feed_Take B p1 i2 i3 i4 h Q := by
  unfold S_feed_Feed_Take at hS
  unfold C_feed_Feed_Take
  refine Spec.of_run Try.func44 (N := 45) (rs := [ResultVar.tmp 8]) rfl rfl rfl (Nat.le_of_ble_eq_true rfl) ?_
  refine Run.seq ?_
  refine Run.ops0 (idx := [0]) rfl ?_
  refine Run.go rfl rfl rfl (sem_assign ((Value.bool false)) rfl ?_)
  refine Run.region_end ?_
  refine Run.seq ?_
  refine Run.ops0 (idx := [0, 1, 2, 3, 4, 5, 6, 7]) rfl ?_
  refine Run.go rfl rfl rfl (sem_move ((Value.pointer p1)) rfl ?_)
  refine Run.go rfl rfl rfl (sem_move ((Value.int .i64 (i2))) rfl ?_)
  refine Run.go rfl rfl rfl (sem_callL [(Value.pointer p1), (Value.int .i64 (i2))] (TF.goes_50) rfl rfl (Spec.mono hS fun v h6 hv => ?_))
  obtain ⟨i7, i8, rfl, hS⟩ := hv
  refine Run.go rfl rfl rfl (sem_move ((Value.tuple #[(Value.int .i64 (i7)), (Value.int .i64 (i8))])) rfl ?_)
  refine Run.go rfl rfl rfl (sem_extract #[(Value.int .i64 (i7)), (Value.int .i64 (i8))] ((Value.int .i64 (i7))) rfl rfl ?_)
  refine Run.go rfl rfl rfl (sem_extract #[(Value.int .i64 (i7)), (Value.int .i64 (i8))] ((Value.int .i64 (i8))) rfl rfl ?_)
  refine Run.go rfl rfl rfl (sem_assign ((Value.int .i64 (i7))) rfl ?_)
  refine Run.go rfl rfl rfl (sem_assign ((Value.int .i64 (i8))) rfl ?_)
  refine Run.region_end ?_
  refine Run.seqJ (fun e h10 => Agree [(0, (Value.pointer p1)), (1, (Value.int .i64 (i2))), (2, (Value.int .i64 (i3))), (3, (Value.int .i64 (i4)))] e ∧ S_feed_Feed_Take_J1 B p1 i2 i3 i4 h10 Q) ?_ fun j9 => ?_
  · rintro e h10 ⟨hag, hS⟩
    refine Run.env hag ?_; clear hag
    refine Run.seq ?_
    refine Run.ops0 (idx := [0, 1, 2, 3, 4, 5, 6, 7, 8]) rfl ?_
    refine Run.go rfl rfl rfl (sem_move ((Value.pointer p1)) rfl ?_)
    obtain ⟨A11, e12, hS⟩ := hS
    refine Run.go rfl rfl rfl (sem_nilCheck A11 (congrArg Value.pointer e12) ?_)
    refine Run.go rfl rfl rfl (sem_fieldAddr A11 3 rfl TF.fld_143_1 ?_)
    obtain ⟨p13, hl, hS⟩ := hS
    refine Run.go rfl rfl rfl (sem_load1 (Addr.add A11 3) ((Value.pointer p13)) rfl TF.agg_36 hl ?_)
    refine Run.go rfl rfl rfl (sem_move ((Value.int .i64 (i2))) rfl ?_)
    refine Run.go rfl rfl rfl (sem_move ((Value.int .i64 (i3))) rfl ?_)
    refine Run.go rfl rfl rfl (sem_move ((Value.int .i64 (i4))) rfl ?_)
    refine Run.go rfl rfl rfl (sem_callL [(Value.pointer p13), (Value.int .i64 (i2)), (Value.int .i64 (i3)), (Value.int .i64 (i4))] (TF.goes_22) rfl rfl (Spec.mono hS fun v h14 hv => ?_))
    obtain ⟨b15, rfl, hS⟩ := hv
    refine Run.go rfl rfl rfl (sem_assign ((Value.bool b15)) rfl ?_)
    refine Run.region_end ?_
    refine Run.ret ⟨.inr rfl, ?_⟩
    exact hS.imp fun h' hq => ⟨(b15), rfl, hq⟩
  refine Run.seq ?_
  refine Run.ops0 (idx := [0, 1, 2, 3, 4, 5, 6, 7, 8, 9, 10, 11, 12, 13, 14, 15, 16, 17, 18, 19]) rfl ?_
  refine Run.go rfl rfl rfl (sem_move ((Value.pointer p1)) rfl ?_)
  refine Run.go rfl rfl rfl (sem_move ((Value.int .i64 (i2))) rfl ?_)
  refine Run.go rfl rfl rfl (sem_callL [(Value.pointer p1), (Value.int .i64 (i2))] (TF.goes_76) rfl rfl (Spec.mono hS fun v h16 hv => ?_))
  obtain ⟨b17, rfl, hS⟩ := hv
  obtain ⟨hT, hF⟩ := hS
  cases b17
  · have hS := hF rfl; clear hT hF
    refine Run.go rfl rfl rfl (sem_not false rfl ?_)
    refine Run.go rfl rfl rfl (sem_move ((Value.bool true)) rfl ?_)
    refine Run.no rfl rfl rfl ?_
    refine Run.no rfl rfl rfl ?_
    refine Run.no rfl rfl rfl ?_
    refine Run.go rfl rfl rfl (sem_pick true ((Value.bool true)) rfl rfl ?_)
    refine Run.go rfl rfl rfl (sem_move ((Value.bool true)) rfl ?_)
    refine Run.no rfl rfl rfl ?_
    refine Run.no rfl rfl rfl ?_
    refine Run.no rfl rfl rfl ?_
    refine Run.no rfl rfl rfl ?_
    refine Run.no rfl rfl rfl ?_
    refine Run.no rfl rfl rfl ?_
    refine Run.no rfl rfl rfl ?_
    refine Run.no rfl rfl rfl ?_
    refine Run.no rfl rfl rfl ?_
    refine Run.go rfl rfl rfl (sem_pick true ((Value.bool true)) rfl rfl ?_)
    refine Run.region_end ?_
    refine Run.condT rfl ?_
    refine Run.seq ?_
    refine Run.ops0 (idx := [0]) rfl ?_
    refine Run.go rfl rfl rfl (sem_assign ((Value.bool false)) rfl ?_)
    refine Run.region_end ?_
    refine Run.ret ⟨.inr rfl, ?_⟩
    exact hS.imp fun h' hq => ⟨(false), rfl, hq⟩
  · have hS := hT rfl; clear hT hF
    refine Run.go rfl rfl rfl (sem_not true rfl ?_)
    refine Run.go rfl rfl rfl (sem_move ((Value.bool false)) rfl ?_)
    refine Run.go rfl rfl rfl (sem_move ((Value.int .i64 (i3))) rfl ?_)
    refine Run.go rfl rfl rfl (sem_move ((Value.int .i64 (i7))) rfl ?_)
    obtain ⟨hT, hF⟩ := hS
    by_cases hb18 : (i3 : Int) < (i7)
    · have hS := hT hb18; clear hT hF
      refine Run.go rfl rfl rfl (sem_binI .i64 (i3) (i7) (.bool true) rfl rfl (binI_lss_t hb18) ?_)
      refine Run.go rfl rfl rfl (sem_pick false ((Value.bool true)) rfl rfl ?_)
      refine Run.go rfl rfl rfl (sem_move ((Value.bool true)) rfl ?_)
      refine Run.no rfl rfl rfl ?_
      refine Run.no rfl rfl rfl ?_
      refine Run.no rfl rfl rfl ?_
      refine Run.no rfl rfl rfl ?_
      refine Run.no rfl rfl rfl ?_
      refine Run.no rfl rfl rfl ?_
      refine Run.no rfl rfl rfl ?_
      refine Run.no rfl rfl rfl ?_
      refine Run.no rfl rfl rfl ?_
      refine Run.go rfl rfl rfl (sem_pick true ((Value.bool true)) rfl rfl ?_)
      refine Run.region_end ?_
      refine Run.condT rfl ?_
      refine Run.seq ?_
      refine Run.ops0 (idx := [0]) rfl ?_
      refine Run.go rfl rfl rfl (sem_assign ((Value.bool false)) rfl ?_)
      refine Run.region_end ?_
      refine Run.ret ⟨.inr rfl, ?_⟩
      exact hS.imp fun h' hq => ⟨(false), rfl, hq⟩
    · have hS := hF hb18; clear hT hF
      refine Run.go rfl rfl rfl (sem_binI .i64 (i3) (i7) (.bool false) rfl rfl (binI_lss_f hb18) ?_)
      refine Run.go rfl rfl rfl (sem_pick false ((Value.bool false)) rfl rfl ?_)
      refine Run.go rfl rfl rfl (sem_move ((Value.bool false)) rfl ?_)
      refine Run.go rfl rfl rfl (sem_move ((Value.int .i64 (i3))) rfl ?_)
      refine Run.go rfl rfl rfl (sem_move ((Value.pointer p1)) rfl ?_)
      refine Run.go rfl rfl rfl (sem_move ((Value.int .i64 (i2))) rfl ?_)
      obtain ⟨A19, e20, hS⟩ := hS
      refine Run.go rfl rfl rfl (sem_nilCheck A19 (congrArg Value.pointer e20) ?_)
      refine Run.go rfl rfl rfl (sem_fieldAddr A19 0 rfl TF.fld_143_0 ?_)
      obtain ⟨hi0, hi1, hS⟩ := hS
      refine Run.go rfl rfl rfl (sem_indexAddrA A19 .i64 (i2) rfl rfl TF.arr_82 hi0 hi1 ?_)
      obtain ⟨s21, hl, hS⟩ := hS
      refine Run.go rfl rfl rfl (sem_load1 (Addr.add A19 (Int.toNat (i2) * 1)) ((Value.string s21)) rfl TF.agg_9 hl ?_)
      refine Run.go rfl rfl rfl (sem_lenStr s21 rfl TF.isStr_9 ?_)
      obtain ⟨hT, hF⟩ := hS
      by_cases hb22 : (i3 : Int) > ((ByteArray.size s21 : Nat))
      · have hS := hT hb22; clear hT hF
        refine Run.go rfl rfl rfl (sem_binI .i64 (i3) ((ByteArray.size s21 : Nat)) (.bool true) rfl rfl (binI_gtr_t hb22) ?_)
        refine Run.go rfl rfl rfl (sem_pick false ((Value.bool true)) rfl rfl ?_)
        refine Run.region_end ?_
        refine Run.condT rfl ?_
        refine Run.seq ?_
        refine Run.ops0 (idx := [0]) rfl ?_
        refine Run.go rfl rfl rfl (sem_assign ((Value.bool false)) rfl ?_)
        refine Run.region_end ?_
        refine Run.ret ⟨.inr rfl, ?_⟩
        exact hS.imp fun h' hq => ⟨(false), rfl, hq⟩
      · have hS := hF hb22; clear hT hF
        refine Run.go rfl rfl rfl (sem_binI .i64 (i3) ((ByteArray.size s21 : Nat)) (.bool false) rfl rfl (binI_gtr_f hb22) ?_)
        refine Run.go rfl rfl rfl (sem_pick false ((Value.bool false)) rfl rfl ?_)
        refine Run.region_end ?_
        refine Run.condF rfl ?_
        refine Run.skip ?_
        exact Run.of_fin (hS.imp fun h' hS => j9 _ _ ⟨⟨rfl, rfl, rfl, rfl, trivial⟩, hS⟩)
set_option maxHeartbeats 4000000 in
theorem C_countermandref11_Feed_Take.of {B : RO} {p1 : Option Addr} {i2 : Int} {i3 : Int} {i4 : Int} {h : Heap} {Q : Bool → Heap → Prop} (hS : S_countermandref11_Feed_Take B p1 i2 i3 i4 h Q) : C_countermandref11_Feed_Take B p1 i2 i3 i4 h Q := by
  unfold S_countermandref11_Feed_Take at hS
  unfold C_countermandref11_Feed_Take
  refine Spec.of_run Try.func45 (N := 45) (rs := [ResultVar.tmp 8]) rfl rfl rfl (Nat.le_of_ble_eq_true rfl) ?_
  refine Run.seq ?_
  refine Run.ops0 (idx := [0]) rfl ?_
  refine Run.go rfl rfl rfl (sem_assign ((Value.bool false)) rfl ?_)
  refine Run.region_end ?_
  refine Run.seqJ (fun e h7 => Agree [(0, (Value.pointer p1)), (1, (Value.int .i64 (i2))), (2, (Value.int .i64 (i3))), (3, (Value.int .i64 (i4)))] e ∧ S_countermandref11_Feed_Take_J1 B p1 i2 i3 i4 h7 Q) ?_ fun j6 => ?_
  · rintro e h7 ⟨hag, hS⟩
    refine Run.env hag ?_; clear hag
    refine Run.seq ?_
    refine Run.ops0 (idx := [0, 1, 2, 3, 4, 5, 6]) rfl ?_
    refine Run.go rfl rfl rfl (sem_move ((Value.pointer p1)) rfl ?_)
    refine Run.go rfl rfl rfl (sem_move ((Value.int .i64 (i2))) rfl ?_)
    refine Run.go rfl rfl rfl (sem_move ((Value.int .i64 (i3))) rfl ?_)
    obtain ⟨A8, e9, hS⟩ := hS
    refine Run.go rfl rfl rfl (sem_nilCheck A8 (congrArg Value.pointer e9) ?_)
    refine Run.go rfl rfl rfl (sem_fieldAddr A8 3 rfl TF.fld_85_1 ?_)
    obtain ⟨hi0, hi1, hS⟩ := hS
    refine Run.go rfl rfl rfl (sem_indexAddrA (Addr.add A8 3) .i64 (i2) rfl rfl TF.arr_83 hi0 hi1 ?_)
    obtain ⟨h10, hst, hS⟩ := hS
    refine Run.go rfl rfl rfl (sem_store1 (Addr.add (Addr.add A8 3) (Int.toNat (i2) * 1)) ((Value.int .i64 (i3))) h10 rfl rfl rfl TF.sz_3 hst ?_)
    refine Run.region_end ?_
    refine Run.seq ?_
    refine Run.ops0 (idx := [0, 1, 2, 3, 4, 5, 6]) rfl ?_
    refine Run.go rfl rfl rfl (sem_move ((Value.pointer p1)) rfl ?_)
    refine Run.go rfl rfl rfl (sem_move ((Value.int .i64 (i2))) rfl ?_)
    refine Run.go rfl rfl rfl (sem_move ((Value.int .i64 (i4))) rfl ?_)
    obtain ⟨A11, e12, hS⟩ := hS
    refine Run.go rfl rfl rfl (sem_nilCheck A11 (congrArg Value.pointer e12) ?_)
    refine Run.go rfl rfl rfl (sem_fieldAddr A11 6 rfl TF.fld_85_2 ?_)
    obtain ⟨hi0, hi1, hS⟩ := hS
    refine Run.go rfl rfl rfl (sem_indexAddrA (Addr.add A11 6) .i64 (i2) rfl rfl TF.arr_83 hi0 hi1 ?_)
    obtain ⟨h13, hst, hS⟩ := hS
    refine Run.go rfl rfl rfl (sem_store1 (Addr.add (Addr.add A11 6) (Int.toNat (i2) * 1)) ((Value.int .i64 (i4))) h13 rfl rfl rfl TF.sz_3 hst ?_)
    refine Run.region_end ?_
    refine Run.seq ?_
    refine Run.ops0 (idx := [0]) rfl ?_
    refine Run.go rfl rfl rfl (sem_assign ((Value.bool true)) rfl ?_)
    refine Run.region_end ?_
    refine Run.ret ⟨.inr rfl, ?_⟩
    exact hS.imp fun h' hq => ⟨(true), rfl, hq⟩
  refine Run.seq ?_
  refine Run.ops0 (idx := [0, 1, 2, 3, 4, 5, 6, 7, 8, 9, 10, 11, 12, 13, 14, 15, 16, 17, 18, 19, 20, 21, 22, 23]) rfl ?_
  refine Run.go rfl rfl rfl (sem_move ((Value.int .i64 (i2))) rfl ?_)
  refine Run.go rfl rfl rfl (sem_callL [(Value.int .i64 (i2))] (TF.goes_46) rfl rfl (Spec.mono hS fun v h14 hv => ?_))
  obtain ⟨b15, rfl, hS⟩ := hv
  obtain ⟨hT, hF⟩ := hS
  cases b15
  · have hS := hF rfl; clear hT hF
    refine Run.go rfl rfl rfl (sem_not false rfl ?_)
    refine Run.go rfl rfl rfl (sem_move ((Value.bool true)) rfl ?_)
    refine Run.no rfl rfl rfl ?_
    refine Run.no rfl rfl rfl ?_
    refine Run.no rfl rfl rfl ?_
    refine Run.no rfl rfl rfl ?_
    refine Run.no rfl rfl rfl ?_
    refine Run.no rfl rfl rfl ?_
    refine Run.no rfl rfl rfl ?_
    refine Run.no rfl rfl rfl ?_
    refine Run.go rfl rfl rfl (sem_pick true ((Value.bool true)) rfl rfl ?_)
    refine Run.go rfl rfl rfl (sem_move ((Value.bool true)) rfl ?_)
    refine Run.no rfl rfl rfl ?_
    refine Run.no rfl rfl rfl ?_
    refine Run.no rfl rfl rfl ?_
    refine Run.no rfl rfl rfl ?_
    refine Run.no rfl rfl rfl ?_
    refine Run.no rfl rfl rfl ?_
    refine Run.no rfl rfl rfl ?_
    refine Run.no rfl rfl rfl ?_
    refine Run.no rfl rfl rfl ?_
    refine Run.go rfl rfl rfl (sem_pick true ((Value.bool true)) rfl rfl ?_)
    refine Run.region_end ?_
    refine Run.condT rfl ?_
    refine Run.seq ?_
    refine Run.ops0 (idx := [0]) rfl ?_
    refine Run.go rfl rfl rfl (sem_assign ((Value.bool false)) rfl ?_)
    refine Run.region_end ?_
    refine Run.ret ⟨.inr rfl, ?_⟩
    exact hS.imp fun h' hq => ⟨(false), rfl, hq⟩
  · have hS := hT rfl; clear hT hF
    refine Run.go rfl rfl rfl (sem_not true rfl ?_)
    refine Run.go rfl rfl rfl (sem_move ((Value.bool false)) rfl ?_)
    refine Run.go rfl rfl rfl (sem_move ((Value.int .i64 (i3))) rfl ?_)
    refine Run.go rfl rfl rfl (sem_move ((Value.pointer p1)) rfl ?_)
    refine Run.go rfl rfl rfl (sem_move ((Value.int .i64 (i2))) rfl ?_)
    obtain ⟨A16, e17, hS⟩ := hS
    refine Run.go rfl rfl rfl (sem_nilCheck A16 (congrArg Value.pointer e17) ?_)
    refine Run.go rfl rfl rfl (sem_fieldAddr A16 3 rfl TF.fld_85_1 ?_)
    obtain ⟨hi0, hi1, hS⟩ := hS
    refine Run.go rfl rfl rfl (sem_indexAddrA (Addr.add A16 3) .i64 (i2) rfl rfl TF.arr_83 hi0 hi1 ?_)
    obtain ⟨i18, hl, hS⟩ := hS
    refine Run.go rfl rfl rfl (sem_load1 (Addr.add (Addr.add A16 3) (Int.toNat (i2) * 1)) ((Value.int .i64 (i18))) rfl TF.agg_3 hl ?_)
    obtain ⟨hT, hF⟩ := hS
    by_cases hb19 : (i3 : Int) < (i18)
    · have hS := hT hb19; clear hT hF
      refine Run.go rfl rfl rfl (sem_binI .i64 (i3) (i18) (.bool true) rfl rfl (binI_lss_t hb19) ?_)
      refine Run.go rfl rfl rfl (sem_pick false ((Value.bool true)) rfl rfl ?_)
      refine Run.go rfl rfl rfl (sem_move ((Value.bool true)) rfl ?_)
      refine Run.no rfl rfl rfl ?_
      refine Run.no rfl rfl rfl ?_
      refine Run.no rfl rfl rfl ?_
      refine Run.no rfl rfl rfl ?_
      refine Run.no rfl rfl rfl ?_
      refine Run.no rfl rfl rfl ?_
      refine Run.no rfl rfl rfl ?_
      refine Run.no rfl rfl rfl ?_
      refine Run.no rfl rfl rfl ?_
      refine Run.go rfl rfl rfl (sem_pick true ((Value.bool true)) rfl rfl ?_)
      refine Run.region_end ?_
      refine Run.condT rfl ?_
      refine Run.seq ?_
      refine Run.ops0 (idx := [0]) rfl ?_
      refine Run.go rfl rfl rfl (sem_assign ((Value.bool false)) rfl ?_)
      refine Run.region_end ?_
      refine Run.ret ⟨.inr rfl, ?_⟩
      exact hS.imp fun h' hq => ⟨(false), rfl, hq⟩
    · have hS := hF hb19; clear hT hF
      refine Run.go rfl rfl rfl (sem_binI .i64 (i3) (i18) (.bool false) rfl rfl (binI_lss_f hb19) ?_)
      refine Run.go rfl rfl rfl (sem_pick false ((Value.bool false)) rfl rfl ?_)
      refine Run.go rfl rfl rfl (sem_move ((Value.bool false)) rfl ?_)
      refine Run.go rfl rfl rfl (sem_move ((Value.int .i64 (i3))) rfl ?_)
      refine Run.go rfl rfl rfl (sem_move ((Value.pointer p1)) rfl ?_)
      refine Run.go rfl rfl rfl (sem_move ((Value.int .i64 (i2))) rfl ?_)
      obtain ⟨A20, e21, hS⟩ := hS
      refine Run.go rfl rfl rfl (sem_nilCheck A20 (congrArg Value.pointer e21) ?_)
      refine Run.go rfl rfl rfl (sem_fieldAddr A20 0 rfl TF.fld_85_0 ?_)
      obtain ⟨hi0, hi1, hS⟩ := hS
      refine Run.go rfl rfl rfl (sem_indexAddrA A20 .i64 (i2) rfl rfl TF.arr_82 hi0 hi1 ?_)
      obtain ⟨s22, hl, hS⟩ := hS
      refine Run.go rfl rfl rfl (sem_load1 (Addr.add A20 (Int.toNat (i2) * 1)) ((Value.string s22)) rfl TF.agg_9 hl ?_)
      refine Run.go rfl rfl rfl (sem_lenStr s22 rfl TF.isStr_9 ?_)
      obtain ⟨hT, hF⟩ := hS
      by_cases hb23 : (i3 : Int) > ((ByteArray.size s22 : Nat))
      · have hS := hT hb23; clear hT hF
        refine Run.go rfl rfl rfl (sem_binI .i64 (i3) ((ByteArray.size s22 : Nat)) (.bool true) rfl rfl (binI_gtr_t hb23) ?_)
        refine Run.go rfl rfl rfl (sem_pick false ((Value.bool true)) rfl rfl ?_)
        refine Run.region_end ?_
        refine Run.condT rfl ?_
        refine Run.seq ?_
        refine Run.ops0 (idx := [0]) rfl ?_
        refine Run.go rfl rfl rfl (sem_assign ((Value.bool false)) rfl ?_)
        refine Run.region_end ?_
        refine Run.ret ⟨.inr rfl, ?_⟩
        exact hS.imp fun h' hq => ⟨(false), rfl, hq⟩
      · have hS := hF hb23; clear hT hF
        refine Run.go rfl rfl rfl (sem_binI .i64 (i3) ((ByteArray.size s22 : Nat)) (.bool false) rfl rfl (binI_gtr_f hb23) ?_)
        refine Run.go rfl rfl rfl (sem_pick false ((Value.bool false)) rfl rfl ?_)
        refine Run.region_end ?_
        refine Run.condF rfl ?_
        refine Run.skip ?_
        exact Run.of_fin (hS.imp fun h' hS => j6 _ _ ⟨⟨rfl, rfl, rfl, rfl, trivial⟩, hS⟩)
set_option maxHeartbeats 4000000 in
theorem C_countermandref11_Is.of {B : RO} {i1 : Int} {h : Heap} {Q : Bool → Heap → Prop} (hS : S_countermandref11_Is B i1 h Q) : C_countermandref11_Is B i1 h Q := by
  unfold S_countermandref11_Is at hS
  unfold C_countermandref11_Is
  refine Spec.of_run Try.func46 (N := 9) (rs := [ResultVar.tmp 2]) rfl rfl rfl (Nat.le_of_ble_eq_true rfl) ?_
  refine Run.seq ?_
  refine Run.ops0 (idx := [0]) rfl ?_
  refine Run.go rfl rfl rfl (sem_assign ((Value.bool false)) rfl ?_)
  refine Run.region_end ?_
  refine Run.seq ?_
  refine Run.ops0 (idx := [0, 1, 2, 3, 4, 5, 6]) rfl ?_
  refine Run.go rfl rfl rfl (sem_move ((Value.int .i64 (i1))) rfl ?_)
  obtain ⟨hT, hF⟩ := hS
  by_cases hb3 : (i1 : Int) ≥ (0)
  · have hS := hT hb3; clear hT hF
    refine Run.go rfl rfl rfl (sem_binI .i64 (i1) (0) (.bool true) rfl rfl (binI_geq_t hb3) ?_)
    refine Run.go rfl rfl rfl (sem_move ((Value.bool true)) rfl ?_)
    refine Run.go rfl rfl rfl (sem_move ((Value.int .i64 (i1))) rfl ?_)
    refine Run.go rfl rfl rfl (sem_binI .i64 (i1) (2) ((Value.bool (decide ((i1 : Int) ≤ (2))))) rfl rfl rfl ?_)
    refine Run.go rfl rfl rfl (sem_pick true ((Value.bool (decide ((i1 : Int) ≤ (2))))) rfl rfl ?_)
    refine Run.go rfl rfl rfl (sem_assign ((Value.bool (decide ((i1 : Int) ≤ (2))))) rfl ?_)
    refine Run.region_end ?_
    refine Run.ret ⟨.inr rfl, ?_⟩
    exact hS.imp fun h' hq => ⟨((decide ((i1 : Int) ≤ (2)))), rfl, hq⟩
  · have hS := hF hb3; clear hT hF
    refine Run.go rfl rfl rfl (sem_binI .i64 (i1) (0) (.bool false) rfl rfl (binI_geq_f hb3) ?_)
    refine Run.go rfl rfl rfl (sem_move ((Value.bool false)) rfl ?_)
    refine Run.no rfl rfl rfl ?_
    refine Run.no rfl rfl rfl ?_
    refine Run.go rfl rfl rfl (sem_pick false ((Value.bool false)) rfl rfl ?_)
    refine Run.go rfl rfl rfl (sem_assign ((Value.bool false)) rfl ?_)
    refine Run.region_end ?_
    refine Run.ret ⟨.inr rfl, ?_⟩
    exact hS.imp fun h' hq => ⟨(false), rfl, hq⟩
set_option maxHeartbeats 4000000 in
theorem C_feed_Feed_Text.of {B : RO} {p1 : Option Addr} {i2 : Int} {h : Heap} {Q : ByteArray → Heap → Prop} (hS : S_feed_Feed_Text B p1 i2 h Q) : C_feed_Feed_Text B p1 i2 h Q := by
  unfold S_feed_Feed_Text at hS
  unfold C_feed_Feed_Text
  refine Spec.of_run Try.func47 (N := 15) (rs := [ResultVar.tmp 4]) rfl rfl rfl (Nat.le_of_ble_eq_true rfl) ?_
  refine Run.seq ?_
  refine Run.ops0 (idx := [0]) rfl ?_
  refine Run.go rfl rfl rfl (sem_assign ((Value.string (ByteArray.mk #[]))) rfl ?_)
  refine Run.region_end ?_
  refine Run.seq ?_
  refine Run.seq ?_
  refine Run.ops0 (idx := [0, 1, 2, 3]) rfl ?_
  refine Run.go rfl rfl rfl (sem_move ((Value.pointer p1)) rfl ?_)
  refine Run.go rfl rfl rfl (sem_move ((Value.int .i64 (i2))) rfl ?_)
  refine Run.go rfl rfl rfl (sem_callL [(Value.pointer p1), (Value.int .i64 (i2))] (TF.goes_76) rfl rfl (Spec.mono hS fun v h4 hv => ?_))
  obtain ⟨b5, rfl, hS⟩ := hv
  obtain ⟨hT, hF⟩ := hS
  cases b5
  · have hS := hF rfl; clear hT hF
    refine Run.go rfl rfl rfl (sem_not false rfl ?_)
    refine Run.region_end ?_
    refine Run.condT rfl ?_
    refine Run.seq ?_
    refine Run.ops0 (idx := [0]) rfl ?_
    refine Run.go rfl rfl rfl (sem_assign ((Value.string (ByteArray.mk #[]))) rfl ?_)
    refine Run.region_end ?_
    refine Run.ret ⟨.inr rfl, ?_⟩
    exact hS.imp fun h' hq => ⟨(ByteArray.mk #[]), rfl, hq⟩
  · have hS := hT rfl; clear hT hF
    refine Run.go rfl rfl rfl (sem_not true rfl ?_)
    refine Run.region_end ?_
    refine Run.condF rfl ?_
    refine Run.skip ?_
    refine Run.seq ?_
    refine Run.ops0 (idx := [0, 1, 2, 3, 4, 5, 6]) rfl ?_
    refine Run.go rfl rfl rfl (sem_move ((Value.pointer p1)) rfl ?_)
    refine Run.go rfl rfl rfl (sem_move ((Value.int .i64 (i2))) rfl ?_)
    obtain ⟨A6, e7, hS⟩ := hS
    refine Run.go rfl rfl rfl (sem_nilCheck A6 (congrArg Value.pointer e7) ?_)
    refine Run.go rfl rfl rfl (sem_fieldAddr A6 0 rfl TF.fld_143_0 ?_)
    obtain ⟨hi0, hi1, hS⟩ := hS
    refine Run.go rfl rfl rfl (sem_indexAddrA A6 .i64 (i2) rfl rfl TF.arr_82 hi0 hi1 ?_)
    obtain ⟨s8, hl, hS⟩ := hS
    refine Run.go rfl rfl rfl (sem_load1 (Addr.add A6 (Int.toNat (i2) * 1)) ((Value.string s8)) rfl TF.agg_9 hl ?_)
    refine Run.go rfl rfl rfl (sem_assign ((Value.string s8)) rfl ?_)
    refine Run.region_end ?_
    refine Run.ret ⟨.inr rfl, ?_⟩
    exact hS.imp fun h' hq => ⟨s8, rfl, hq⟩
set_option maxHeartbeats 4000000 in
theorem C_feed_Feed_Left.of {B : RO} {p1 : Option Addr} {i2 : Int} {h : Heap} {Q : ByteArray → Heap → Prop} (hS : S_feed_Feed_Left B p1 i2 h Q) : C_feed_Feed_Left B p1 i2 h Q := by
  unfold S_feed_Feed_Left at hS
  unfold C_feed_Feed_Left
  refine Spec.of_run Try.func48 (N := 18) (rs := [ResultVar.tmp 4]) rfl rfl rfl (Nat.le_of_ble_eq_true rfl) ?_
  refine Run.seq ?_
  refine Run.ops0 (idx := [0]) rfl ?_
  refine Run.go rfl rfl rfl (sem_assign ((Value.string (ByteArray.mk #[]))) rfl ?_)
  refine Run.region_end ?_
  refine Run.seq ?_
  refine Run.ops0 (idx := [0, 1, 2, 3, 4, 5, 6, 7]) rfl ?_
  refine Run.go rfl rfl rfl (sem_move ((Value.pointer p1)) rfl ?_)
  refine Run.go rfl rfl rfl (sem_move ((Value.int .i64 (i2))) rfl ?_)
  refine Run.go rfl rfl rfl (sem_callL [(Value.pointer p1), (Value.int .i64 (i2))] (TF.goes_50) rfl rfl (Spec.mono hS fun v h4 hv => ?_))
  obtain ⟨i5, i6, rfl, hS⟩ := hv
  refine Run.go rfl rfl rfl (sem_move ((Value.tuple #[(Value.int .i64 (i5)), (Value.int .i64 (i6))])) rfl ?_)
  refine Run.go rfl rfl rfl (sem_extract #[(Value.int .i64 (i5)), (Value.int .i64 (i6))] ((Value.int .i64 (i5))) rfl rfl ?_)
  refine Run.go rfl rfl rfl (sem_extract #[(Value.int .i64 (i5)), (Value.int .i64 (i6))] ((Value.int .i64 (i6))) rfl rfl ?_)
  refine Run.go rfl rfl rfl (sem_assign ((Value.int .i64 (i5))) rfl ?_)
  refine Run.go rfl rfl rfl (sem_assign ((Value.int .i64 (i6))) rfl ?_)
  refine Run.region_end ?_
  refine Run.seq ?_
  refine Run.ops0 (idx := [0, 1, 2, 3, 4, 5]) rfl ?_
  refine Run.go rfl rfl rfl (sem_move ((Value.pointer p1)) rfl ?_)
  refine Run.go rfl rfl rfl (sem_move ((Value.int .i64 (i2))) rfl ?_)
  refine Run.go rfl rfl rfl (sem_callL [(Value.pointer p1), (Value.int .i64 (i2))] (TF.goes_47) rfl rfl (Spec.mono hS fun v h7 hv => ?_))
  obtain ⟨s8, rfl, hS⟩ := hv
  refine Run.go rfl rfl rfl (sem_move ((Value.int .i64 (i5))) rfl ?_)
  obtain ⟨hi0, hi1, hi2, hS⟩ := hS
  refine Run.go rfl rfl rfl (sem_sliceStrI s8 (i5) ((ByteArray.size s8 : Nat)) rfl TF.isStr_9 ⟨_, rfl⟩ rfl hi0 hi1 hi2 ?_)
  refine Run.go rfl rfl rfl (sem_assign ((Value.string (ByteArray.extract s8 (Int.toNat (i5)) (Int.toNat ((ByteArray.size s8 : Nat)))))) rfl ?_)
  refine Run.region_end ?_
  refine Run.ret ⟨.inr rfl, ?_⟩
  exact hS.imp fun h' hq => ⟨(ByteArray.extract s8 (Int.toNat (i5)) (Int.toNat ((ByteArray.size s8 : Nat)))), rfl, hq⟩
set_option maxHeartbeats 4000000 in
theorem C_feed_Feed_At.of {B : RO} {p1 : Option Addr} {i2 : Int} {i3 : Int} {h : Heap} {Q : Int → Heap → Prop} (hS : S_feed_Feed_At B p1 i2 i3 h Q) : C_feed_Feed_At B p1 i2 i3 h Q := by
  unfold S_feed_Feed_At at hS
  unfold C_feed_Feed_At
  refine Spec.of_run Try.func49 (N := 35) (rs := [ResultVar.tmp 6]) rfl rfl rfl (Nat.le_of_ble_eq_true rfl) ?_
  refine Run.seq ?_
  refine Run.ops0 (idx := [0]) rfl ?_
  refine Run.go rfl rfl rfl (sem_assign ((Value.int .i64 (0))) rfl ?_)
  refine Run.region_end ?_
  refine Run.seqJ (fun e h6 => Agree [(0, (Value.pointer p1)), (1, (Value.int .i64 (i2))), (2, (Value.int .i64 (i3)))] e ∧ S_feed_Feed_At_J1 B p1 i2 i3 h6 Q) ?_ fun j5 => ?_
  · rintro e h6 ⟨hag, hS⟩
    refine Run.env hag ?_; clear hag
    refine Run.seq ?_
    refine Run.ops0 (idx := [0, 1, 2, 3, 4, 5, 6, 7, 8, 9]) rfl ?_
    refine Run.go rfl rfl rfl (sem_move ((Value.pointer p1)) rfl ?_)
    refine Run.go rfl rfl rfl (sem_move ((Value.int .i64 (i2))) rfl ?_)
    obtain ⟨A7, e8, hS⟩ := hS
    refine Run.go rfl rfl rfl (sem_nilCheck A7 (congrArg Value.pointer e8) ?_)
    refine Run.go rfl rfl rfl (sem_fieldAddr A7 0 rfl TF.fld_143_0 ?_)
    obtain ⟨hi0, hi1, hS⟩ := hS
    refine Run.go rfl rfl rfl (sem_indexAddrA A7 .i64 (i2) rfl rfl TF.arr_82 hi0 hi1 ?_)
    obtain ⟨s9, hl, hS⟩ := hS
    refine Run.go rfl rfl rfl (sem_load1 (Addr.add A7 (Int.toNat (i2) * 1)) ((Value.string s9)) rfl TF.agg_9 hl ?_)
    refine Run.go rfl rfl rfl (sem_move ((Value.int .i64 (i3))) rfl ?_)
    obtain ⟨hi0, hi1, hS⟩ := hS
    refine Run.go rfl rfl rfl (sem_indexStr' s9 .i64 (i3) rfl rfl TF.isStr_9 hi0 hi1 ?_)
    refine Run.go rfl rfl rfl (sem_convI .u8 .i64 (byteAt s9 (Int.toNat (i3))) rfl TF.int_5 TF.int_3 ?_)
    refine Run.go rfl rfl rfl (sem_assign ((Value.int .i64 (IntKind.wrap .i64 (byteAt s9 (Int.toNat (i3)))))) rfl ?_)
    refine Run.region_end ?_
    refine Run.ret ⟨.inr rfl, ?_⟩
    exact hS.imp fun h' hq => ⟨(IntKind.wrap .i64 (byteAt s9 (Int.toNat (i3)))), rfl, hq⟩
  refine Run.seq ?_
  refine Run.ops0 (idx := [0, 1, 2, 3, 4, 5, 6, 7, 8, 9, 10, 11, 12, 13, 14, 15, 16, 17, 18]) rfl ?_
  refine Run.go rfl rfl rfl (sem_move ((Value.pointer p1)) rfl ?_)
  refine Run.go rfl rfl rfl (sem_move ((Value.int .i64 (i2))) rfl ?_)
  refine Run.go rfl rfl rfl (sem_callL [(Value.pointer p1), (Value.int .i64 (i2))] (TF.goes_76) rfl rfl (Spec.mono hS fun v h10 hv => ?_))
  obtain ⟨b11, rfl, hS⟩ := hv
  obtain ⟨hT, hF⟩ := hS
  cases b11
  · have hS := hF rfl; clear hT hF
    refine Run.go rfl rfl rfl (sem_not false rfl ?_)
    refine Run.go rfl rfl rfl (sem_move ((Value.bool true)) rfl ?_)
    refine Run.no rfl rfl rfl ?_
    refine Run.no rfl rfl rfl ?_
    refine Run.go rfl rfl rfl (sem_pick true ((Value.bool true)) rfl rfl ?_)
    refine Run.go rfl rfl rfl (sem_move ((Value.bool true)) rfl ?_)
    refine Run.no rfl rfl rfl ?_
    refine Run.no rfl rfl rfl ?_
    refine Run.no rfl rfl rfl ?_
    refine Run.no rfl rfl rfl ?_
    refine Run.no rfl rfl rfl ?_
    refine Run.no rfl rfl rfl ?_
    refine Run.no rfl rfl rfl ?_
    refine Run.no rfl rfl rfl ?_
    refine Run.no rfl rfl rfl ?_
    refine Run.go rfl rfl rfl (sem_pick true ((Value.bool true)) rfl rfl ?_)
    refine Run.region_end ?_
    refine Run.condT rfl ?_
    refine Run.seq ?_
    refine Run.ops0 (idx := [0]) rfl ?_
    refine Run.go rfl rfl rfl (sem_assign ((Value.int .i64 ((-1)))) rfl ?_)
    refine Run.region_end ?_
    refine Run.ret ⟨.inr rfl, ?_⟩
    exact hS.imp fun h' hq => ⟨((-1)), rfl, hq⟩
  · have hS := hT rfl; clear hT hF
    refine Run.go rfl rfl rfl (sem_not true rfl ?_)
    refine Run.go rfl rfl rfl (sem_move ((Value.bool false)) rfl ?_)
    refine Run.go rfl rfl rfl (sem_move ((Value.int .i64 (i3))) rfl ?_)
    obtain ⟨hT, hF⟩ := hS
    by_cases hb12 : (i3 : Int) < (0)
    · have hS := hT hb12; clear hT hF
      refine Run.go rfl rfl rfl (sem_binI .i64 (i3) (0) (.bool true) rfl rfl (binI_lss_t hb12) ?_)
      refine Run.go rfl rfl rfl (sem_pick false ((Value.bool true)) rfl rfl ?_)
      refine Run.go rfl rfl rfl (sem_move ((Value.bool true)) rfl ?_)
      refine Run.no rfl rfl rfl ?_
      refine Run.no rfl rfl rfl ?_
      refine Run.no rfl rfl rfl ?_
      refine Run.no rfl rfl rfl ?_
      refine Run.no rfl rfl rfl ?_
      refine Run.no rfl rfl rfl ?_
      refine Run.no rfl rfl rfl ?_
      refine Run.no rfl rfl rfl ?_
      refine Run.no rfl rfl rfl ?_
      refine Run.go rfl rfl rfl (sem_pick true ((Value.bool true)) rfl rfl ?_)
      refine Run.region_end ?_
      refine Run.condT rfl ?_
      refine Run.seq ?_
      refine Run.ops0 (idx := [0]) rfl ?_
      refine Run.go rfl rfl rfl (sem_assign ((Value.int .i64 ((-1)))) rfl ?_)
      refine Run.region_end ?_
      refine Run.ret ⟨.inr rfl, ?_⟩
      exact hS.imp fun h' hq => ⟨((-1)), rfl, hq⟩
    · have hS := hF hb12; clear hT hF
      refine Run.go rfl rfl rfl (sem_binI .i64 (i3) (0) (.bool false) rfl rfl (binI_lss_f hb12) ?_)
      refine Run.go rfl rfl rfl (sem_pick false ((Value.bool false)) rfl rfl ?_)
      refine Run.go rfl rfl rfl (sem_move ((Value.bool false)) rfl ?_)
      refine Run.go rfl rfl rfl (sem_move ((Value.int .i64 (i3))) rfl ?_)
      refine Run.go rfl rfl rfl (sem_move ((Value.pointer p1)) rfl ?_)
      refine Run.go rfl rfl rfl (sem_move ((Value.int .i64 (i2))) rfl ?_)
      obtain ⟨A13, e14, hS⟩ := hS
      refine Run.go rfl rfl rfl (sem_nilCheck A13 (congrArg Value.pointer e14) ?_)
      refine Run.go rfl rfl rfl (sem_fieldAddr A13 0 rfl TF.fld_143_0 ?_)
      obtain ⟨hi0, hi1, hS⟩ := hS
      refine Run.go rfl rfl rfl (sem_indexAddrA A13 .i64 (i2) rfl rfl TF.arr_82 hi0 hi1 ?_)
      obtain ⟨s15, hl, hS⟩ := hS
      refine Run.go rfl rfl rfl (sem_load1 (Addr.add A13 (Int.toNat (i2) * 1)) ((Value.string s15)) rfl TF.agg_9 hl ?_)
      refine Run.go rfl rfl rfl (sem_lenStr s15 rfl TF.isStr_9 ?_)
      obtain ⟨hT, hF⟩ := hS
      by_cases hb16 : (i3 : Int) ≥ ((ByteArray.size s15 : Nat))
      · have hS := hT hb16; clear hT hF
        refine Run.go rfl rfl rfl (sem_binI .i64 (i3) ((ByteArray.size s15 : Nat)) (.bool true) rfl rfl (binI_geq_t hb16) ?_)
        refine Run.go rfl rfl rfl (sem_pick false ((Value.bool true)) rfl rfl ?_)
        refine Run.region_end ?_
        refine Run.condT rfl ?_
        refine Run.seq ?_
        refine Run.ops0 (idx := [0]) rfl ?_
        refine Run.go rfl rfl rfl (sem_assign ((Value.int .i64 ((-1)))) rfl ?_)
        refine Run.region_end ?_
        refine Run.ret ⟨.inr rfl, ?_⟩
        exact hS.imp fun h' hq => ⟨((-1)), rfl, hq⟩
      · have hS := hF hb16; clear hT hF
        refine Run.go rfl rfl rfl (sem_binI .i64 (i3) ((ByteArray.size s15 : Nat)) (.bool false) rfl rfl (binI_geq_f hb16) ?_)
        refine Run.go rfl rfl rfl (sem_pick false ((Value.bool false)) rfl rfl ?_)
        refine Run.region_end ?_
        refine Run.condF rfl ?_
        refine Run.skip ?_
        exact Run.of_fin (hS.imp fun h' hS => j5 _ _ ⟨⟨rfl, rfl, rfl, trivial⟩, hS⟩)
set_option maxHeartbeats 4000000 in
theorem C_feed_Feed_Place.of {B : RO} {p1 : Option Addr} {i2 : Int} {h : Heap} {Q : Int → Int → Heap → Prop} (hS : S_feed_Feed_Place B p1 i2 h Q) : C_feed_Feed_Place B p1 i2 h Q := by
  unfold S_feed_Feed_Place at hS
  unfold C_feed_Feed_Place
  refine Spec.of_run Try.func50 (N := 16) (rs := [ResultVar.tmp 4, ResultVar.tmp 5]) rfl rfl rfl (Nat.le_of_ble_eq_true rfl) ?_
  refine Run.seq ?_
  refine Run.ops0 (idx := [0, 1]) rfl ?_
  refine Run.go rfl rfl rfl (sem_assign ((Value.int .i64 (0))) rfl ?_)
  refine Run.go rfl rfl rfl (sem_assign ((Value.int .i64 (0))) rfl ?_)
  refine Run.region_end ?_
  refine Run.seq ?_
  refine Run.seq ?_
  refine Run.ops0 (idx := [0, 1]) rfl ?_
  refine Run.go rfl rfl rfl (sem_move ((Value.pointer p1)) rfl ?_)
  obtain ⟨hT, hF⟩ := hS
  by_cases hb5 : p1 = none
  · have hS := hT hb5; clear hT hF
    refine Run.go rfl rfl rfl (sem_ptrNilT p1 (.inl rfl) true rfl rfl TF.ptr_79 hb5 rfl ?_)
    refine Run.region_end ?_
    refine Run.condT rfl ?_
    refine Run.seq ?_
    refine Run.ops0 (idx := [0, 1]) rfl ?_
    refine Run.go rfl rfl rfl (sem_assign ((Value.int .i64 (0))) rfl ?_)
    refine Run.go rfl rfl rfl (sem_assign ((Value.int .i64 (0))) rfl ?_)
    refine Run.region_end ?_
    refine Run.ret ⟨.inr rfl, ?_⟩
    exact hS.imp fun h' hq => ⟨(0), (0), rfl, hq⟩
  · have hS := hF hb5; clear hT hF
    refine Run.go rfl rfl rfl (sem_ptrNilF p1 (.inl rfl) false rfl rfl TF.ptr_79 hb5 rfl ?_)
    refine Run.region_end ?_
    refine Run.condF rfl ?_
    refine Run.skip ?_
    refine Run.seq ?_
    refine Run.ops0 (idx := [0, 1, 2, 3, 4, 5, 6, 7, 8, 9]) rfl ?_
    refine Run.go rfl rfl rfl (sem_move ((Value.pointer p1)) rfl ?_)
    obtain ⟨A6, e7, hS⟩ := hS
    refine Run.go rfl rfl rfl (sem_nilCheck A6 (congrArg Value.pointer e7) ?_)
    refine Run.go rfl rfl rfl (sem_fieldAddr A6 3 rfl TF.fld_143_1 ?_)
    obtain ⟨p8, hl, hS⟩ := hS
    refine Run.go rfl rfl rfl (sem_load1 (Addr.add A6 3) ((Value.pointer p8)) rfl TF.agg_36 hl ?_)
    refine Run.go rfl rfl rfl (sem_move ((Value.int .i64 (i2))) rfl ?_)
    refine Run.go rfl rfl rfl (sem_callL [(Value.pointer p8), (Value.int .i64 (i2))] (TF.goes_30) rfl rfl (Spec.mono hS fun v h9 hv => ?_))
    obtain ⟨i10, i11, rfl, hS⟩ := hv
    refine Run.go rfl rfl rfl (sem_extract #[(Value.int .i64 (i10)), (Value.int .i64 (i11))] ((Value.int .i64 (i10))) rfl rfl ?_)
    refine Run.go rfl rfl rfl (sem_extract #[(Value.int .i64 (i10)), (Value.int .i64 (i11))] ((Value.int .i64 (i11))) rfl rfl ?_)
    refine Run.go rfl rfl rfl (sem_assign ((Value.int .i64 (i10))) rfl ?_)
    refine Run.go rfl rfl rfl (sem_assign ((Value.int .i64 (i11))) rfl ?_)
    refine Run.region_end ?_
    refine Run.ret ⟨.inr rfl, ?_⟩
    exact hS.imp fun h' hq => ⟨(i10), (i11), rfl, hq⟩
set_option maxHeartbeats 4000000 in
theorem C_cell_Row_int_is.of {B : RO} {p1 : Option Addr} {i2 : Int} {h : Heap} {Q : Bool → Heap → Prop} (hS : S_cell_Row_int_is B p1 i2 h Q) : C_cell_Row_int_is B p1 i2 h Q := by
  unfold S_cell_Row_int_is at hS
  unfold C_cell_Row_int_is
  refine Spec.of_run Try.func68 (N := 20) (rs := [ResultVar.tmp 4]) rfl rfl rfl (Nat.le_of_ble_eq_true rfl) ?_
  refine Run.seq ?_
  refine Run.ops0 (idx := [0]) rfl ?_
  refine Run.go rfl rfl rfl (sem_assign ((Value.bool false)) rfl ?_)
  refine Run.region_end ?_
  refine Run.seq ?_
  refine Run.ops0 (idx := [0, 1, 2, 3, 4, 5, 6, 7, 8, 9, 10, 11, 12, 13, 14, 15]) rfl ?_
  refine Run.go rfl rfl rfl (sem_move ((Value.pointer p1)) rfl ?_)
  obtain ⟨hT, hF⟩ := hS
  by_cases hb4 : p1 = none
  · have hS := hT hb4; clear hT hF
    refine Run.go rfl rfl rfl (sem_ptrNilT p1 (.inr rfl) false rfl rfl TF.ptr_36 hb4 rfl ?_)
    refine Run.go rfl rfl rfl (sem_move ((Value.bool false)) rfl ?_)
    refine Run.no rfl rfl rfl ?_
    refine Run.no rfl rfl rfl ?_
    refine Run.go rfl rfl rfl (sem_pick false ((Value.bool false)) rfl rfl ?_)
    refine Run.go rfl rfl rfl (sem_move ((Value.bool false)) rfl ?_)
    refine Run.no rfl rfl rfl ?_
    refine Run.no rfl rfl rfl ?_
    refine Run.no rfl rfl rfl ?_
    refine Run.no rfl rfl rfl ?_
    refine Run.no rfl rfl rfl ?_
    refine Run.no rfl rfl rfl ?_
    refine Run.no rfl rfl rfl ?_
    refine Run.go rfl rfl rfl (sem_pick false ((Value.bool false)) rfl rfl ?_)
    refine Run.go rfl rfl rfl (sem_assign ((Value.bool false)) rfl ?_)
    refine Run.region_end ?_
    refine Run.ret ⟨.inr rfl, ?_⟩
    exact hS.imp fun h' hq => ⟨(false), rfl, hq⟩
  · have hS := hF hb4; clear hT hF
    refine Run.go rfl rfl rfl (sem_ptrNilF p1 (.inr rfl) true rfl rfl TF.ptr_36 hb4 rfl ?_)
    refine Run.go rfl rfl rfl (sem_move ((Value.bool true)) rfl ?_)
    refine Run.go rfl rfl rfl (sem_move ((Value.int .i64 (i2))) rfl ?_)
    obtain ⟨hT, hF⟩ := hS
    by_cases hb5 : (i2 : Int) ≥ (0)
    · have hS := hT hb5; clear hT hF
      refine Run.go rfl rfl rfl (sem_binI .i64 (i2) (0) (.bool true) rfl rfl (binI_geq_t hb5) ?_)
      refine Run.go rfl rfl rfl (sem_pick true ((Value.bool true)) rfl rfl ?_)
      refine Run.go rfl rfl rfl (sem_move ((Value.bool true)) rfl ?_)
      refine Run.go rfl rfl rfl (sem_move ((Value.int .i64 (i2))) rfl ?_)
      refine Run.go rfl rfl rfl (sem_move ((Value.pointer p1)) rfl ?_)
      obtain ⟨A6, e7, hS⟩ := hS
      refine Run.go rfl rfl rfl (sem_nilCheck A6 (congrArg Value.pointer e7) ?_)
      refine Run.go rfl rfl rfl (sem_fieldAddr A6 0 rfl TF.fld_127_0 ?_)
      refine Run.ldSl hS fun a8 n9 c10 h11 hl hS => ?_
      refine Run.go rfl rfl rfl (sem_load1 A6 ((Value.slice a8 n9 c10)) rfl TF.agg_125 hl ?_)
      refine Run.go rfl rfl rfl (sem_lenSl a8 n9 c10 rfl TF.sl_125 ?_)
      refine Run.go rfl rfl rfl (sem_binI .i64 (i2) ((n9 : Nat)) ((Value.bool (decide ((i2 : Int) < ((n9 : Nat)))))) rfl rfl rfl ?_)
      refine Run.go rfl rfl rfl (sem_pick true ((Value.bool (decide ((i2 : Int) < ((n9 : Nat)))))) rfl rfl ?_)
      refine Run.go rfl rfl rfl (sem_assign ((Value.bool (decide ((i2 : Int) < ((n9 : Nat)))))) rfl ?_)
      refine Run.region_end ?_
      refine Run.ret ⟨.inr rfl, ?_⟩
      exact hS.imp fun h' hq => ⟨((decide ((i2 : Int) < ((n9 : Nat))))), rfl, hq⟩
    · have hS := hF hb5; clear hT hF
      refine Run.go rfl rfl rfl (sem_binI .i64 (i2) (0) (.bool false) rfl rfl (binI_geq_f hb5) ?_)
      refine Run.go rfl rfl rfl (sem_pick true ((Value.bool false)) rfl rfl ?_)
      refine Run.go rfl rfl rfl (sem_move ((Value.bool false)) rfl ?_)
      refine Run.no rfl rfl rfl ?_
      refine Run.no rfl rfl rfl ?_
      refine Run.no rfl rfl rfl ?_
      refine Run.no rfl rfl rfl ?_
      refine Run.no rfl rfl rfl ?_
      refine Run.no rfl rfl rfl ?_
      refine Run.no rfl rfl rfl ?_
      refine Run.go rfl rfl rfl (sem_pick false ((Value.bool false)) rfl rfl ?_)
      refine Run.go rfl rfl rfl (sem_assign ((Value.bool false)) rfl ?_)
      refine Run.region_end ?_
      refine Run.ret ⟨.inr rfl, ?_⟩
      exact hS.imp fun h' hq => ⟨(false), rfl, hq⟩
set_option maxHeartbeats 4000000 in
theorem C_feed_Feed_is.of {B : RO} {p1 : Option Addr} {i2 : Int} {h : Heap} {Q : Bool → Heap → Prop} (hS : S_feed_Feed_is B p1 i2 h Q) : C_feed_Feed_is B p1 i2 h Q := by
  unfold S_feed_Feed_is at hS
  unfold C_feed_Feed_is
  refine Spec.of_run Try.func76 (N := 15) (rs := [ResultVar.tmp 4]) rfl rfl rfl (Nat.le_of_ble_eq_true rfl) ?_
  refine Run.seq ?_
  refine Run.ops0 (idx := [0]) rfl ?_
  refine Run.go rfl rfl rfl (sem_assign ((Value.bool false)) rfl ?_)
  refine Run.region_end ?_
  refine Run.seq ?_
  refine Run.ops0 (idx := [0, 1, 2, 3, 4, 5, 6, 7, 8, 9, 10]) rfl ?_
  refine Run.go rfl rfl rfl (sem_move ((Value.pointer p1)) rfl ?_)
  obtain ⟨hT, hF⟩ := hS
  by_cases hb4 : p1 = none
  · have hS := hT hb4; clear hT hF
    refine Run.go rfl rfl rfl (sem_ptrNilT p1 (.inr rfl) false rfl rfl TF.ptr_79 hb4 rfl ?_)
    refine Run.go rfl rfl rfl (sem_move ((Value.bool false)) rfl ?_)
    refine Run.no rfl rfl rfl ?_
    refine Run.no rfl rfl rfl ?_
    refine Run.go rfl rfl rfl (sem_pick false ((Value.bool false)) rfl rfl ?_)
    refine Run.go rfl rfl rfl (sem_move ((Value.bool false)) rfl ?_)
    refine Run.no rfl rfl rfl ?_
    refine Run.no rfl rfl rfl ?_
    refine Run.go rfl rfl rfl (sem_pick false ((Value.bool false)) rfl rfl ?_)
    refine Run.go rfl rfl rfl (sem_assign ((Value.bool false)) rfl ?_)
    refine Run.region_end ?_
    refine Run.ret ⟨.inr rfl, ?_⟩
    exact hS.imp fun h' hq => ⟨(false), rfl, hq⟩
  · have hS := hF hb4; clear hT hF
    refine Run.go rfl rfl rfl (sem_ptrNilF p1 (.inr rfl) true rfl rfl TF.ptr_79 hb4 rfl ?_)
    refine Run.go rfl rfl rfl (sem_move ((Value.bool true)) rfl ?_)
    refine Run.go rfl rfl rfl (sem_move ((Value.int .i64 (i2))) rfl ?_)
    obtain ⟨hT, hF⟩ := hS
    by_cases hb5 : (i2 : Int) ≥ (0)
    · have hS := hT hb5; clear hT hF
      refine Run.go rfl rfl rfl (sem_binI .i64 (i2) (0) (.bool true) rfl rfl (binI_geq_t hb5) ?_)
      refine Run.go rfl rfl rfl (sem_pick true ((Value.bool true)) rfl rfl ?_)
      refine Run.go rfl rfl rfl (sem_move ((Value.bool true)) rfl ?_)
      refine Run.go rfl rfl rfl (sem_move ((Value.int .i64 (i2))) rfl ?_)
      refine Run.go rfl rfl rfl (sem_binI .i64 (i2) (3) ((Value.bool (decide ((i2 : Int) < (3))))) rfl rfl rfl ?_)
      refine Run.go rfl rfl rfl (sem_pick true ((Value.bool (decide ((i2 : Int) < (3))))) rfl rfl ?_)
      refine Run.go rfl rfl rfl (sem_assign ((Value.bool (decide ((i2 : Int) < (3))))) rfl ?_)
      refine Run.region_end ?_
      refine Run.ret ⟨.inr rfl, ?_⟩
      exact hS.imp fun h' hq => ⟨((decide ((i2 : Int) < (3)))), rfl, hq⟩
    · have hS := hF hb5; clear hT hF
      refine Run.go rfl rfl rfl (sem_binI .i64 (i2) (0) (.bool false) rfl rfl (binI_geq_f hb5) ?_)
      refine Run.go rfl rfl rfl (sem_pick true ((Value.bool false)) rfl rfl ?_)
      refine Run.go rfl rfl rfl (sem_move ((Value.bool false)) rfl ?_)
      refine Run.no rfl rfl rfl ?_
      refine Run.no rfl rfl rfl ?_
      refine Run.go rfl rfl rfl (sem_pick false ((Value.bool false)) rfl rfl ?_)
      refine Run.go rfl rfl rfl (sem_assign ((Value.bool false)) rfl ?_)
      refine Run.region_end ?_
      refine Run.ret ⟨.inr rfl, ?_⟩
      exact hS.imp fun h' hq => ⟨(false), rfl, hq⟩
end Go.Proofs.Ythlnibaechobmaa.H
